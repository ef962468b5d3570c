/- What the proof stands on, part 4: the walk of each function, and plain laws of numbers. -/
import Derived.Test.YtlfadlfjjkppfaaGreatDoorK3
import Derived.Test.YtlfadlfjjkppfaaGreatDoorProg
import Derived.KernelRfl
import Derived.Laws.Externs
namespace Go.Proofs.YtlfadlfjjkppfaaGreatDoor
open Go Sim
set_option maxRecDepth 10000
def Tb : Tab where
  sl := [(22, 45), (23, 34), (25, 5), (38, 57), (40, 54), (57, 51), (63, 9), (69, 71), (85, 93), (90, 95), (107, 169), (120, 3), (139, 148), (157, 5), (192, 25)]
  arr := [(52, 4, 51), (55, 32, 5), (74, 12, 51), (75, 12, 51), (135, 27, 51), (206, 25, 51), (207, 25, 51), (226, 5, 51), (247, 200, 5), (264, 3, 54), (265, 3, 54), (266, 65, 265), (267, 3, 265), (268, 3, 265), (292, 24, 51), (297, 0, 16), (345, 80, 4), (369, 96, 5)]
  int := [(2, .i64), (3, .i64), (5, .u8), (6, .u8), (12, .u64), (21, .i32), (29, .i64), (51, .u64), (190, .u64), (255, .u32), (300, .u8), (301, .u8), (304, .i32), (305, .i32)]
  sz := [(2, 1), (3, 1), (5, 1), (6, 1), (12, 1), (21, 1), (29, 1), (51, 1), (190, 1), (255, 1), (300, 1), (301, 1), (304, 1), (305, 1), (4, 1), (22, 1), (23, 1), (25, 1), (38, 1), (40, 1), (57, 1), (63, 1), (69, 1), (85, 1), (90, 1), (107, 1), (120, 1), (139, 1), (157, 1), (192, 1), (52, 4), (55, 32), (74, 12), (75, 12), (135, 27), (206, 25), (207, 25), (226, 5), (247, 200), (264, 12), (265, 12), (266, 780), (267, 36), (268, 36), (292, 24), (297, 0), (345, 80), (369, 96), (7, 4), (8, 4), (13, 2), (14, 2), (18, 1), (19, 1), (33, 4), (34, 4), (44, 4), (45, 4), (53, 4), (54, 4), (70, 4), (71, 4), (86, 3), (87, 3), (93, 4), (94, 2), (95, 2), (103, 34), (104, 34), (111, 1), (112, 1), (115, 1), (116, 1), (127, 4), (144, 12), (145, 12), (148, 12), (154, 0), (155, 0), (163, 3), (164, 3), (169, 4), (179, 1), (180, 1), (183, 3), (184, 3), (208, 26), (209, 26), (213, 0), (218, 1), (219, 1), (234, 1), (235, 1), (239, 2), (240, 2), (249, 5), (250, 5), (251, 5), (252, 5), (253, 0), (254, 0), (256, 1), (257, 1), (258, 2), (259, 2), (260, 2), (261, 2), (262, 3), (263, 3), (269, 819), (270, 819), (278, 3), (279, 3), (295, 4), (296, 4), (298, 0), (299, 0), (306, 11), (307, 11), (346, 81), (347, 81), (1, 1), (9, 1), (10, 1), (11, 1), (15, 1), (16, 1), (17, 1), (20, 1), (24, 1), (27, 1), (28, 1), (31, 1), (32, 1), (35, 1), (36, 1), (37, 1), (39, 1), (42, 1), (43, 1), (46, 1), (47, 1), (49, 1), (50, 1), (56, 1), (59, 1), (60, 1), (61, 1), (62, 1), (64, 1), (65, 1), (67, 1), (68, 1), (72, 1), (73, 1), (76, 1), (77, 1), (78, 1), (79, 1), (81, 1), (82, 1), (83, 1), (84, 1), (89, 1), (92, 1), (97, 1), (98, 1), (100, 1), (101, 1), (102, 1), (106, 1), (108, 1), (109, 1), (110, 1), (113, 1), (114, 1), (117, 1), (118, 1), (119, 1), (121, 1), (123, 1), (125, 1), (126, 1), (128, 1), (129, 1), (130, 1), (131, 1), (132, 1), (133, 1), (134, 1), (136, 1), (137, 1), (138, 1), (141, 1), (143, 1), (147, 1), (149, 1), (150, 1), (151, 1), (152, 1), (153, 1), (158, 1), (159, 1), (161, 1), (162, 1), (166, 1), (167, 1), (168, 1), (170, 1), (171, 1), (172, 1), (173, 1), (174, 1), (175, 1), (176, 1), (177, 1), (178, 1), (181, 1), (182, 1), (185, 1), (186, 1), (187, 1), (188, 1), (189, 1), (191, 1), (193, 1), (194, 1), (196, 1), (197, 1), (198, 1), (199, 1), (200, 1), (201, 1), (202, 1), (204, 1), (205, 1), (210, 1), (212, 1), (215, 1), (216, 1), (217, 1), (220, 1), (221, 1), (222, 1), (224, 1), (225, 1), (228, 1), (229, 1), (230, 1), (231, 1), (232, 1), (233, 1), (236, 1), (237, 1), (238, 1), (241, 1), (242, 1), (243, 1), (244, 1), (245, 1), (246, 1), (248, 1), (272, 1), (273, 1), (275, 1), (276, 1), (277, 1), (280, 1), (282, 1), (283, 1), (284, 1), (285, 1), (286, 1), (287, 1), (288, 1), (290, 1), (291, 1), (293, 1), (294, 1), (302, 1), (303, 1), (309, 1), (310, 1), (311, 1), (313, 1), (314, 1), (315, 1), (316, 1), (317, 1), (318, 1), (319, 1), (320, 1), (321, 1), (322, 1), (323, 1), (324, 1), (325, 1), (326, 1), (327, 1), (328, 1), (329, 1), (331, 1), (332, 1), (333, 1), (334, 1), (335, 1), (336, 1), (337, 1), (338, 1), (340, 1), (341, 1), (342, 1), (343, 1), (344, 1), (348, 1), (349, 1), (350, 1), (351, 1), (352, 1), (353, 1), (354, 1), (355, 1), (356, 1), (357, 1), (358, 1), (359, 1), (360, 1), (361, 1), (363, 1), (364, 1), (365, 1), (366, 1), (367, 1), (368, 1)]
  agg := [(2, false), (3, false), (5, false), (6, false), (12, false), (21, false), (29, false), (51, false), (190, false), (255, false), (300, false), (301, false), (304, false), (305, false), (4, false), (22, false), (23, false), (25, false), (38, false), (40, false), (57, false), (63, false), (69, false), (85, false), (90, false), (107, false), (120, false), (139, false), (157, false), (192, false), (52, true), (55, true), (74, true), (75, true), (135, true), (206, true), (207, true), (226, true), (247, true), (264, true), (265, true), (266, true), (267, true), (268, true), (292, true), (297, true), (345, true), (369, true), (7, true), (8, true), (13, true), (14, true), (18, true), (19, true), (33, true), (34, true), (44, true), (45, true), (53, true), (54, true), (70, true), (71, true), (86, true), (87, true), (93, true), (94, true), (95, true), (103, true), (104, true), (111, true), (112, true), (115, true), (116, true), (127, true), (144, true), (145, true), (148, true), (154, true), (155, true), (163, true), (164, true), (169, true), (179, true), (180, true), (183, true), (184, true), (208, true), (209, true), (213, true), (218, true), (219, true), (234, true), (235, true), (239, true), (240, true), (249, true), (250, true), (251, true), (252, true), (253, true), (254, true), (256, true), (257, true), (258, true), (259, true), (260, true), (261, true), (262, true), (263, true), (269, true), (270, true), (278, true), (279, true), (295, true), (296, true), (298, true), (299, true), (306, true), (307, true), (346, true), (347, true), (1, false), (9, false), (10, false), (11, false), (15, false), (16, false), (17, false), (20, false), (24, false), (27, false), (28, false), (31, false), (32, false), (35, false), (36, false), (37, false), (39, false), (42, false), (43, false), (46, false), (47, false), (49, false), (50, false), (56, false), (59, false), (60, false), (61, false), (62, false), (64, false), (65, false), (67, false), (68, false), (72, false), (73, false), (76, false), (77, false), (78, false), (79, false), (81, false), (82, false), (83, false), (84, false), (89, false), (92, false), (97, false), (98, false), (100, false), (101, false), (102, false), (106, false), (108, false), (109, false), (110, false), (113, false), (114, false), (117, false), (118, false), (119, false), (121, false), (123, false), (125, false), (126, false), (128, false), (129, false), (130, false), (131, false), (132, false), (133, false), (134, false), (136, false), (137, false), (138, false), (141, false), (143, false), (147, false), (149, false), (150, false), (151, false), (152, false), (153, false), (158, false), (159, false), (161, false), (162, false), (166, false), (167, false), (168, false), (170, false), (171, false), (172, false), (173, false), (174, false), (175, false), (176, false), (177, false), (178, false), (181, false), (182, false), (185, false), (186, false), (187, false), (188, false), (189, false), (191, false), (193, false), (194, false), (196, false), (197, false), (198, false), (199, false), (200, false), (201, false), (202, false), (204, false), (205, false), (210, false), (212, false), (215, false), (216, false), (217, false), (220, false), (221, false), (222, false), (224, false), (225, false), (228, false), (229, false), (230, false), (231, false), (232, false), (233, false), (236, false), (237, false), (238, false), (241, false), (242, false), (243, false), (244, false), (245, false), (246, false), (248, false), (272, false), (273, false), (275, false), (276, false), (277, false), (280, false), (282, false), (283, false), (284, false), (285, false), (286, false), (287, false), (288, false), (290, false), (291, false), (293, false), (294, false), (302, false), (303, false), (309, false), (310, false), (311, false), (313, false), (314, false), (315, false), (316, false), (317, false), (318, false), (319, false), (320, false), (321, false), (322, false), (323, false), (324, false), (325, false), (326, false), (327, false), (328, false), (329, false), (331, false), (332, false), (333, false), (334, false), (335, false), (336, false), (337, false), (338, false), (340, false), (341, false), (342, false), (343, false), (344, false), (348, false), (349, false), (350, false), (351, false), (352, false), (353, false), (354, false), (355, false), (356, false), (357, false), (358, false), (359, false), (360, false), (361, false), (363, false), (364, false), (365, false), (366, false), (367, false), (368, false)]
  zero := [(2, .int .i64 0), (3, .int .i64 0), (5, .int .u8 0), (6, .int .u8 0), (12, .int .u64 0), (21, .int .i32 0), (29, .int .i64 0), (51, .int .u64 0), (190, .int .u64 0), (255, .int .u32 0), (300, .int .u8 0), (301, .int .u8 0), (304, .int .i32 0), (305, .int .i32 0), (4, .bool false), (22, .slice none 0 0), (23, .slice none 0 0), (25, .slice none 0 0), (38, .slice none 0 0), (40, .slice none 0 0), (57, .slice none 0 0), (63, .slice none 0 0), (69, .slice none 0 0), (85, .slice none 0 0), (90, .slice none 0 0), (107, .slice none 0 0), (120, .slice none 0 0), (139, .slice none 0 0), (157, .slice none 0 0), (192, .slice none 0 0), (52, .agg #[.int .u64 0, .int .u64 0, .int .u64 0, .int .u64 0]), (55, .agg (List.replicate 32 (.int .u8 0)).toArray), (74, .agg (List.replicate 12 (.int .u64 0)).toArray), (75, .agg (List.replicate 12 (.int .u64 0)).toArray), (135, .agg (List.replicate 27 (.int .u64 0)).toArray), (206, .agg (List.replicate 25 (.int .u64 0)).toArray), (207, .agg (List.replicate 25 (.int .u64 0)).toArray), (226, .agg (List.replicate 5 (.int .u64 0)).toArray), (247, .agg (List.replicate 200 (.int .u8 0)).toArray), (264, .agg (List.replicate 12 (.int .u64 0)).toArray), (265, .agg (List.replicate 12 (.int .u64 0)).toArray), (266, .agg (List.replicate 780 (.int .u64 0)).toArray), (267, .agg (List.replicate 36 (.int .u64 0)).toArray), (268, .agg (List.replicate 36 (.int .u64 0)).toArray), (292, .agg (List.replicate 24 (.int .u64 0)).toArray), (297, .agg #[]), (345, .agg (List.replicate 80 (.bool false)).toArray), (369, .agg (List.replicate 96 (.int .u8 0)).toArray), (7, .agg #[.int .i64 0, .int .i64 0, .bool false, .int .u8 0]), (8, .agg #[.int .i64 0, .int .i64 0, .bool false, .int .u8 0]), (13, .agg #[.string .empty, .int .u64 0]), (14, .agg #[.string .empty, .int .u64 0]), (18, .agg #[.pointer none]), (19, .agg #[.pointer none]), (33, .agg #[.int .i64 0, .int .i64 0, .int .i64 0, .slice none 0 0]), (34, .agg #[.int .i64 0, .int .i64 0, .int .i64 0, .slice none 0 0]), (44, .agg #[.int .i64 0, .int .i64 0, .int .i64 0, .string .empty]), (45, .agg #[.int .i64 0, .int .i64 0, .int .i64 0, .string .empty]), (53, .agg #[.int .u64 0, .int .u64 0, .int .u64 0, .int .u64 0]), (54, .agg #[.int .u64 0, .int .u64 0, .int .u64 0, .int .u64 0]), (70, .agg #[.int .i64 0, .int .i64 0, .int .i64 0, .slice none 0 0]), (71, .agg #[.int .i64 0, .int .i64 0, .int .i64 0, .slice none 0 0]), (86, .agg #[.int .i64 0, .slice none 0 0, .slice none 0 0]), (87, .agg #[.int .i64 0, .slice none 0 0, .slice none 0 0]), (93, .agg #[.int .i64 0, .int .i64 0, .int .i64 0, .slice none 0 0]), (94, .agg #[.int .i64 0, .slice none 0 0]), (95, .agg #[.int .i64 0, .slice none 0 0]), (103, .agg #[.pointer none, .int .u8 0, .int .u8 0, .int .u8 0, .int .u8 0, .int .u8 0, .int .u8 0, .int .u8 0, .int .u8 0, .int .u8 0, .int .u8 0, .int .u8 0, .int .u8 0, .int .u8 0, .int .u8 0, .int .u8 0, .int .u8 0, .int .u8 0, .int .u8 0, .int .u8 0, .int .u8 0, .int .u8 0, .int .u8 0, .int .u8 0, .int .u8 0, .int .u8 0, .int .u8 0, .int .u8 0, .int .u8 0, .int .u8 0, .int .u8 0, .int .u8 0, .int .u8 0, .nilIface]), (104, .agg #[.pointer none, .int .u8 0, .int .u8 0, .int .u8 0, .int .u8 0, .int .u8 0, .int .u8 0, .int .u8 0, .int .u8 0, .int .u8 0, .int .u8 0, .int .u8 0, .int .u8 0, .int .u8 0, .int .u8 0, .int .u8 0, .int .u8 0, .int .u8 0, .int .u8 0, .int .u8 0, .int .u8 0, .int .u8 0, .int .u8 0, .int .u8 0, .int .u8 0, .int .u8 0, .int .u8 0, .int .u8 0, .int .u8 0, .int .u8 0, .int .u8 0, .int .u8 0, .int .u8 0, .nilIface]), (111, .agg #[.pointer none]), (112, .agg #[.pointer none]), (115, .agg #[.pointer none]), (116, .agg #[.pointer none]), (127, .agg #[.int .i64 0, .int .i64 0, .int .i64 0, .slice none 0 0]), (144, .agg (List.replicate 12 (.int .u64 0)).toArray), (145, .agg (List.replicate 12 (.int .u64 0)).toArray), (148, .agg (List.replicate 12 (.int .u64 0)).toArray), (154, .agg #[]), (155, .agg #[]), (163, .agg #[.slice none 0 0, .int .i64 0, .pointer none]), (164, .agg #[.slice none 0 0, .int .i64 0, .pointer none]), (169, .agg #[.int .i64 0, .int .i64 0, .int .i64 0, .string .empty]), (179, .agg #[.int .i64 0]), (180, .agg #[.int .i64 0]), (183, .agg #[.int .i64 0, .nilFunc, .slice none 0 0]), (184, .agg #[.int .i64 0, .nilFunc, .slice none 0 0]), (208, .agg #[.int .u64 0, .int .u64 0, .int .u64 0, .int .u64 0, .int .u64 0, .int .u64 0, .int .u64 0, .int .u64 0, .int .u64 0, .int .u64 0, .int .u64 0, .int .u64 0, .int .u64 0, .int .u64 0, .int .u64 0, .int .u64 0, .int .u64 0, .int .u64 0, .int .u64 0, .int .u64 0, .int .u64 0, .int .u64 0, .int .u64 0, .int .u64 0, .int .u64 0, .int .i64 0]), (209, .agg #[.int .u64 0, .int .u64 0, .int .u64 0, .int .u64 0, .int .u64 0, .int .u64 0, .int .u64 0, .int .u64 0, .int .u64 0, .int .u64 0, .int .u64 0, .int .u64 0, .int .u64 0, .int .u64 0, .int .u64 0, .int .u64 0, .int .u64 0, .int .u64 0, .int .u64 0, .int .u64 0, .int .u64 0, .int .u64 0, .int .u64 0, .int .u64 0, .int .u64 0, .int .i64 0]), (213, .agg #[]), (218, .agg #[.pointer none]), (219, .agg #[.pointer none]), (234, .agg #[.pointer none]), (235, .agg #[.pointer none]), (239, .agg #[.slice none 0 0, .bool false]), (240, .agg #[.slice none 0 0, .bool false]), (249, .agg #[.nilIface, .slice none 0 0, .int .i64 0, .int .i64 0, .int .i64 0]), (250, .agg #[.nilIface, .slice none 0 0, .int .i64 0, .int .i64 0, .int .i64 0]), (251, .agg #[.nilIface, .slice none 0 0, .int .i64 0, .int .i64 0, .int .i64 0]), (252, .agg #[.nilIface, .slice none 0 0, .int .i64 0, .int .i64 0, .int .i64 0]), (253, .agg #[]), (254, .agg #[]), (256, .agg #[.int .u32 0]), (257, .agg #[.int .u32 0]), (258, .agg #[.int .i32 0, .int .u32 0]), (259, .agg #[.int .i32 0, .int .u32 0]), (260, .agg #[.int .i32 0, .int .u32 0]), (261, .agg #[.int .i32 0, .int .u32 0]), (262, .agg #[.int .u32 0, .int .i32 0, .int .u32 0]), (263, .agg #[.int .u32 0, .int .i32 0, .int .u32 0]), (269, .agg ([Value.int .u32 0, Value.int .i32 0, Value.int .u32 0] ++ List.replicate 816 (Value.int .u64 0)).toArray), (270, .agg ([Value.int .u32 0, Value.int .i32 0, Value.int .u32 0] ++ List.replicate 816 (Value.int .u64 0)).toArray), (278, .agg #[.slice none 0 0, .int .u64 0, .slice none 0 0]), (279, .agg #[.slice none 0 0, .int .u64 0, .slice none 0 0]), (295, .agg #[.pointer none, .pointer none, .pointer none, .string .empty]), (296, .agg #[.pointer none, .pointer none, .pointer none, .string .empty]), (298, .agg #[]), (299, .agg #[]), (306, .agg #[.int .u64 0, .int .u64 0, .int .u32 0, .int .u8 0, .int .u8 0, .int .u8 0, .int .u8 0, .nilFunc, .pointer none, .int .i32 0, .int .i32 0]), (307, .agg #[.int .u64 0, .int .u64 0, .int .u32 0, .int .u8 0, .int .u8 0, .int .u8 0, .int .u8 0, .nilFunc, .pointer none, .int .i32 0, .int .i32 0]), (346, .agg #[.bool false, .bool false, .bool false, .bool false, .bool false, .bool false, .bool false, .bool false, .bool false, .bool false, .bool false, .bool false, .bool false, .bool false, .bool false, .bool false, .bool false, .bool false, .bool false, .bool false, .bool false, .bool false, .bool false, .bool false, .bool false, .bool false, .bool false, .bool false, .bool false, .bool false, .bool false, .bool false, .bool false, .bool false, .bool false, .bool false, .bool false, .bool false, .bool false, .bool false, .bool false, .bool false, .bool false, .bool false, .bool false, .bool false, .bool false, .bool false, .bool false, .bool false, .bool false, .bool false, .bool false, .bool false, .bool false, .bool false, .bool false, .bool false, .bool false, .bool false, .bool false, .bool false, .bool false, .bool false, .bool false, .bool false, .bool false, .bool false, .bool false, .bool false, .bool false, .bool false, .bool false, .bool false, .bool false, .bool false, .bool false, .bool false, .bool false, .bool false, .int .i64 0]), (347, .agg #[.bool false, .bool false, .bool false, .bool false, .bool false, .bool false, .bool false, .bool false, .bool false, .bool false, .bool false, .bool false, .bool false, .bool false, .bool false, .bool false, .bool false, .bool false, .bool false, .bool false, .bool false, .bool false, .bool false, .bool false, .bool false, .bool false, .bool false, .bool false, .bool false, .bool false, .bool false, .bool false, .bool false, .bool false, .bool false, .bool false, .bool false, .bool false, .bool false, .bool false, .bool false, .bool false, .bool false, .bool false, .bool false, .bool false, .bool false, .bool false, .bool false, .bool false, .bool false, .bool false, .bool false, .bool false, .bool false, .bool false, .bool false, .bool false, .bool false, .bool false, .bool false, .bool false, .bool false, .bool false, .bool false, .bool false, .bool false, .bool false, .bool false, .bool false, .bool false, .bool false, .bool false, .bool false, .bool false, .bool false, .bool false, .bool false, .bool false, .bool false, .int .i64 0]), (1, .nilFunc), (9, .string .empty), (10, .string .empty), (11, .string .empty), (15, .pointer none), (16, .pointer none), (17, .pointer none), (20, .nilIface), (24, .nilFunc), (27, .nilFunc), (28, .pointer none), (31, .nilFunc), (32, .nilFunc), (35, .nilFunc), (36, .nilFunc), (37, .nilFunc), (39, .nilFunc), (42, .nilFunc), (43, .nilFunc), (46, .nilFunc), (47, .nilFunc), (49, .nilFunc), (50, .nilFunc), (56, .nilFunc), (59, .nilFunc), (60, .nilFunc), (61, .nilFunc), (62, .nilFunc), (64, .nilFunc), (65, .nilFunc), (67, .nilFunc), (68, .nilFunc), (72, .nilFunc), (73, .nilFunc), (76, .nilFunc), (77, .nilFunc), (78, .nilFunc), (79, .nilFunc), (81, .nilFunc), (82, .nilFunc), (83, .nilFunc), (84, .nilFunc), (89, .nilFunc), (92, .nilFunc), (97, .nilFunc), (98, .pointer none), (100, .nilFunc), (101, .nilIface), (102, .nilIface), (106, .nilFunc), (108, .nilFunc), (109, .pointer none), (110, .nilFunc), (113, .pointer none), (114, .nilFunc), (117, .nilFunc), (118, .nilFunc), (119, .nilFunc), (121, .nilFunc), (123, .nilFunc), (125, .nilFunc), (126, .nilFunc), (128, .nilFunc), (129, .nilFunc), (130, .nilFunc), (131, .nilFunc), (132, .nilFunc), (133, .nilFunc), (134, .nilFunc), (136, .nilFunc), (137, .nilFunc), (138, .nilFunc), (141, .nilFunc), (143, .nilFunc), (147, .nilFunc), (149, .nilFunc), (150, .nilFunc), (151, .nilFunc), (152, .nilFunc), (153, .nilFunc), (158, .nilFunc), (159, .nilFunc), (161, .nilFunc), (162, .pointer none), (166, .nilFunc), (167, .nilFunc), (168, .nilFunc), (170, .nilFunc), (171, .nilIface), (172, .nilIface), (173, .nilFunc), (174, .nilFunc), (175, .nilIface), (176, .nilIface), (177, .nilFunc), (178, .nilFunc), (181, .nilFunc), (182, .nilFunc), (185, .nilFunc), (186, .nilFunc), (187, .nilFunc), (188, .nilFunc), (189, .nilFunc), (191, .nilFunc), (193, .nilFunc), (194, .nilFunc), (196, .pointer none), (197, .nilFunc), (198, .nilFunc), (199, .nilFunc), (200, .nilFunc), (201, .pointer none), (202, .nilFunc), (204, .nilFunc), (205, .nilFunc), (210, .nilFunc), (212, .nilFunc), (215, .nilFunc), (216, .pointer none), (217, .nilFunc), (220, .nilFunc), (221, .nilFunc), (222, .nilFunc), (224, .nilFunc), (225, .nilFunc), (228, .nilFunc), (229, .nilFunc), (230, .nilFunc), (231, .nilFunc), (232, .nilFunc), (233, .pointer none), (236, .nilFunc), (237, .nilFunc), (238, .pointer none), (241, .nilFunc), (242, .nilFunc), (243, .nilFunc), (244, .pointer none), (245, .nilFunc), (246, .nilFunc), (248, .nilFunc), (272, .nilFunc), (273, .nilFunc), (275, .nilFunc), (276, .nilFunc), (277, .nilFunc), (280, .nilFunc), (282, .nilFunc), (283, .nilFunc), (284, .nilFunc), (285, .nilFunc), (286, .nilFunc), (287, .nilFunc), (288, .nilFunc), (290, .nilFunc), (291, .nilFunc), (293, .nilFunc), (294, .nilFunc), (302, .nilFunc), (303, .pointer none), (309, .nilFunc), (310, .nilFunc), (311, .nilFunc), (313, .nilFunc), (314, .nilFunc), (315, .nilFunc), (316, .nilFunc), (317, .nilFunc), (318, .nilFunc), (319, .nilFunc), (320, .nilFunc), (321, .nilFunc), (322, .nilFunc), (323, .nilFunc), (324, .nilFunc), (325, .nilFunc), (326, .nilFunc), (327, .nilFunc), (328, .nilFunc), (329, .nilFunc), (331, .nilFunc), (332, .nilFunc), (333, .nilFunc), (334, .nilFunc), (335, .nilFunc), (336, .nilFunc), (337, .nilFunc), (338, .pointer none), (340, .nilFunc), (341, .nilFunc), (342, .pointer none), (343, .nilFunc), (344, .nilFunc), (348, .nilFunc), (349, .nilFunc), (350, .pointer none), (351, .nilFunc), (352, .pointer none), (353, .nilFunc), (354, .nilFunc), (355, .pointer none), (356, .nilFunc), (357, .nilFunc), (358, .pointer none), (359, .nilFunc), (360, .pointer none), (361, .nilFunc), (363, .nilFunc), (364, .nilFunc), (365, .nilFunc), (366, .nilFunc), (367, .nilFunc), (368, .nilFunc)]
  by' := [(2, 8), (3, 8), (5, 1), (6, 1), (12, 8), (21, 4), (29, 8), (51, 8), (190, 8), (255, 4), (300, 1), (301, 1), (304, 4), (305, 4), (4, 1), (22, 24), (23, 24), (25, 24), (38, 24), (40, 24), (57, 24), (63, 24), (69, 24), (85, 24), (90, 24), (107, 24), (120, 24), (139, 24), (157, 24), (192, 24), (52, 32), (55, 32), (74, 96), (75, 96), (135, 216), (206, 200), (207, 200), (226, 40), (247, 200), (264, 96), (265, 96), (266, 6240), (267, 288), (268, 288), (292, 192), (297, 0), (345, 80), (369, 96), (7, 24), (8, 24), (13, 24), (14, 24), (18, 8), (19, 8), (33, 48), (34, 48), (44, 40), (45, 40), (53, 32), (54, 32), (70, 48), (71, 48), (86, 56), (87, 56), (93, 48), (94, 32), (95, 32), (103, 56), (104, 56), (111, 8), (112, 8), (115, 8), (116, 8), (127, 48), (144, 96), (145, 96), (148, 96), (154, 0), (155, 0), (163, 40), (164, 40), (169, 40), (179, 8), (180, 8), (183, 40), (184, 40), (208, 208), (209, 208), (213, 0), (218, 8), (219, 8), (234, 8), (235, 8), (239, 32), (240, 32), (249, 64), (250, 64), (251, 64), (252, 64), (253, 0), (254, 0), (256, 4), (257, 4), (258, 8), (259, 8), (260, 8), (261, 8), (262, 12), (263, 12), (269, 6544), (270, 6544), (278, 56), (279, 56), (295, 40), (296, 40), (298, 0), (299, 0), (306, 48), (307, 48), (346, 88), (347, 88), (1, 8), (9, 16), (10, 16), (11, 16), (15, 8), (16, 8), (17, 8), (20, 16), (24, 8), (27, 8), (28, 8), (31, 8), (32, 8), (35, 8), (36, 8), (37, 8), (39, 8), (42, 8), (43, 8), (46, 8), (47, 8), (49, 8), (50, 8), (56, 8), (59, 8), (60, 8), (61, 8), (62, 8), (64, 8), (65, 8), (67, 8), (68, 8), (72, 8), (73, 8), (76, 8), (77, 8), (78, 8), (79, 8), (81, 8), (82, 8), (83, 8), (84, 8), (89, 8), (92, 8), (97, 8), (98, 8), (100, 8), (101, 16), (102, 16), (106, 8), (108, 8), (109, 8), (110, 8), (113, 8), (114, 8), (117, 8), (118, 8), (119, 8), (121, 8), (123, 8), (125, 8), (126, 8), (128, 8), (129, 8), (130, 8), (131, 8), (132, 8), (133, 8), (134, 8), (136, 8), (137, 8), (138, 8), (141, 8), (143, 8), (147, 8), (149, 8), (150, 8), (151, 8), (152, 8), (153, 8), (158, 8), (159, 8), (161, 8), (162, 8), (166, 8), (167, 8), (168, 8), (170, 8), (171, 16), (172, 16), (173, 8), (174, 8), (175, 16), (176, 16), (177, 8), (178, 8), (181, 8), (182, 8), (185, 8), (186, 8), (187, 8), (188, 8), (189, 8), (191, 8), (193, 8), (194, 8), (196, 8), (197, 8), (198, 8), (199, 8), (200, 8), (201, 8), (202, 8), (204, 8), (205, 8), (210, 8), (212, 8), (215, 8), (216, 8), (217, 8), (220, 8), (221, 8), (222, 8), (224, 8), (225, 8), (228, 8), (229, 8), (230, 8), (231, 8), (232, 8), (233, 8), (236, 8), (237, 8), (238, 8), (241, 8), (242, 8), (243, 8), (244, 8), (245, 8), (246, 8), (248, 8), (272, 8), (273, 8), (275, 8), (276, 8), (277, 8), (280, 8), (282, 8), (283, 8), (284, 8), (285, 8), (286, 8), (287, 8), (288, 8), (290, 8), (291, 8), (293, 8), (294, 8), (302, 8), (303, 8), (309, 8), (310, 8), (311, 8), (313, 8), (314, 8), (315, 8), (316, 8), (317, 8), (318, 8), (319, 8), (320, 8), (321, 8), (322, 8), (323, 8), (324, 8), (325, 8), (326, 8), (327, 8), (328, 8), (329, 8), (331, 8), (332, 8), (333, 8), (334, 8), (335, 8), (336, 8), (337, 8), (338, 8), (340, 8), (341, 8), (342, 8), (343, 8), (344, 8), (348, 8), (349, 8), (350, 8), (351, 8), (352, 8), (353, 8), (354, 8), (355, 8), (356, 8), (357, 8), (358, 8), (359, 8), (360, 8), (361, 8), (363, 8), (364, 8), (365, 8), (366, 8), (367, 8), (368, 8)]
  fld := [((7, 0), 0, 2), ((7, 1), 1, 3), ((7, 2), 2, 4), ((7, 3), 3, 6), ((8, 0), 0, 2), ((8, 1), 1, 3), ((8, 2), 2, 4), ((8, 3), 3, 6), ((13, 0), 0, 9), ((13, 1), 1, 12), ((14, 0), 0, 9), ((14, 1), 1, 12), ((18, 0), 0, 17), ((19, 0), 0, 17), ((33, 0), 0, 3), ((33, 1), 1, 3), ((33, 2), 2, 3), ((33, 3), 3, 25), ((34, 0), 0, 3), ((34, 1), 1, 3), ((34, 2), 2, 3), ((34, 3), 3, 25), ((44, 0), 0, 3), ((44, 1), 1, 3), ((44, 2), 2, 3), ((44, 3), 3, 9), ((45, 0), 0, 3), ((45, 1), 1, 3), ((45, 2), 2, 3), ((45, 3), 3, 9), ((53, 0), 0, 52), ((54, 0), 0, 52), ((70, 0), 0, 3), ((70, 1), 1, 3), ((70, 2), 2, 3), ((70, 3), 3, 25), ((71, 0), 0, 3), ((71, 1), 1, 3), ((71, 2), 2, 3), ((71, 3), 3, 25), ((86, 0), 0, 3), ((86, 1), 1, 25), ((86, 2), 2, 85), ((87, 0), 0, 3), ((87, 1), 1, 25), ((87, 2), 2, 85), ((93, 0), 0, 3), ((93, 1), 1, 3), ((93, 2), 2, 3), ((93, 3), 3, 25), ((94, 0), 0, 29), ((94, 1), 1, 25), ((95, 0), 0, 29), ((95, 1), 1, 25), ((103, 0), 0, 98), ((103, 1), 1, 55), ((103, 2), 33, 102), ((104, 0), 0, 98), ((104, 1), 1, 55), ((104, 2), 33, 102), ((111, 0), 0, 109), ((112, 0), 0, 109), ((115, 0), 0, 113), ((116, 0), 0, 113), ((127, 0), 0, 3), ((127, 1), 1, 3), ((127, 2), 2, 3), ((127, 3), 3, 25), ((144, 0), 0, 75), ((145, 0), 0, 75), ((148, 0), 0, 75), ((163, 0), 0, 107), ((163, 1), 1, 3), ((163, 2), 2, 162), ((164, 0), 0, 107), ((164, 1), 1, 3), ((164, 2), 2, 162), ((169, 0), 0, 3), ((169, 1), 1, 3), ((169, 2), 2, 3), ((169, 3), 3, 9), ((179, 0), 0, 29), ((180, 0), 0, 29), ((183, 0), 0, 3), ((183, 1), 1, 182), ((183, 2), 2, 120), ((184, 0), 0, 3), ((184, 1), 1, 182), ((184, 2), 2, 120), ((208, 0), 0, 207), ((208, 1), 25, 3), ((209, 0), 0, 207), ((209, 1), 25, 3), ((218, 0), 0, 216), ((219, 0), 0, 216), ((234, 0), 0, 233), ((235, 0), 0, 233), ((239, 0), 0, 25), ((239, 1), 1, 4), ((240, 0), 0, 25), ((240, 1), 1, 4), ((249, 0), 0, 172), ((249, 1), 1, 25), ((249, 2), 2, 3), ((249, 3), 3, 3), ((249, 4), 4, 3), ((250, 0), 0, 172), ((250, 1), 1, 25), ((250, 2), 2, 3), ((250, 3), 3, 3), ((250, 4), 4, 3), ((251, 0), 0, 176), ((251, 1), 1, 40), ((251, 2), 2, 3), ((251, 3), 3, 3), ((251, 4), 4, 3), ((252, 0), 0, 176), ((252, 1), 1, 40), ((252, 2), 2, 3), ((252, 3), 3, 3), ((252, 4), 4, 3), ((256, 0), 0, 254), ((256, 1), 0, 255), ((257, 0), 0, 254), ((257, 1), 0, 255), ((258, 0), 0, 21), ((258, 1), 1, 255), ((259, 0), 0, 21), ((259, 1), 1, 255), ((260, 0), 0, 253), ((260, 1), 0, 259), ((261, 0), 0, 253), ((261, 1), 0, 259), ((262, 0), 0, 253), ((262, 1), 0, 257), ((262, 2), 1, 261), ((263, 0), 0, 253), ((263, 1), 0, 257), ((263, 2), 1, 261), ((269, 0), 0, 263), ((269, 1), 3, 266), ((269, 2), 783, 268), ((270, 0), 0, 263), ((270, 1), 3, 266), ((270, 2), 783, 268), ((278, 0), 0, 57), ((278, 1), 1, 51), ((278, 2), 2, 57), ((279, 0), 0, 57), ((279, 1), 1, 51), ((279, 2), 2, 57), ((295, 0), 0, 17), ((295, 1), 1, 17), ((295, 2), 2, 17), ((295, 3), 3, 9), ((296, 0), 0, 17), ((296, 1), 1, 17), ((296, 2), 2, 17), ((296, 3), 3, 9), ((298, 0), 0, 297), ((299, 0), 0, 297), ((306, 0), 0, 12), ((306, 1), 1, 12), ((306, 2), 2, 255), ((306, 3), 3, 300), ((306, 4), 4, 5), ((306, 5), 5, 5), ((306, 6), 6, 301), ((306, 7), 7, 302), ((306, 8), 8, 303), ((306, 9), 9, 304), ((306, 10), 10, 305), ((307, 0), 0, 12), ((307, 1), 1, 12), ((307, 2), 2, 255), ((307, 3), 3, 300), ((307, 4), 4, 5), ((307, 5), 5, 5), ((307, 6), 6, 301), ((307, 7), 7, 302), ((307, 8), 8, 303), ((307, 9), 9, 304), ((307, 10), 10, 305), ((346, 0), 0, 345), ((346, 1), 80, 3), ((347, 0), 0, 345), ((347, 1), 80, 3)]
theorem of_map {α β γ : Type} [BEq α] [LawfulBEq α] {f g : α × β → γ} : ∀ {l : List (α × β)}, l.map f = l.map g → ∀ a b, l.lookup a = some b → f (a, b) = g (a, b)
  | [], _, a, b, h => by simp at h
  | (x, y) :: l, hl, a, b, h => by
    rw [List.map_cons, List.map_cons, List.cons.injEq] at hl
    rw [List.lookup_cons] at h
    split at h
    · rename_i he
      have := eq_of_beq he
      subst this
      cases h
      exact hl.1
    · exact of_map hl.2 a b h
def fldOf (P : Program) (t f : Nat) : Option (Nat × Nat) := match P.underlying t with
  | some (.struct fs) => fs[f]?.map fun d => (d.offset, d.type)
  | _ => none
theorem fldOf_some {P : Program} {t f o t' : Nat} (h : fldOf P t f = some (o, t')) : ∃ fs fd, P.underlying t = some (.struct fs) ∧ fs[f]? = some fd ∧ fd.offset = o ∧ fd.type = t' := by
  unfold fldOf at h
  split at h
  · rename_i fs hu
    cases hf : fs[f]? with
    | none => rw [hf] at h; cases h
    | some d => rw [hf] at h; cases h; exact ⟨fs, d, hu, hf, rfl, rfl⟩
  · cases h
set_option maxRecDepth 100000 in
theorem tbok : TabOk Tryz.prog Tb where
  sl := fun t e h => of_map (f := fun p => Tryz.prog.underlying p.1) (g := fun p => some (.slice p.2)) (by kernel_rfl) t e h
  arr := fun t n e h => of_map (f := fun p => Tryz.prog.underlying p.1) (g := fun p => some (.array p.2.1 p.2.2)) (by kernel_rfl) t (n, e) h
  int := fun t e h => of_map (f := fun p => Tryz.prog.underlying p.1) (g := fun p => some (.int p.2)) (by kernel_rfl) t e h
  sz := fun t e h => of_map (f := fun p => (Tryz.prog.info? p.1).map (·.size)) (g := fun p => some p.2) (by kernel_rfl) t e h
  zero := fun t e h => of_map (f := fun p => (Tryz.prog.info? p.1).map (·.zero)) (g := fun p => some (some p.2)) (by kernel_rfl) t e h
  by' := fun t e h => of_map (f := fun p => (Tryz.prog.info? p.1).map (·.bytes)) (g := fun p => some p.2) (by kernel_rfl) t e h
  agg := fun t e h => Prod.mk.inj (of_map (f := fun p => ((Tryz.prog.underlying p.1).isSome, aggB Tryz.prog p.1)) (g := fun p => (true, p.2)) (by kernel_rfl) t e h)
  fld := fun t f o t' h => fldOf_some (of_map (f := fun p => fldOf Tryz.prog p.1.1 p.1.2) (g := fun p => some p.2) (by kernel_rfl) (t, f) (o, t') h)
theorem pl_of {P : Program} {t : Nat} {fs : Array Field} (hu : P.underlying t = some (.struct fs)) {l : List (Nat × Nat)} (h : fs.toList.map (fun f => (f.offset, (P.info? f.type).map (·.size))) = l.map fun q => (q.1, some q.2)) : ∃ fs, P.underlying t = some (.struct fs) ∧ placesOf P fs l :=
  ⟨fs, hu, by simpa using congrArg List.length h, fun k f q h1 h2 => by
    have := congrArg (fun l : List (Nat × Option Nat) => l[k]?) h
    simp only [List.getElem?_map, Array.getElem?_toList, h1, h2, Option.map_some, Option.some.injEq, Prod.mk.injEq] at this
    exact this⟩
theorem pl34 : ∃ fs, Tryz.prog.underlying 34 = some (.struct fs) ∧ placesOf Tryz.prog fs [(0, 1), (1, 1), (2, 1), (3, 1)] := pl_of Tryz.underlying34 (by kernel_rfl)
theorem zr34 : (Tryz.prog.info? 34).map (·.zero) = some (some (.agg #[.int .i64 0, .int .i64 0, .int .i64 0, .slice none 0 0])) := tbok.zero _ _ rfl
theorem pl54 : ∃ fs, Tryz.prog.underlying 54 = some (.struct fs) ∧ placesOf Tryz.prog fs [(0, 4)] := pl_of Tryz.underlying54 (by kernel_rfl)
theorem zr54 : (Tryz.prog.info? 54).map (·.zero) = some (some (.agg #[.int .u64 0, .int .u64 0, .int .u64 0, .int .u64 0])) := tbok.zero _ _ rfl
theorem pl93 : ∃ fs, Tryz.prog.underlying 93 = some (.struct fs) ∧ placesOf Tryz.prog fs [(0, 1), (1, 1), (2, 1), (3, 1)] := pl_of Tryz.underlying93 (by kernel_rfl)
theorem zr93 : (Tryz.prog.info? 93).map (·.zero) = some (some (.agg #[.int .i64 0, .int .i64 0, .int .i64 0, .slice none 0 0])) := tbok.zero _ _ rfl
theorem pl95 : ∃ fs, Tryz.prog.underlying 95 = some (.struct fs) ∧ placesOf Tryz.prog fs [(0, 1), (1, 1)] := pl_of Tryz.underlying95 (by kernel_rfl)
theorem zr95 : (Tryz.prog.info? 95).map (·.zero) = some (some (.agg #[.int .i64 0, .slice none 0 0])) := tbok.zero _ _ rfl
theorem pl104 : ∃ fs, Tryz.prog.underlying 104 = some (.struct fs) ∧ placesOf Tryz.prog fs [(0, 1), (1, 32), (33, 1)] := pl_of Tryz.underlying104 (by kernel_rfl)
theorem zr104 : (Tryz.prog.info? 104).map (·.zero) = some (some (.agg #[.pointer none, .int .u8 0, .int .u8 0, .int .u8 0, .int .u8 0, .int .u8 0, .int .u8 0, .int .u8 0, .int .u8 0, .int .u8 0, .int .u8 0, .int .u8 0, .int .u8 0, .int .u8 0, .int .u8 0, .int .u8 0, .int .u8 0, .int .u8 0, .int .u8 0, .int .u8 0, .int .u8 0, .int .u8 0, .int .u8 0, .int .u8 0, .int .u8 0, .int .u8 0, .int .u8 0, .int .u8 0, .int .u8 0, .int .u8 0, .int .u8 0, .int .u8 0, .int .u8 0, .nilIface])) := tbok.zero _ _ rfl
theorem pl112 : ∃ fs, Tryz.prog.underlying 112 = some (.struct fs) ∧ placesOf Tryz.prog fs [(0, 1)] := pl_of Tryz.underlying112 (by kernel_rfl)
theorem zr112 : (Tryz.prog.info? 112).map (·.zero) = some (some (.agg #[.pointer none])) := tbok.zero _ _ rfl
theorem pl127 : ∃ fs, Tryz.prog.underlying 127 = some (.struct fs) ∧ placesOf Tryz.prog fs [(0, 1), (1, 1), (2, 1), (3, 1)] := pl_of Tryz.underlying127 (by kernel_rfl)
theorem zr127 : (Tryz.prog.info? 127).map (·.zero) = some (some (.agg #[.int .i64 0, .int .i64 0, .int .i64 0, .slice none 0 0])) := tbok.zero _ _ rfl
theorem pl148 : ∃ fs, Tryz.prog.underlying 148 = some (.struct fs) ∧ placesOf Tryz.prog fs [(0, 12)] := pl_of Tryz.underlying148 (by kernel_rfl)
theorem zr148 : (Tryz.prog.info? 148).map (·.zero) = some (some (.agg (List.replicate 12 (.int .u64 0)).toArray)) := tbok.zero _ _ rfl
theorem pl164 : ∃ fs, Tryz.prog.underlying 164 = some (.struct fs) ∧ placesOf Tryz.prog fs [(0, 1), (1, 1), (2, 1)] := pl_of Tryz.underlying164 (by kernel_rfl)
theorem zr164 : (Tryz.prog.info? 164).map (·.zero) = some (some (.agg #[.slice none 0 0, .int .i64 0, .pointer none])) := tbok.zero _ _ rfl
theorem pl169 : ∃ fs, Tryz.prog.underlying 169 = some (.struct fs) ∧ placesOf Tryz.prog fs [(0, 1), (1, 1), (2, 1), (3, 1)] := pl_of Tryz.underlying169 (by kernel_rfl)
theorem zr169 : (Tryz.prog.info? 169).map (·.zero) = some (some (.agg #[.int .i64 0, .int .i64 0, .int .i64 0, .string .empty])) := tbok.zero _ _ rfl
theorem pl180 : ∃ fs, Tryz.prog.underlying 180 = some (.struct fs) ∧ placesOf Tryz.prog fs [(0, 1)] := pl_of Tryz.underlying180 (by kernel_rfl)
theorem zr180 : (Tryz.prog.info? 180).map (·.zero) = some (some (.agg #[.int .i64 0])) := tbok.zero _ _ rfl
theorem pl184 : ∃ fs, Tryz.prog.underlying 184 = some (.struct fs) ∧ placesOf Tryz.prog fs [(0, 1), (1, 1), (2, 1)] := pl_of Tryz.underlying184 (by kernel_rfl)
theorem zr184 : (Tryz.prog.info? 184).map (·.zero) = some (some (.agg #[.int .i64 0, .nilFunc, .slice none 0 0])) := tbok.zero _ _ rfl
theorem pl213 : ∃ fs, Tryz.prog.underlying 213 = some (.struct fs) ∧ placesOf Tryz.prog fs [] := pl_of Tryz.underlying213 (by kernel_rfl)
theorem zr213 : (Tryz.prog.info? 213).map (·.zero) = some (some (.agg #[])) := tbok.zero _ _ rfl
theorem pl235 : ∃ fs, Tryz.prog.underlying 235 = some (.struct fs) ∧ placesOf Tryz.prog fs [(0, 1)] := pl_of Tryz.underlying235 (by kernel_rfl)
theorem zr235 : (Tryz.prog.info? 235).map (·.zero) = some (some (.agg #[.pointer none])) := tbok.zero _ _ rfl
theorem pl240 : ∃ fs, Tryz.prog.underlying 240 = some (.struct fs) ∧ placesOf Tryz.prog fs [(0, 1), (1, 1)] := pl_of Tryz.underlying240 (by kernel_rfl)
theorem zr240 : (Tryz.prog.info? 240).map (·.zero) = some (some (.agg #[.slice none 0 0, .bool false])) := tbok.zero _ _ rfl
theorem pl250 : ∃ fs, Tryz.prog.underlying 250 = some (.struct fs) ∧ placesOf Tryz.prog fs [(0, 1), (1, 1), (2, 1), (3, 1), (4, 1)] := pl_of Tryz.underlying250 (by kernel_rfl)
theorem zr250 : (Tryz.prog.info? 250).map (·.zero) = some (some (.agg #[.nilIface, .slice none 0 0, .int .i64 0, .int .i64 0, .int .i64 0])) := tbok.zero _ _ rfl
theorem pl279 : ∃ fs, Tryz.prog.underlying 279 = some (.struct fs) ∧ placesOf Tryz.prog fs [(0, 1), (1, 1), (2, 1)] := pl_of Tryz.underlying279 (by kernel_rfl)
theorem zr279 : (Tryz.prog.info? 279).map (·.zero) = some (some (.agg #[.slice none 0 0, .int .u64 0, .slice none 0 0])) := tbok.zero _ _ rfl
theorem bo {f : FuncId} {fn : Func} (h : Tryz.prog.funcs[f]? = some fn) (hb : ((fn.name == "runtime.NumGoroutine"), fn.body.isNone) = (false, false)) : Bodied Tryz.prog f := ⟨fn, h, (Prod.mk.inj hb).1, (Prod.mk.inj hb).2⟩
theorem bd10 : Bodied Tryz.prog 10 := bo Tryz.func10 (by kernel_rfl)
theorem bd12 : Bodied Tryz.prog 12 := bo Tryz.func12 (by kernel_rfl)
theorem bd15 : Bodied Tryz.prog 15 := bo Tryz.func15 (by kernel_rfl)
theorem bd18 : Bodied Tryz.prog 18 := bo Tryz.func18 (by kernel_rfl)
theorem bd19 : Bodied Tryz.prog 19 := bo Tryz.func19 (by kernel_rfl)
theorem bd21 : Bodied Tryz.prog 21 := bo Tryz.func21 (by kernel_rfl)
theorem bd22 : Bodied Tryz.prog 22 := bo Tryz.func22 (by kernel_rfl)
theorem bd23 : Bodied Tryz.prog 23 := bo Tryz.func23 (by kernel_rfl)
theorem bd27 : Bodied Tryz.prog 27 := bo Tryz.func27 (by kernel_rfl)
theorem bd29 : Bodied Tryz.prog 29 := bo Tryz.func29 (by kernel_rfl)
theorem bd39 : Bodied Tryz.prog 39 := bo Tryz.func39 (by kernel_rfl)
theorem bd40 : Bodied Tryz.prog 40 := bo Tryz.func40 (by kernel_rfl)
theorem bd42 : Bodied Tryz.prog 42 := bo Tryz.func42 (by kernel_rfl)
theorem bd43 : Bodied Tryz.prog 43 := bo Tryz.func43 (by kernel_rfl)
theorem bd44 : Bodied Tryz.prog 44 := bo Tryz.func44 (by kernel_rfl)
theorem bd45 : Bodied Tryz.prog 45 := bo Tryz.func45 (by kernel_rfl)
theorem bd52 : Bodied Tryz.prog 52 := bo Tryz.func52 (by kernel_rfl)
theorem bd53 : Bodied Tryz.prog 53 := bo Tryz.func53 (by kernel_rfl)
theorem bd54 : Bodied Tryz.prog 54 := bo Tryz.func54 (by kernel_rfl)
theorem bd55 : Bodied Tryz.prog 55 := bo Tryz.func55 (by kernel_rfl)
theorem bd56 : Bodied Tryz.prog 56 := bo Tryz.func56 (by kernel_rfl)
theorem bd57 : Bodied Tryz.prog 57 := bo Tryz.func57 (by kernel_rfl)
theorem bd58 : Bodied Tryz.prog 58 := bo Tryz.func58 (by kernel_rfl)
theorem bd61 : Bodied Tryz.prog 61 := bo Tryz.func61 (by kernel_rfl)
theorem bd62 : Bodied Tryz.prog 62 := bo Tryz.func62 (by kernel_rfl)
theorem bd63 : Bodied Tryz.prog 63 := bo Tryz.func63 (by kernel_rfl)
theorem bd67 : Bodied Tryz.prog 67 := bo Tryz.func67 (by kernel_rfl)
theorem bd88 : Bodied Tryz.prog 88 := bo Tryz.func88 (by kernel_rfl)
theorem bd89 : Bodied Tryz.prog 89 := bo Tryz.func89 (by kernel_rfl)
theorem bd90 : Bodied Tryz.prog 90 := bo Tryz.func90 (by kernel_rfl)
theorem bd91 : Bodied Tryz.prog 91 := bo Tryz.func91 (by kernel_rfl)
theorem bd92 : Bodied Tryz.prog 92 := bo Tryz.func92 (by kernel_rfl)
theorem bd93 : Bodied Tryz.prog 93 := bo Tryz.func93 (by kernel_rfl)
theorem bd94 : Bodied Tryz.prog 94 := bo Tryz.func94 (by kernel_rfl)
theorem bd95 : Bodied Tryz.prog 95 := bo Tryz.func95 (by kernel_rfl)
theorem bd96 : Bodied Tryz.prog 96 := bo Tryz.func96 (by kernel_rfl)
theorem bd97 : Bodied Tryz.prog 97 := bo Tryz.func97 (by kernel_rfl)
theorem bd101 : Bodied Tryz.prog 101 := bo Tryz.func101 (by kernel_rfl)
theorem bd102 : Bodied Tryz.prog 102 := bo Tryz.func102 (by kernel_rfl)
theorem bd103 : Bodied Tryz.prog 103 := bo Tryz.func103 (by kernel_rfl)
theorem bd106 : Bodied Tryz.prog 106 := bo Tryz.func106 (by kernel_rfl)
theorem bd107 : Bodied Tryz.prog 107 := bo Tryz.func107 (by kernel_rfl)
theorem bd112 : Bodied Tryz.prog 112 := bo Tryz.func112 (by kernel_rfl)
theorem bd114 : Bodied Tryz.prog 114 := bo Tryz.func114 (by kernel_rfl)
theorem bd115 : Bodied Tryz.prog 115 := bo Tryz.func115 (by kernel_rfl)
theorem bd116 : Bodied Tryz.prog 116 := bo Tryz.func116 (by kernel_rfl)
theorem bd117 : Bodied Tryz.prog 117 := bo Tryz.func117 (by kernel_rfl)
theorem bd121 : Bodied Tryz.prog 121 := bo Tryz.func121 (by kernel_rfl)
theorem bd122 : Bodied Tryz.prog 122 := bo Tryz.func122 (by kernel_rfl)
theorem bd123 : Bodied Tryz.prog 123 := bo Tryz.func123 (by kernel_rfl)
theorem bd124 : Bodied Tryz.prog 124 := bo Tryz.func124 (by kernel_rfl)
theorem bd125 : Bodied Tryz.prog 125 := bo Tryz.func125 (by kernel_rfl)
theorem bd126 : Bodied Tryz.prog 126 := bo Tryz.func126 (by kernel_rfl)
theorem bd130 : Bodied Tryz.prog 130 := bo Tryz.func130 (by kernel_rfl)
theorem bd131 : Bodied Tryz.prog 131 := bo Tryz.func131 (by kernel_rfl)
theorem bd132 : Bodied Tryz.prog 132 := bo Tryz.func132 (by kernel_rfl)
theorem bd133 : Bodied Tryz.prog 133 := bo Tryz.func133 (by kernel_rfl)
theorem bd136 : Bodied Tryz.prog 136 := bo Tryz.func136 (by kernel_rfl)
theorem bd137 : Bodied Tryz.prog 137 := bo Tryz.func137 (by kernel_rfl)
theorem bd138 : Bodied Tryz.prog 138 := bo Tryz.func138 (by kernel_rfl)
theorem bd140 : Bodied Tryz.prog 140 := bo Tryz.func140 (by kernel_rfl)
theorem bd141 : Bodied Tryz.prog 141 := bo Tryz.func141 (by kernel_rfl)
theorem bd142 : Bodied Tryz.prog 142 := bo Tryz.func142 (by kernel_rfl)
theorem bd143 : Bodied Tryz.prog 143 := bo Tryz.func143 (by kernel_rfl)
theorem bd144 : Bodied Tryz.prog 144 := bo Tryz.func144 (by kernel_rfl)
theorem bd145 : Bodied Tryz.prog 145 := bo Tryz.func145 (by kernel_rfl)
theorem bd146 : Bodied Tryz.prog 146 := bo Tryz.func146 (by kernel_rfl)
theorem bd147 : Bodied Tryz.prog 147 := bo Tryz.func147 (by kernel_rfl)
theorem bd148 : Bodied Tryz.prog 148 := bo Tryz.func148 (by kernel_rfl)
theorem bd149 : Bodied Tryz.prog 149 := bo Tryz.func149 (by kernel_rfl)
theorem bd151 : Bodied Tryz.prog 151 := bo Tryz.func151 (by kernel_rfl)
theorem bd154 : Bodied Tryz.prog 154 := bo Tryz.func154 (by kernel_rfl)
theorem bd155 : Bodied Tryz.prog 155 := bo Tryz.func155 (by kernel_rfl)
theorem bd156 : Bodied Tryz.prog 156 := bo Tryz.func156 (by kernel_rfl)
theorem bd157 : Bodied Tryz.prog 157 := bo Tryz.func157 (by kernel_rfl)
theorem bd158 : Bodied Tryz.prog 158 := bo Tryz.func158 (by kernel_rfl)
theorem bd159 : Bodied Tryz.prog 159 := bo Tryz.func159 (by kernel_rfl)
theorem bd160 : Bodied Tryz.prog 160 := bo Tryz.func160 (by kernel_rfl)
theorem bd161 : Bodied Tryz.prog 161 := bo Tryz.func161 (by kernel_rfl)
theorem bd162 : Bodied Tryz.prog 162 := bo Tryz.func162 (by kernel_rfl)
theorem bd163 : Bodied Tryz.prog 163 := bo Tryz.func163 (by kernel_rfl)
theorem bd164 : Bodied Tryz.prog 164 := bo Tryz.func164 (by kernel_rfl)
theorem bd165 : Bodied Tryz.prog 165 := bo Tryz.func165 (by kernel_rfl)
theorem bd166 : Bodied Tryz.prog 166 := bo Tryz.func166 (by kernel_rfl)
theorem bd167 : Bodied Tryz.prog 167 := bo Tryz.func167 (by kernel_rfl)
theorem bd168 : Bodied Tryz.prog 168 := bo Tryz.func168 (by kernel_rfl)
theorem bd169 : Bodied Tryz.prog 169 := bo Tryz.func169 (by kernel_rfl)
theorem bd170 : Bodied Tryz.prog 170 := bo Tryz.func170 (by kernel_rfl)
theorem bd171 : Bodied Tryz.prog 171 := bo Tryz.func171 (by kernel_rfl)
theorem bd172 : Bodied Tryz.prog 172 := bo Tryz.func172 (by kernel_rfl)
theorem bd173 : Bodied Tryz.prog 173 := bo Tryz.func173 (by kernel_rfl)
theorem bd174 : Bodied Tryz.prog 174 := bo Tryz.func174 (by kernel_rfl)
theorem bd175 : Bodied Tryz.prog 175 := bo Tryz.func175 (by kernel_rfl)
theorem bd177 : Bodied Tryz.prog 177 := bo Tryz.func177 (by kernel_rfl)
theorem bd178 : Bodied Tryz.prog 178 := bo Tryz.func178 (by kernel_rfl)
theorem bd179 : Bodied Tryz.prog 179 := bo Tryz.func179 (by kernel_rfl)
theorem bd180 : Bodied Tryz.prog 180 := bo Tryz.func180 (by kernel_rfl)
theorem bd181 : Bodied Tryz.prog 181 := bo Tryz.func181 (by kernel_rfl)
theorem bd182 : Bodied Tryz.prog 182 := bo Tryz.func182 (by kernel_rfl)
theorem bd183 : Bodied Tryz.prog 183 := bo Tryz.func183 (by kernel_rfl)
theorem bd184 : Bodied Tryz.prog 184 := bo Tryz.func184 (by kernel_rfl)
theorem bd185 : Bodied Tryz.prog 185 := bo Tryz.func185 (by kernel_rfl)
theorem bd186 : Bodied Tryz.prog 186 := bo Tryz.func186 (by kernel_rfl)
theorem bd187 : Bodied Tryz.prog 187 := bo Tryz.func187 (by kernel_rfl)
theorem bd188 : Bodied Tryz.prog 188 := bo Tryz.func188 (by kernel_rfl)
theorem bd206 : Bodied Tryz.prog 206 := bo Tryz.func206 (by kernel_rfl)
theorem bd207 : Bodied Tryz.prog 207 := bo Tryz.func207 (by kernel_rfl)
theorem bd208 : Bodied Tryz.prog 208 := bo Tryz.func208 (by kernel_rfl)
theorem bd209 : Bodied Tryz.prog 209 := bo Tryz.func209 (by kernel_rfl)
theorem bd210 : Bodied Tryz.prog 210 := bo Tryz.func210 (by kernel_rfl)
theorem bd211 : Bodied Tryz.prog 211 := bo Tryz.func211 (by kernel_rfl)
theorem bd212 : Bodied Tryz.prog 212 := bo Tryz.func212 (by kernel_rfl)
theorem bd213 : Bodied Tryz.prog 213 := bo Tryz.func213 (by kernel_rfl)
theorem bd214 : Bodied Tryz.prog 214 := bo Tryz.func214 (by kernel_rfl)
theorem bd215 : Bodied Tryz.prog 215 := bo Tryz.func215 (by kernel_rfl)
theorem bd216 : Bodied Tryz.prog 216 := bo Tryz.func216 (by kernel_rfl)
theorem bd217 : Bodied Tryz.prog 217 := bo Tryz.func217 (by kernel_rfl)
theorem bd218 : Bodied Tryz.prog 218 := bo Tryz.func218 (by kernel_rfl)
theorem bd219 : Bodied Tryz.prog 219 := bo Tryz.func219 (by kernel_rfl)
theorem bd242 : Bodied Tryz.prog 242 := bo Tryz.func242 (by kernel_rfl)
theorem bd243 : Bodied Tryz.prog 243 := bo Tryz.func243 (by kernel_rfl)
theorem bd244 : Bodied Tryz.prog 244 := bo Tryz.func244 (by kernel_rfl)
theorem bd245 : Bodied Tryz.prog 245 := bo Tryz.func245 (by kernel_rfl)
theorem mixed : Tryz.prog.follows .mixedOrders = true := by kernel_rfl
end Go.Proofs.YtlfadlfjjkppfaaGreatDoor
namespace Go.Proofs.YtlfadlfjjkppfaaGreatDoor
open Go Sim
def num (B : Nat) : List Nat → Nat
  | [] => 0
  | x :: r => x + B * num B r
def digs (B : Nat) : Nat → Nat → List Nat
  | 0, _ => []
  | n + 1, v => v % B :: digs B n (v / B)
def bd (B : Nat) (l : List Nat) : Prop := ∀ x ∈ l, x < B
section
variable {B : Nat}
theorem digs_len (n v : Nat) : (digs B n v).length = n := by
  induction n generalizing v with
  | zero => rfl
  | succ n ih => simp [digs, ih]
theorem digs_bd (hB : 0 < B) (n v : Nat) : bd B (digs B n v) := by
  induction n generalizing v with
  | zero => intro x hx; simp [digs] at hx
  | succ n ih =>
    intro x hx
    simp only [digs, List.mem_cons] at hx
    rcases hx with rfl | hx
    · exact Nat.mod_lt _ hB
    · exact ih _ x hx
theorem num_digs (n v : Nat) : num B (digs B n v) = v % B ^ n := by
  induction n generalizing v with
  | zero => simp [digs, num, Nat.mod_one]
  | succ n ih =>
    simp only [digs, num, ih]
    rw [Nat.pow_succ, Nat.mul_comm (B ^ n) B, Nat.mod_mul]
theorem num_digs_lt {n v : Nat} (h : v < B ^ n) : num B (digs B n v) = v := by rw [num_digs, Nat.mod_eq_of_lt h]
theorem bd_cons {x : Nat} {r : List Nat} : bd B (x :: r) ↔ x < B ∧ bd B r := by simp [bd]
theorem num_lt {l : List Nat} (h : bd B l) : num B l < B ^ l.length := by
  induction l with
  | nil => simp [num]
  | cons x r ih =>
    obtain ⟨h1, h2⟩ := bd_cons.1 h
    have := ih h2
    simp only [num, List.length_cons, Nat.pow_succ]
    have h3 : B * (num B r + 1) ≤ B * B ^ r.length := Nat.mul_le_mul_left _ this
    rw [Nat.mul_add, Nat.mul_one] at h3
    rw [Nat.mul_comm (B ^ r.length) B]
    omega
theorem digs_num {l : List Nat} (h : bd B l) : digs B l.length (num B l) = l := by
  induction l with
  | nil => rfl
  | cons x r ih =>
    obtain ⟨h1, h2⟩ := bd_cons.1 h
    simp only [List.length_cons, digs, num]
    rw [Nat.add_mul_mod_self_left, Nat.mod_eq_of_lt h1, Nat.add_mul_div_left _ _ (by omega), Nat.div_eq_of_lt h1, Nat.zero_add, ih h2]
theorem num_inj {l r : List Nat} (hl : bd B l) (hr : bd B r) (hlen : l.length = r.length) (h : num B l = num B r) : l = r := by
  rw [← digs_num hl, ← digs_num hr, hlen, h]
theorem num_getD {l : List Nat} (h : bd B l) (hB : 0 < B) (i : Nat) : l.getD i 0 = num B l / B ^ i % B := by
  induction l generalizing i with
  | nil => simp [num]
  | cons x r ih =>
    obtain ⟨h1, h2⟩ := bd_cons.1 h
    cases i with
    | zero => simp [num, Nat.mod_eq_of_lt h1]
    | succ i =>
      simp only [List.getD_cons_succ, ih h2, num]
      rw [Nat.pow_succ, Nat.mul_comm (B ^ i) B, ← Nat.div_div_eq_div_mul, Nat.add_mul_div_left _ _ hB, Nat.div_eq_of_lt h1, Nat.zero_add]
theorem num_append (l r : List Nat) : num B (l ++ r) = num B l + B ^ l.length * num B r := by
  induction l with
  | nil => simp [num]
  | cons x l ih =>
    simp only [List.cons_append, num, ih, List.length_cons, Nat.pow_succ, Nat.mul_add]
    rw [Nat.mul_comm (B ^ l.length) B, Nat.mul_assoc]
    omega
theorem num_replicate (n : Nat) : num B (List.replicate n 0) = 0 := by
  induction n with
  | zero => rfl
  | succ n ih => simp [List.replicate_succ, num, ih]
theorem num_set {l : List Nat} {k v : Nat} (hk : k < l.length) : num B (l.set k v) + l.getD k 0 * B ^ k = num B l + v * B ^ k := by
  induction l generalizing k with
  | nil => simp at hk
  | cons x l ih =>
    cases k with
    | zero => simp only [List.set_cons_zero, num, List.getD_cons_zero, Nat.pow_zero, Nat.mul_one]; omega
    | succ k =>
      have := ih (k := k) (by simpa using hk)
      simp only [List.set_cons_succ, num, List.getD_cons_succ, Nat.pow_succ]
      have e : ∀ z, z * (B ^ k * B) = B * (z * B ^ k) := fun z => by rw [← Nat.mul_assoc, Nat.mul_comm]
      rw [e, e]
      have h2 : B * (num B (l.set k v) + l.getD k 0 * B ^ k) = B * (num B l + v * B ^ k) := by rw [this]
      rw [Nat.mul_add, Nat.mul_add] at h2
      omega
theorem bd_set {l : List Nat} {k v : Nat} (h : bd B l) (hv : v < B) : bd B (l.set k v) := by
  intro x hx
  rcases List.mem_or_eq_of_mem_set hx with h1 | h1
  · exact h x h1
  · rw [h1]; exact hv
theorem bd_replicate (hB : 0 < B) (n : Nat) : bd B (List.replicate n 0) := by
  intro x hx; rw [List.eq_of_mem_replicate hx]; exact hB
theorem bd_getD {l : List Nat} (h : bd B l) (hB : 0 < B) (i : Nat) : l.getD i 0 < B := by
  rw [num_getD h hB]; exact Nat.mod_lt _ hB
theorem bd_take {l : List Nat} (h : bd B l) (i : Nat) : bd B (l.take i) := fun x hx => h x (List.mem_of_mem_take hx)
theorem num_take {l : List Nat} (h : bd B l) (i : Nat) : num B (l.take i) = num B l % B ^ i := by
  induction l generalizing i with
  | nil => simp [num]
  | cons x l ih =>
    obtain ⟨h1, h2⟩ := bd_cons.1 h
    cases i with
    | zero => simp [num, Nat.mod_one]
    | succ i =>
      simp only [List.take_succ_cons, num, ih h2]
      rw [Nat.pow_succ, Nat.mul_comm (B ^ i) B, Nat.mod_mul, Nat.add_mul_mod_self_left, Nat.mod_eq_of_lt h1, Nat.add_mul_div_left _ _ (by omega), Nat.div_eq_of_lt h1, Nat.zero_add]
theorem num_take_succ (l : List Nat) (i : Nat) : num B (l.take (i + 1)) = num B (l.take i) + l.getD i 0 * B ^ i := by
  induction l generalizing i with
  | nil => simp [num]
  | cons x l ih =>
    cases i with
    | zero => simp [num]
    | succ i =>
      simp only [List.take_succ_cons, num, ih, List.getD_cons_succ, Nat.mul_add, Nat.pow_succ]
      rw [Nat.add_assoc]; congr 2
      rw [← Nat.mul_assoc, Nat.mul_comm B, Nat.mul_right_comm, Nat.mul_assoc]
theorem mod_succ (v i : Nat) : v % B ^ (i + 1) = v % B ^ i + B ^ i * (v / B ^ i % B) := Nat.mod_pow_succ
def dgo (B : Nat) : Nat → Nat → List Nat
  | 0, _ => []
  | f + 1, v => if v = 0 then [] else v % B :: dgo B f (v / B)
def D (B v : Nat) : List Nat := dgo B v v
end
end Go.Proofs.YtlfadlfjjkppfaaGreatDoor
namespace Go.Proofs.YtlfadlfjjkppfaaGreatDoor
open Go Sim
section
variable {P : Program} {ops : Array Oper} {n i : Nat} {os : List Oper} {E : Env} {M : Mem} {D : List Eff → Prop} {K : ASt → Prop}
  {d : Tmp} {ty : TypeId} {ps : String} {af : Array Edge} {g : Option (Nat × Bool)} {o : Op} {x y ix : Operand} {t t' e : TypeId} {v : Value}
theorem yP (hs : PureOp P o E v) (hr : AWo P ops n (i + 1) os ⟨upd E d v, M⟩ (fun es => D (⟨[], []⟩ :: es)) K) (hw : wantA ops E ⟨some d, o, ty, ps, af, g⟩ = some true := by exact rfl) (hd : Nat.blt d n = true := by exact rfl) :
    AWo P ops n i (⟨some d, o, ty, ps, af, g⟩ :: os) ⟨E, M⟩ D K := AWo.pure hs hw hd hr
theorem yM (hr : AWo P ops n (i + 1) os ⟨upd E d v, M⟩ (fun es => D (⟨[], []⟩ :: es)) K) (h : aev E x = some v := by exact rfl) (hw : wantA ops E ⟨some d, .move x, ty, ps, af, g⟩ = some true := by exact rfl) (hd : Nat.blt d n = true := by exact rfl) :
    AWo P ops n i (⟨some d, .move x, ty, ps, af, g⟩ :: os) ⟨E, M⟩ D K := AWo.pure (PureOp.move h) hw hd hr
theorem yA (hr : AWo P ops n (i + 1) os ⟨upd E d v, M⟩ (fun es => D (⟨[], []⟩ :: es)) K) (h : aev E x = some v := by exact rfl) (hw : wantA ops E ⟨some d, .assign x, ty, ps, af, g⟩ = some true := by exact rfl) (hd : Nat.blt d n = true := by exact rfl) :
    AWo P ops n i (⟨some d, .assign x, ty, ps, af, g⟩ :: os) ⟨E, M⟩ D K := AWo.pure (PureOp.assign h) hw hd hr
theorem yK (hr : AWo P ops n (i + 1) os ⟨upd E d undef, M⟩ (fun es => D (⟨[], []⟩ :: es)) K) (hw : wantA ops E ⟨some d, o, ty, ps, af, g⟩ = some false := by exact rfl) (hd : Nat.blt d n = true := by exact rfl) :
    AWo P ops n i (⟨some d, o, ty, ps, af, g⟩ :: os) ⟨E, M⟩ D K := AWo.skipped hw hd hr
theorem yB {b : Bool} (hs : PureOp P o E (.bool b)) (hT : b = true → AWo P ops n (i + 1) os ⟨upd E d (.bool true), M⟩ (fun es => D (⟨[], []⟩ :: es)) K)
    (hF : b = false → AWo P ops n (i + 1) os ⟨upd E d (.bool false), M⟩ (fun es => D (⟨[], []⟩ :: es)) K) (hw : wantA ops E ⟨some d, o, ty, ps, af, g⟩ = some true := by exact rfl) (hd : Nat.blt d n = true := by exact rfl) :
    AWo P ops n i (⟨some d, o, ty, ps, af, g⟩ :: os) ⟨E, M⟩ D K := AWo.pureB hs hw hd hT hF
theorem pX {ix : Nat} {t : Operand} {vs : Array Value} (ht : aev E t = some (.tuple vs) := by exact rfl) (h : vs[ix]? = some v := by exact rfl) : PureOp P (.extract t ix) E v := PureOp.extract ht h
theorem pL {p : Option Addr} {k c : Nat} (h1 : aev E x = some (.slice p k c) := by exact rfl) (ht : Tb.sl.lookup t = some e := by exact rfl) : PureOp Tryz.prog (.call ⟨.builtin .len, #[x], #[t]⟩) E (.int .i64 k) := PureOp.lenS tbok h1 ht
theorem pD {k es : Nat} {cells : List Value} (h1 : aev E x = some (deep k es cells) := by exact rfl) (ht : Tb.sl.lookup t = some e := by exact rfl) : PureOp Tryz.prog (.call ⟨.builtin .len, #[x], #[t]⟩) E (.int .i64 k) := PureOp.lenD tbok h1 ht
theorem pJ {id n : Nat} {kd : IntKind} {j : Nat} (h1 : aev E x = some (.slice (some ⟨id, 0, none⟩) n 0) := by exact rfl) (h2 : aev E ix = some (.int kd (j : Nat)) := by exact rfl)
    (ht : Tb.sl.lookup t = some e := by exact rfl) (hs : Tb.sz.lookup e = some 1 := by exact rfl) (hi : j < n := by first | decide | omega) : PureOp Tryz.prog (.indexAddr t x ix) E (.pointer (some ⟨id, j, none⟩)) :=
  PureOp.idx1 tbok h1 h2 ht hs hi
theorem pA {id n : Nat} {kd : IntKind} {j : Nat} (h1 : aev E x = some (.pointer (some ⟨id, 0, none⟩)) := by exact rfl) (h2 : aev E ix = some (.int kd (j : Nat)) := by exact rfl)
    (ht : Tb.arr.lookup t = some (n, e) := by exact rfl) (hs : Tb.sz.lookup e = some 1 := by exact rfl) (hi : j < n := by first | decide | omega) : PureOp Tryz.prog (.indexAddr t x ix) E (.pointer (some ⟨id, j, none⟩)) :=
  PureOp.arr1 tbok h1 h2 ht hs hi
theorem pF {id o f off sz : Nat} (h1 : aev E x = some (.pointer (some ⟨id, o, none⟩)) := by exact rfl)
    (hf : Tb.fld.lookup (t, f) = some (off, t') := by exact rfl) (hs : Tb.sz.lookup t' = some sz := by exact rfl) (h0 : sz ≠ 0 := by decide) : PureOp Tryz.prog (.fieldAddr t x f) E (.pointer (some ⟨id, o + off, none⟩)) :=
  PureOp.fld tbok h1 hf hs h0
theorem pT {c a b : Operand} (hc : aev E c = some (.bool true) := by exact rfl) (h : aev E a = some v := by exact rfl) : PureOp P (.pick c a b) E v := PureOp.pickT hc h
theorem pE {c a b : Operand} (hc : aev E c = some (.bool false) := by exact rfl) (h : aev E b = some v := by exact rfl) : PureOp P (.pick c a b) E v := PureOp.pickF hc h
theorem pAdd {a b : Nat} (h1 : aev E x = some (vi .i64 a) := by exact rfl) (h2 : aev E y = some (vi .i64 b) := by exact rfl) (h : a + b < 9223372036854775808 := by first | decide | omega) :
    PureOp P (.binOp .add t x y t') E (vi .i64 (a + b)) := PureOp.addI h1 h2 h
theorem pSub {a b : Nat} (h1 : aev E x = some (vi .i64 a) := by exact rfl) (h2 : aev E y = some (vi .i64 b) := by exact rfl) (h : b ≤ a := by first | decide | omega) (ha : a < 9223372036854775808 := by first | decide | omega) :
    PureOp P (.binOp .sub t x y t') E (vi .i64 (a - b)) := PureOp.subI h1 h2 h ha
theorem pLt {k : IntKind} {a b : Nat} (h1 : aev E x = some (vi k a) := by exact rfl) (h2 : aev E y = some (vi k b) := by exact rfl) : PureOp P (.binOp .lss t x y t') E (.bool (decide (a < b))) := PureOp.ltN h1 h2
theorem pGt {k : IntKind} {a b : Nat} (h1 : aev E x = some (vi k a) := by exact rfl) (h2 : aev E y = some (vi k b) := by exact rfl) : PureOp P (.binOp .gtr t x y t') E (.bool (decide (b < a))) := PureOp.gtN h1 h2
theorem pEq {k : IntKind} {a b : Nat} (h1 : aev E x = some (vi k a) := by exact rfl) (h2 : aev E y = some (vi k b) := by exact rfl) : PureOp P (.binOp .eql t x y t') E (.bool (a == b)) := PureOp.eqN h1 h2
theorem pNe {k : IntKind} {a b : Nat} (h1 : aev E x = some (vi k a) := by exact rfl) (h2 : aev E y = some (vi k b) := by exact rfl) : PureOp P (.binOp .neq t x y t') E (.bool (a != b)) := PureOp.neN h1 h2
theorem yL1 {id o : Nat} {b : Blk} (hr : AWo Tryz.prog ops n (i + 1) os ⟨upd E d v, M⟩ (fun es => D (⟨[id], []⟩ :: es)) K) (ha : aev E x = some (.pointer (some ⟨id, o, none⟩)) := by exact rfl) (hb : M id = some b := by exact rfl)
    (ht : Tb.agg.lookup t = some false := by exact rfl) (hv : b.cells[o]? = some v := by exact rfl) (hw : wantA ops E ⟨some d, .load t x, ty, ps, af, g⟩ = some true := by exact rfl) (hd : Nat.blt d n = true := by exact rfl) :
    AWo Tryz.prog ops n i (⟨some d, .load t x, ty, ps, af, g⟩ :: os) ⟨E, M⟩ D K := AWo.load tbok ha hb ht hv hw hd hr
theorem yL {α : Type} {f : α → Value} {l : List α} (dflt : α) {rw : Bool} {es id o : Nat} (hr : AWo Tryz.prog ops n (i + 1) os ⟨upd E d (f (l.getD o dflt)), M⟩ (fun es => D (⟨[id], []⟩ :: es)) K)
    (ha : aev E x = some (.pointer (some ⟨id, o, none⟩)) := by exact rfl) (hb : M id = some ⟨l.map f, rw, es⟩ := by exact rfl) (ht : Tb.agg.lookup t = some false := by exact rfl) (ho : o < l.length := by first | decide | omega)
    (hw : wantA ops E ⟨some d, .load t x, ty, ps, af, g⟩ = some true := by exact rfl) (hd : Nat.blt d n = true := by exact rfl) : AWo Tryz.prog ops n i (⟨some d, .load t x, ty, ps, af, g⟩ :: os) ⟨E, M⟩ D K := AWo.loadM tbok dflt ha hb ht ho hw hd hr
theorem yLA {id sz : Nat} {cells : List Value} {rw : Bool} {es : Nat} (hr : AWo Tryz.prog ops n (i + 1) os ⟨upd E d (.agg cells.toArray), M⟩ (fun es => D (⟨[id], []⟩ :: es)) K)
    (ha : aev E x = some (.pointer (some ⟨id, 0, none⟩)) := by exact rfl) (hb : M id = some ⟨cells, rw, es⟩ := by exact rfl)
    (ht : Tb.agg.lookup t = some true := by exact rfl) (hs : Tb.sz.lookup t = some sz := by exact rfl) (hl : cells.length = sz := by first | (simp [*]; done) | rfl) (hw : wantA ops E ⟨some d, .load t x, ty, ps, af, g⟩ = some true := by exact rfl) (hd : Nat.blt d n = true := by exact rfl) :
    AWo Tryz.prog ops n i (⟨some d, .load t x, ty, ps, af, g⟩ :: os) ⟨E, M⟩ D K := AWo.loadAll tbok ha hb ht hs hl hw hd hr
theorem yS {α : Type} (f : α → Value) {l : List α} {z : α} {es id o : Nat} (hr' : AWo Tryz.prog ops n (i + 1) os ⟨E, upd M id ⟨(l.set o z).map f, true, es⟩⟩ (fun es' => D (⟨[id], [(id, ⟨(l.set o z).map f, true, es⟩)]⟩ :: es')) K)
    (ha : aev E x = some (.pointer (some ⟨id, o, none⟩)) := by exact rfl) (hx : aev E y = some (f z) := by exact rfl)
    (hb : M id = some ⟨l.map f, true, es⟩ := by exact rfl) (hs : Tb.sz.lookup t = some 1 := by exact rfl) (ho : o < l.length := by first | decide | omega) (hc : (f z).oneCell' = true := by exact rfl)
    (hw : wantA ops E ⟨none, .store t x y, ty, ps, af, g⟩ = some true := by exact rfl) : AWo Tryz.prog ops n i (⟨none, .store t x y, ty, ps, af, g⟩ :: os) ⟨E, M⟩ D K := AWo.storeM tbok ha hx hb hs ho hc hw hr'
theorem ySA {id sz : Nat} {cells : List Value} {es : Nat} {vs : List Value} (hr' : AWo Tryz.prog ops n (i + 1) os ⟨E, upd M id ⟨vs, true, es⟩⟩ (fun es' => D (⟨[id], [(id, ⟨vs, true, es⟩)]⟩ :: es')) K)
    (ha : aev E x = some (.pointer (some ⟨id, 0, none⟩)) := by exact rfl) (hx : aev E y = some (.agg vs.toArray) := by exact rfl) (hb : M id = some ⟨cells, true, es⟩ := by exact rfl) (hs : Tb.sz.lookup t = some sz := by exact rfl)
    (h1 : vs.length = sz := by first | (simp [*]; done) | rfl) (h2 : cells.length = sz := by first | (simp [*]; done) | rfl) (hc : vs.all (·.oneCell') = true := by first | exact oneM (fun _ => rfl) _ | rfl | (simp; done))
    (hw : wantA ops E ⟨none, .store t x y, ty, ps, af, g⟩ = some true := by exact rfl) : AWo Tryz.prog ops n i (⟨none, .store t x y, ty, ps, af, g⟩ :: os) ⟨E, M⟩ D K := AWo.storeAllN tbok ha hx hb hs h1 h2 hc hw hr'
theorem yN {z : Value} (id es : Nat) (cells : List Value) (hr : AWo Tryz.prog ops n (i + 1) os ⟨upd E d (.pointer (some ⟨id, 0, none⟩)), upd M id ⟨cells, true, es⟩⟩ (fun es' => D (⟨[], [(id, ⟨cells, true, es⟩)]⟩ :: es')) K)
    (hz : Tb.zero.lookup t = some z := by exact rfl) (hf : z.cells.toList.all flatV = true := by exact rfl) (hc : z.cells.toList = cells := by exact rfl) (hid : M id = none := by exact rfl)
    (hw : wantA ops E ⟨some d, .alloc t, ty, ps, af, g⟩ = some true := by exact rfl) (hd : Nat.blt d n = true := by exact rfl) : AWo Tryz.prog ops n i (⟨some d, .alloc t, ty, ps, af, g⟩ :: os) ⟨E, M⟩ D K := AWo.alloc tbok id es cells hz hf hc hid hw hd hr
theorem yO (id es : Nat) (cells : List Value) (hr : AWo P ops n (i + 1) os ⟨upd E d (.pointer (some ⟨id, 0, none⟩)), upd M id ⟨cells, true, es⟩⟩ (fun es' => D (⟨[], [(id, ⟨cells, true, es⟩)]⟩ :: es')) K)
    (hx : aev E x = some v := by exact rfl) (hc : v.cells.toList = cells := by exact rfl) (hid : M id = none := by exact rfl)
    (hw : wantA ops E ⟨some d, .box t x, ty, ps, af, g⟩ = some true := by exact rfl) (hd : Nat.blt d n = true := by exact rfl) : AWo P ops n i (⟨some d, .box t x, ty, ps, af, g⟩ :: os) ⟨E, M⟩ D K := AWo.box id es cells hx hc hid hw hd hr
end
section
variable {P : Program} {n m : Nat} {σ : ASt} {Q : Exit → ASt → Prop} {ops : Array Oper} {i id l : Nat} {K Y : ASt → Prop} {D : List Eff → Prop} {a b : Code} {c : Operand}
theorem zN (hK : K σ) (hD : D [] := by exact trivial) : AWo P ops n i [] σ D K := AWo.nil hD hK
theorem zD (hK : K σ) (hD : D [] := by kernel_rfl) : AWo P ops n i [] σ D K := AWo.nil hD hK
theorem zS (h : AWo P ops n 0 ops.toList σ (fun _ => True) (fun σ' => AW P n m b σ' Q)) : AW P n m (.seq (.region id ops false) b) σ Q := AW.seqR h
theorem zR (h : AWo P ops n 0 ops.toList σ (fun _ => True) (Q .normal)) : AW P n m (.region id ops false) σ Q := AW.region h
theorem zQ (h : AW P n m a σ (thenA (fun σ' => AW P n m b σ' Q) Q)) : AW P n m (.seq a b) σ Q := AW.seq h
theorem zT (h : Y σ) : thenA Y Q .normal σ := h
theorem zV (h : Q (.exit id) σ) : thenA Y Q (.exit id) σ := h
theorem zU (h : Q .ret σ) : thenA Y Q .ret σ := h
theorem zL (h : Q .normal σ) : inBlockA id Q .normal σ := h
theorem zI (h : Q .ret σ) : inBlockA id Q .ret σ := h
theorem zH (h : Q .normal σ) : inBlockA id Q (.exit id) σ := inBlockA_hit h
theorem zK (h : Q .normal σ) : AW P n m .skip σ Q := AW.skip h
theorem zB (h : AW P n m a σ (inBlockA id Q)) : AW P n m (.block id a) σ Q := AW.block h
theorem zX (h : Q (.exit id) σ) : AW P n m (.exit id) σ Q := AW.exit h
theorem zE (h : Q .ret σ) : AW P n m .ret σ Q := AW.ret h
theorem zC (h : AW P n m a σ Q) (hc : aev σ.env c = some (.bool true) := by exact rfl) : AW P n m (.cond c a b) σ Q := AW.condT hc h
theorem zF (h : AW P n m b σ Q) (hc : aev σ.env c = some (.bool false) := by exact rfl) : AW P n m (.cond c a b) σ Q := AW.condF hc h
theorem zA {b' : Bool} (ht : b' = true → AW P n m a σ Q) (hf : b' = false → AW P n m b σ Q) (hc : aev σ.env c = some (.bool b') := by exact rfl) : AW P n m (.cond c a b) σ Q := AW.cond hc ht hf
end
theorem gi {f : FuncId} {fn : Func} {c : Code} {vs rv : List Value} {M0 Mo : List Blk} (hf : Tryz.prog.funcs[f]? = some fn)
    (h : AW Tryz.prog fn.ntmps M0.length c ⟨envL vs, memL M0⟩ (RetQ Tryz.prog fn M0.length (oneV rv) Mo))
    (hb : fn.body = some c := by exact rfl) (hlen : vs.length ≤ fn.ntmps := by exact of_decide_eq_true rfl) (hM : M0.length ≤ Mo.length := by first | exact Nat.le_refl _ | decide | simp) : GC Tryz.prog f vs M0 rv Mo :=
  GC.intro hf hb hlen hM h
def WkI (_ : List Nat) (Dm : Nat → Prop) (fm : List (Nat × Nat)) (M N : Mem) : Prop := WkM Dm fm M N
theorem WkI.ren {Dm : Nat → Prop} {fm : List (Nat × Nat)} {M N : Mem} {i : Nat} {cells c' : List Value} {rw rw' : Bool} {es : Nat} {ids : List Nat} (h1 : M ((fm.lookup i).getD i) = some ⟨c', rw', es⟩) (hc : cells.map (ren1 (idm fm)) = c')
    (hok : cells.all (okI ids) = true) (hD : ∀ i ∈ ids, Dm i) (h3 : rw = true → rw' = true) (h : WkI ids Dm fm M N) : WkI ids Dm fm M (Sim.upd N i ⟨cells, rw, es⟩) := WkM.ren ids h1 hc hok hD h3 h
theorem WkI.flat {Dm : Nat → Prop} {fm : List (Nat × Nat)} {M N : Mem} {i : Nat} {cells : List Value} {rw rw' : Bool} {es : Nat} {ids : List Nat} (h1 : M ((fm.lookup i).getD i) = some ⟨cells, rw', es⟩)
    (hf : ∀ v ∈ cells, flatV v = true) (h3 : rw = true → rw' = true) (h : WkI ids Dm fm M N) : WkI ids Dm fm M (Sim.upd N i ⟨cells, rw, es⟩) := WkM.flat h1 hf h3 h
theorem WkI.flatM {α : Type} {f : α → Value} {l l' : List α} {Dm : Nat → Prop} {fm : List (Nat × Nat)} {M N : Mem} {i : Nat} {rw rw' : Bool} {es : Nat} {ids : List Nat} (h1 : M ((fm.lookup i).getD i) = some ⟨l'.map f, rw', es⟩)
    (he : l = l') (hf : ∀ x, flatV (f x) = true) (h3 : rw = true → rw' = true) (h : WkI ids Dm fm M N) : WkI ids Dm fm M (Sim.upd N i ⟨l.map f, rw, es⟩) := WkM.flatM h1 he hf h3 h
theorem WkI.cloM {α : Type} {f : α → Value} {l l' : List α} {Dm : Nat → Prop} {fm : List (Nat × Nat)} {M N : Mem} {i : Nat} {rw rw' : Bool} {es : Nat} {ids : List Nat} (h1 : M ((fm.lookup i).getD i) = some ⟨l'.map f, rw', es⟩)
    (he : l = l') (hf : ∀ x, cloV (f x) = true) (h3 : rw = true → rw' = true) (h : WkI ids Dm fm M N) : WkI ids Dm fm M (Sim.upd N i ⟨l.map f, rw, es⟩) := WkM.cloM h1 he hf h3 h
theorem wk {m : Nat} {fm : List (Nat × Nat)} {σ : ASt} {F : Env} {N : Mem} (ids : List Nat)
    (hE : WkE (dom N) fm σ.env F := by
      repeat (first
        | exact WkE.emp
        | refine WkE.upd rfl (.slice _ _ _ 0 ⟨_, rfl⟩ (by simp) (by simp)) ?_
        | refine WkE.upd rfl (.ptr _ _ ⟨_, rfl⟩) ?_
        | refine WkE.upd rfl (VR.flat _ rfl) ?_
        | refine WkE.upd rfl (clo_refl (by simp) rfl) ?_
        | refine WkE.upd rfl (.nilS _ (by simp)) ?_
        | refine WkE.upd rfl (.deepN _ (by simp)) ?_
        | refine WkE.upd rfl (VR.pure rfl) ?_
        | refine WkE.upd rfl (VR.aggM flat_vi) ?_
        | refine WkE.upd rfl (VR.eqv (vp_succ _) rfl) ?_
        | refine WkE.upd rfl (VR.eqv (vp_succ _).symm rfl) ?_
        | refine WkE.upd rfl (VR.eqv (by first | rfl | (congr 1; omega) | (simp; done) | (simp; omega)) rfl) ?_))
    (hM : WkI ids (dom N) fm σ.mem N := by
      repeat (first
        | exact WkM.emp
        | refine WkI.flatM rfl rfl flat_vi (fun h => h) ?_
        | refine WkI.flatM rfl rfl (fun _ => rfl) (fun h => h) ?_
        | refine WkI.cloM rfl rfl (fun _ => rfl) (fun h => h) ?_
        | refine WkI.ren rfl rfl rfl (dom_all rfl) (fun h => h) ?_
        | refine WkI.flatM rfl (by first | assumption | simp) (fun _ => rfl) (fun h => h) ?_
        | refine WkI.flat rfl (by simp [flatV, flat_vi]) (fun h => h) ?_))
    (hids : ∀ i, dom N i → i ∈ ids := by
      repeat (refine dom_upd_mem (by decide) ?_)
      exact dom_emp)
    (hnd : (ids.map fun i => (fm.lookup i).getD i).Nodup := by decide) (hlow : ((List.range m).all fun i => (N i).isSome && (fm.lookup i).getD i == i) = true := by exact rfl) : Wk m fm σ ⟨F, N⟩ :=
  Wk.of ids hE hM hids hnd hlow
theorem rq {fn : Func} {e : Exit} {σ : ASt} {m : Nat} {rv vs : List Value} {Mo : List Blk} (nids : List Nat) (rvs : List ResultVar) (he : e = .ret ∨ e = .normal := by first | exact .inl rfl | exact .inr rfl)
    (hr : fn.results = rvs.toArray := by exact rfl)
    (hv : RVs Tryz.prog σ rvs vs := by
      repeat (first
        | exact .nil
        | (apply RVs.tmp; exact rfl)
        | (apply RVs.val; exact RVal.cell1 tbok rfl rfl rfl rfl)
        | (apply RVs.val; exact RVal.cellAll tbok rfl rfl rfl rfl (by first | (simp [*]; done) | rfl))))
    (hl : Mo.length = m + nids.length := by exact rfl)
    (hres : RelL (hmap m nids) Mo.length rv vs := by
      repeat (first
        | exact .nil
        | refine .pure (pure_aggM flat_vi) ?_
        | refine .pure (pure_aggM flat_bool) ?_
        | refine .cons rfl rfl ?_
        | refine .nilS ?_
        | refine .deepN ?_
        | refine .pure rfl ?_))
    (hb : OutL m nids σ.mem Mo.length 0 Mo := by
      repeat (first
        | exact trivial
        | refine OutL.flat rfl (flatM flat_vi) (by intro h; first | rfl | exact h.elim id fun h => absurd h.1 (by simp)) ?_
        | refine OutL.clo rfl (cloM fun _ => rfl) (by intro h; first | rfl | exact h.elim id fun h => absurd h.1 (by simp)) ?_
        | refine OutL.flat rfl (flatM flat_bool) (by intro h; first | rfl | exact h.elim id fun h => absurd h.1 (by simp)) ?_
        | refine OutL.flat rfl (by simp [flatV, flat_vi]; done) (by intro h; first | rfl | exact h.elim id fun h => absurd h.1 (by simp)) ?_
        | refine OutL.whole rfl rfl (OkL.all rfl) (by intro h; first | rfl | exact h.elim id fun h => absurd h.1 (by simp)) ?_))
    (hnd : nids.Nodup := by decide) (hfar : (nids.all fun i => Nat.ble m i) = true := by exact rfl) : RetQ Tryz.prog fn m (oneV rv) Mo e σ :=
  RetQ.gc vs nids rvs he hr hv hl hres hb hnd hfar
section
variable {P : Program} {ops : Array Oper} {n i : Nat} {os : List Oper} {E : Env} {M : Mem} {D : List Eff → Prop} {K : ASt → Prop}
  {d : Option Tmp} {ty : TypeId} {ps : String} {af : Array Edge} {gd : Option (Nat × Bool)} {f : FuncId} {aops : Array Operand} {tys : Array TypeId} {vals : List Value} {fop : Operand}
theorem yC {vs rv rv' : List Value} {M0 Mo : List Blk} (S : Ctr P f vs M0 (oneV rv) Mo) (hb : Bodied P f) (g : List (Nat × Nat)) (nids : List Nat) {new : List (Nat × Blk)} {fs cs : Array Value} {allv : List Value} {v : Value} {M' : Mem}
    (hr : AWo P ops n (i + 1) os ⟨putE E d v, M'⟩ (fun es => D (⟨g.map (·.1), new⟩ :: es)) K)
    (hf : aev E fop = some (.func (.func f) fs cs) := by exact rfl)
    (hx : Evs E aops.toList vals := by
      repeat (first | exact .nil | (apply Evs.cons; exact rfl)))
    (hall : fs.toList ++ vals ++ cs.toList = allv := by exact rfl)
    (hargs : RelL (gmap g nids) M0.length vs allv := by
      repeat (first
        | exact .nil
        | refine .pure (pure_aggM flat_vi) ?_
        | refine .pure (pure_aggM flat_bool) ?_
        | refine .cons rfl rfl ?_
        | refine .nilS ?_
        | refine .deepN ?_
        | refine .pure rfl ?_))
    (hfit : FitL (gmap g nids) M0.length M M0 g := by
      repeat (first
        | exact .nil
        | refine .flat rfl (flatM flat_vi) (by intro h; first | exact h | rfl) ?_
        | refine .clo rfl (cloM fun _ => rfl) (by intro h; first | exact h | rfl) ?_
        | refine .flat rfl (flatM flat_bool) (by intro h; first | exact h | rfl) ?_
        | refine .flat rfl (by simp [flatV, flat_vi]; done) (by intro h; first | exact h | rfl) ?_
        | refine .whole rfl rfl (OkL.all rfl) (by intro h; first | exact h | rfl) ?_))
    (hl : loneB M0 g = true := by exact rfl)
    (hnew : NewL (gmap g nids) Mo.length M0 Mo g nids new := by
      repeat (first
        | exact .nil
        | (apply NewL.keep; exact rfl)
        | (apply NewL.gone; exact rfl; exact rfl; exact OkL.flat (by simp; done))
        | (apply NewL.chg; exact rfl; exact rfl; exact flat_map_ren (flatM flat_vi); exact OkL.flat (flatM flat_vi))
        | (apply NewL.new; exact flat_map_ren (flatM flat_vi); exact OkL.flat (flatM flat_vi))
        | (apply NewL.new; exact clo_map_ren (cloM fun _ => rfl); exact OkL.clo (cloM fun _ => rfl))
        | (apply NewL.new; exact flat_map_ren (flatM flat_bool); exact OkL.flat (flatM flat_bool))
        | (apply NewL.new; exact rfl; exact OkL.all rfl)))
    (hfr : ∀ i ∈ nids, M i = none := by
      repeat (first | exact frN | refine frC rfl ?_))
    (hnd : nids.Nodup := by decide)
    (hrv : RelR (gmap g nids) Mo.length rv rv' := by
      repeat (first
        | exact .nil
        | (apply RelR.pure; exact pure_aggM flat_vi)
        | (apply RelR.pure; exact pure_aggM flat_bool)
        | (apply RelR.cons; exact rfl; exact rfl)
        | (apply RelR.pure; exact rfl)))
    (hv : oneV rv' = v := by exact rfl) (hM : upds M new = M' := by exact rfl)
    (hw : wantA ops E ⟨d, .call ⟨.value fop, aops, tys⟩, ty, ps, af, gd⟩ = some true := by exact rfl) (hd : dstB n d = true := by exact rfl) :
    AWo P ops n i (⟨d, .call ⟨.value fop, aops, tys⟩, ty, ps, af, gd⟩ :: os) ⟨E, M⟩ D K :=
  AWo.callX S hb g nids hf hx hall hargs hfit hl hnew hfr hnd hrv hv hM hw hd hr
end
end Go.Proofs.YtlfadlfjjkppfaaGreatDoor
namespace Go.Proofs.YtlfadlfjjkppfaaGreatDoor
open Go Sim
theorem add64_run (x y c : Nat) (hc : c ≤ 1) (w : World) : (callFunc 139 #[vi .u64 x, vi .u64 y, vi .u64 c]).run Tryz.prog w =
   .ok (.value (.tuple #[vi .u64 ((x + y + c) % 18446744073709551616), vi .u64 ((x + y + c) / 18446744073709551616)])) w := by
  simp only [vi]
  rw [run_callFunc_extern (fn := Tryz.f139) (by kernel_rfl) (by kernel_rfl) (by kernel_rfl) (by kernel_rfl) (e := add64Entry) (by kernel_rfl), run_add64 x y c (by omega) (by omega) (by omega) (by omega)]
  simp only [Result.andThen]
  congr 5 <;> omega
theorem add64 {aops : Array Operand} {tys : Array TypeId} {E : Env} {x y c : Nat} {fop : Operand} (hf : aev E fop = some (.func (.func 139) #[] #[])) (hv : aops.toList.map (aev E) = [some (vi .u64 x), some (vi .u64 y), some (vi .u64 c)]) (hc : c ≤ 1) :
    PureOp Tryz.prog (.call ⟨.value fop, aops, tys⟩) E (.tuple #[vi .u64 ((x + y + c) % 18446744073709551616), vi .u64 ((x + y + c) / 18446744073709551616)]) :=
  PureOp.extern (f := 139) (vals := [vi .u64 x, vi .u64 y, vi .u64 c]) hf hv rfl (.inr rfl) (add64_run x y c hc)
def sub64E : Array Value → Sem Value := fun args => do
  let (x, y, b) ← Extern.MathBitsCarry.three "Sub64" args
  pure (Extern.MathBitsCarry.pair ((x + Extern.MathBitsCarry.m64 - y - b) % Extern.MathBitsCarry.m64) (if x < y + b then 1 else 0))
theorem sub64_run (x y c : Nat) (hc : c ≤ 1) (w : World) : (callFunc 176 #[vi .u64 x, vi .u64 y, vi .u64 c]).run Tryz.prog w =
   .ok (.value (.tuple #[vi .u64 ((x + 18446744073709551616 - y - c) % 18446744073709551616), vi .u64 (if x < y + c then 1 else 0)])) w := by
  simp only [vi]
  rw [run_callFunc_extern (fn := Tryz.f176) (by kernel_rfl) (by kernel_rfl) (by kernel_rfl) (by kernel_rfl) (e := sub64E) (by kernel_rfl)]
  have : c = 0 ∨ c = 1 := by omega
  rcases this with rfl | rfl <;> rfl
theorem sub64 {aops : Array Operand} {tys : Array TypeId} {E : Env} {x y c : Nat} {fop : Operand} (hf : aev E fop = some (.func (.func 176) #[] #[])) (hv : aops.toList.map (aev E) = [some (vi .u64 x), some (vi .u64 y), some (vi .u64 c)]) (hc : c ≤ 1) :
    PureOp Tryz.prog (.call ⟨.value fop, aops, tys⟩) E (.tuple #[vi .u64 ((x + 18446744073709551616 - y - c) % 18446744073709551616), vi .u64 (if x < y + c then 1 else 0)]) :=
  PureOp.extern (f := 176) (vals := [vi .u64 x, vi .u64 y, vi .u64 c]) hf hv rfl (.inr rfl) (sub64_run x y c hc)
theorem and32 {P : Program} {E : Env} {t t' : TypeId} {x y : Operand} {a : Nat} (h1 : aev E x = some (vi .u64 a)) (h2 : aev E y = some (vi .u64 4294967295)) (ha : a < 18446744073709551616) : PureOp P (.binOp .and t x y t') E (vi .u64 (a % 4294967296)) :=
  (PureOp.andN 18446744073709551616 h1 h2 (by decide) (by decide) ha (by decide)).mono (by
    rw [show (4294967295 : Nat) = 2 ^ 32 - 1 by decide, Nat.and_two_pow_sub_one_eq_mod])
theorem prod_le (x y : Nat) (hx : x < 18446744073709551616) (hy : y < 18446744073709551616) : x % 4294967296 * (y % 4294967296) ≤ 18446744065119617025 ∧ x / 4294967296 * (y % 4294967296) ≤ 18446744065119617025 ∧
    x % 4294967296 * (y / 4294967296) ≤ 18446744065119617025 ∧ x / 4294967296 * (y / 4294967296) ≤ 18446744065119617025 ∧
    x * y = x / 4294967296 * (y / 4294967296) * 18446744073709551616 + x / 4294967296 * (y % 4294967296) * 4294967296 + x % 4294967296 * (y / 4294967296) * 4294967296 + x % 4294967296 * (y % 4294967296) := by
  have h1 : x % 4294967296 ≤ 4294967295 := by omega
  have h2 : x / 4294967296 ≤ 4294967295 := by omega
  have h3 : y % 4294967296 ≤ 4294967295 := by omega
  have h4 : y / 4294967296 ≤ 4294967295 := by omega
  refine ⟨Nat.mul_le_mul h1 h3, Nat.mul_le_mul h2 h3, Nat.mul_le_mul h1 h4, Nat.mul_le_mul h2 h4, ?_⟩
  have e1 : x = x / 4294967296 * 4294967296 + x % 4294967296 := by omega
  have e2 : y = y / 4294967296 * 4294967296 + y % 4294967296 := by omega
  conv => lhs; rw [e1, e2]
  generalize x / 4294967296 = a
  generalize x % 4294967296 = b
  generalize y / 4294967296 = c
  generalize y % 4294967296 = d
  grind
set_option maxRecDepth 10000 in
theorem mul64 {x y : Nat} (hx : x < 18446744073709551616) (hy : y < 18446744073709551616) : GC Tryz.prog 165 [vi .u64 (x), vi .u64 (y)] [] [vi .u64 (x * y / 18446744073709551616), vi .u64 (x * y % 18446744073709551616)] [] := by
  refine gi Tryz.func165 ?_
  have h1 := prod_le x y hx hy
  obtain ⟨h1, h2, h3, h4, h5⟩ := h1
  refine zS ?_
  refine yA ?_
  refine yA ?_
  refine zN (zS ?_)
  refine yM ?_
  refine yP (and32 rfl rfl hx) ?_
  refine yA ?_
  refine zN (zS ?_)
  refine yM ?_
  refine yP ((PureOp.shrN (b := 32) 64 rfl rfl rfl (by decide)).mono (v' := vi .u64 (x / 4294967296)) rfl) ?_
  refine yA ?_
  refine zN (zS ?_)
  refine yM ?_
  refine yP (and32 rfl rfl hy) ?_
  refine yA ?_
  refine zN (zS ?_)
  refine yM ?_
  refine yP ((PureOp.shrN (b := 32) 64 rfl rfl rfl (by decide)).mono (v' := vi .u64 (y / 4294967296)) rfl) ?_
  refine yA ?_
  refine zN (zS ?_)
  refine yM ?_
  refine yM ?_
  refine yP ((PureOp.mulU 18446744073709551616 rfl rfl rfl rfl).mono (v' := vi .u64 ((x % 4294967296) * (y % 4294967296))) (by rw [Nat.mod_eq_of_lt (by omega)])) ?_
  refine yA ?_
  refine zN (zS ?_)
  refine yM ?_
  refine yM ?_
  refine yP ((PureOp.mulU 18446744073709551616 rfl rfl rfl rfl).mono (v' := vi .u64 ((x / 4294967296) * (y % 4294967296))) (by rw [Nat.mod_eq_of_lt (by omega)])) ?_
  refine yM ?_
  refine yP ((PureOp.shrN (b := 32) 64 rfl rfl rfl (by decide)).mono (v' := vi .u64 ((x % 4294967296) * (y % 4294967296) / 4294967296)) rfl) ?_
  refine yP ((PureOp.addU 18446744073709551616 rfl rfl rfl rfl).mono (v' := vi .u64 ((x / 4294967296) * (y % 4294967296) + (x % 4294967296) * (y % 4294967296) / 4294967296)) (by rw [Nat.mod_eq_of_lt (by omega)])) ?_
  refine yA ?_
  refine zN (zS ?_)
  refine yM ?_
  refine yP (and32 rfl rfl (by omega)) ?_
  refine yA ?_
  refine zN (zS ?_)
  refine yM ?_
  refine yP ((PureOp.shrN (b := 32) 64 rfl rfl rfl (by decide)).mono (v' := vi .u64 (((x / 4294967296) * (y % 4294967296) + (x % 4294967296) * (y % 4294967296) / 4294967296) / 4294967296)) rfl) ?_
  refine yA ?_
  refine zN (zS ?_)
  refine yM ?_
  refine yM ?_
  refine yM ?_
  refine yP ((PureOp.mulU 18446744073709551616 rfl rfl rfl rfl).mono (v' := vi .u64 ((x % 4294967296) * (y / 4294967296))) (by rw [Nat.mod_eq_of_lt (by omega)])) ?_
  refine yP ((PureOp.addU 18446744073709551616 rfl rfl rfl rfl).mono (v' := vi .u64 (((x / 4294967296) * (y % 4294967296) + (x % 4294967296) * (y % 4294967296) / 4294967296) % 4294967296 + (x % 4294967296) * (y / 4294967296))) (by rw [Nat.mod_eq_of_lt (by omega)])) ?_
  refine yA ?_
  refine zN (zS ?_)
  refine yM ?_
  refine yM ?_
  refine yP ((PureOp.mulU 18446744073709551616 rfl rfl rfl rfl).mono (v' := vi .u64 ((x / 4294967296) * (y / 4294967296))) (by rw [Nat.mod_eq_of_lt (by omega)])) ?_
  refine yM ?_
  refine yP ((PureOp.addU 18446744073709551616 rfl rfl rfl rfl).mono (v' := vi .u64 ((x / 4294967296) * (y / 4294967296) + ((x / 4294967296) * (y % 4294967296) + (x % 4294967296) * (y % 4294967296) / 4294967296) / 4294967296)) (by rw [Nat.mod_eq_of_lt (by omega)])) ?_
  refine yM ?_
  refine yP ((PureOp.shrN (b := 32) 64 rfl rfl rfl (by decide)).mono (v' := vi .u64 ((((x / 4294967296) * (y % 4294967296) + (x % 4294967296) * (y % 4294967296) / 4294967296) % 4294967296 + (x % 4294967296) * (y / 4294967296)) / 4294967296)) rfl) ?_
  refine yP ((PureOp.addU 18446744073709551616 rfl rfl rfl rfl).mono (v' := vi .u64 (x * y / 18446744073709551616)) (by rw [Nat.mod_eq_of_lt (by omega)]; congr 1; omega)) ?_
  refine yA ?_
  refine zN (zS ?_)
  refine yM ?_
  refine yM ?_
  refine yP (PureOp.mulU 18446744073709551616 rfl rfl rfl rfl) ?_
  refine yA ?_
  refine zN (zE ?_)
  exact rq [] [.tmp 4, .tmp 5]
end Go.Proofs.YtlfadlfjjkppfaaGreatDoor
namespace Go.Proofs.YtlfadlfjjkppfaaGreatDoor
open Go Sim
def cmpI (a b : Nat) : Int := if a < b then -1 else if b < a then 1 else 0
section
variable {B : Nat}
theorem getD_ge {l : List Nat} {i : Nat} (h : l.length ≤ i) : l.getD i 0 = 0 := by
  rw [List.getD_eq_getElem?_getD, List.getElem?_eq_none h]; rfl
theorem top_lt {a c r : Nat} (h : a / B ^ (r + 1) = c / B ^ (r + 1)) (hd : a / B ^ r % B < c / B ^ r % B) : a < c := by
  rcases Nat.lt_or_ge a c with h1 | h1
  · exact h1
  · exfalso
    have h2 := Nat.div_le_div_right (c := B ^ r) h1
    rw [Nat.pow_succ, ← Nat.div_div_eq_div_mul, ← Nat.div_div_eq_div_mul] at h
    have e1 := Nat.div_add_mod (a / B ^ r) B
    have e2 := Nat.div_add_mod (c / B ^ r) B
    rw [h] at e1
    omega
theorem top_eq {a c r : Nat} (h : a / B ^ (r + 1) = c / B ^ (r + 1)) (hd : a / B ^ r % B = c / B ^ r % B) : a / B ^ r = c / B ^ r := by
  rw [Nat.pow_succ, ← Nat.div_div_eq_div_mul, ← Nat.div_div_eq_div_mul] at h
  have e1 := Nat.div_add_mod (a / B ^ r) B
  have e2 := Nat.div_add_mod (c / B ^ r) B
  rw [h, hd] at e1
  omega
theorem div_big {l : List Nat} (h : bd B l) (hB : 0 < B) {n : Nat} (hn : l.length ≤ n) : num B l / B ^ n = 0 :=
  Nat.div_eq_of_lt (Nat.lt_of_lt_of_le (num_lt h) (Nat.pow_le_pow_right hB hn))
theorem num_lt_pow {l : List Nat} (h : bd B l) (hB : 0 < B) {n : Nat} (hn : l.length ≤ n) : num B l < B ^ n := Nat.lt_of_lt_of_le (num_lt h) (Nat.pow_le_pow_right hB hn)
theorem add_step {l : List Nat} {i a b c x y : Nat} (hl : l.length = i) (h : num B l + B ^ i * c = a % B ^ i + b % B ^ i) (hx : x = a / B ^ i % B) (hy : y = b / B ^ i % B) :
    num B (l ++ [(x + y + c) % B]) + B ^ (i + 1) * ((x + y + c) / B) = a % B ^ (i + 1) + b % B ^ (i + 1) := by
  rw [num_append, hl, mod_succ a, mod_succ b, ← hx, ← hy]
  simp only [num, Nat.mul_zero, Nat.add_zero, Nat.pow_succ]
  have e := Nat.mod_add_div (x + y + c) B
  have e2 : B ^ i * ((x + y + c) % B) + B ^ i * B * ((x + y + c) / B) = B ^ i * (x + y + c) := by rw [Nat.mul_assoc, ← Nat.mul_add, e]
  have e3 : B ^ i * (x + y + c) = B ^ i * x + B ^ i * y + B ^ i * c := by rw [Nat.mul_add, Nat.mul_add]
  omega
theorem sub_step {l : List Nat} {i a b c x y : Nat} (hl : l.length = i) (h : num B l + b % B ^ i = a % B ^ i + B ^ i * c) (hx : x = a / B ^ i % B) (hy : y = b / B ^ i % B) (hyB : y < B) (hc : c ≤ 1) :
    num B (l ++ [(B + x - y - c) % B]) + b % B ^ (i + 1) = a % B ^ (i + 1) + B ^ (i + 1) * (1 - (B + x - y - c) / B) := by
  have hxB : x < B := by rw [hx]; exact Nat.mod_lt _ (by omega)
  rw [num_append, hl, mod_succ a, mod_succ b, ← hx, ← hy]
  simp only [num, Nat.mul_zero, Nat.add_zero, Nat.pow_succ]
  rcases Nat.lt_or_ge (B + x - y - c) B with h1 | h1
  · rw [Nat.mod_eq_of_lt h1, Nat.div_eq_of_lt h1]
    have e : B ^ i * (B + x - y - c) + B ^ i * y + B ^ i * c = B ^ i * B + B ^ i * x := by
      rw [← Nat.mul_add, ← Nat.mul_add, ← Nat.mul_add]; congr 1; omega
    simp only [Nat.sub_zero, Nat.mul_one]
    omega
  · have e1 : (B + x - y - c) % B = x - y - c := by rw [Nat.mod_eq_sub_mod h1, Nat.mod_eq_of_lt (by omega)]; omega
    have e2 : (B + x - y - c) / B = 1 := by
      rw [Nat.div_eq_of_lt_le (k := 1)] <;> omega
    rw [e1, e2]
    have e : B ^ i * (x - y - c) + B ^ i * y + B ^ i * c = B ^ i * x := by
      rw [← Nat.mul_add, ← Nat.mul_add]; congr 1; omega
    simp only [Nat.sub_self, Nat.mul_zero, Nat.add_zero]
    omega
theorem map_snoc (k : IntKind) (l : List Nat) (x : Nat) : l.map (vi k) ++ [vi k x] = (l ++ [x]).map (vi k) := by simp
end
end Go.Proofs.YtlfadlfjjkppfaaGreatDoor
namespace Go.Proofs.YtlfadlfjjkppfaaGreatDoor
open Go Sim
section
variable {B : Nat}
theorem digs_snoc (n v : Nat) : digs B (n + 1) v = digs B n v ++ [v / B ^ n % B] := by
  induction n generalizing v with
  | zero => simp [digs]
  | succ n ih =>
    rw [digs, ih, digs, List.cons_append, Nat.div_div_eq_div_mul, Nat.pow_succ, Nat.mul_comm (B ^ n) B]
theorem mul_step {l b : List Nat} {i j c p x s : Nat} (hk : i + j < l.length) (h : num B l + c * B ^ (i + j) = p + x * num B (b.take j) * B ^ i) (hs : s = l.getD (i + j) 0 + x * b.getD j 0 + c) :
    num B (l.set (i + j) (s % B)) + s / B * B ^ (i + (j + 1)) = p + x * num B (b.take (j + 1)) * B ^ i := by
  have h1 := num_set (B := B) (l := l) (k := i + j) (v := s % B) hk
  have h2 := Nat.mod_add_div s B
  rw [num_take_succ, ← Nat.add_assoc, Nat.pow_succ]
  rw [Nat.pow_add] at h h1 ⊢
  generalize B ^ i = u at *
  generalize B ^ j = v at *
  generalize num B (l.set (i + j) (s % B)) = z at *
  generalize num B (b.take j) = q at *
  generalize s % B = r at *
  generalize s / B = t at *
  generalize l.getD (i + j) 0 = e at *
  generalize b.getD j 0 = y at *
  have h3 : r * (u * v) + t * (u * v * B) = s * (u * v) := by rw [← h2]; grind
  subst hs
  grind
theorem getD_set {l : List Nat} {k j v : Nat} (h : k ≠ j) : (l.set k v).getD j 0 = l.getD j 0 := by
  rw [List.getD_eq_getElem?_getD, List.getElem?_set_ne h, ← List.getD_eq_getElem?_getD]
theorem take_all {l : List Nat} : l.take l.length = l := List.take_of_length_le (Nat.le_refl _)
theorem mad_lt {e x y c b : Nat} (he : e < b) (hx : x < b) (hy : y < b) (hc : c < b) : e + x * y + c < b * b := by
  have h1 : x * y ≤ (b - 1) * (b - 1) := Nat.mul_le_mul (by omega) (by omega)
  obtain ⟨d, rfl⟩ : ∃ d, b = d + 1 := ⟨b - 1, by omega⟩
  simp only [Nat.add_sub_cancel] at h1
  have h2 : (d + 1) * (d + 1) = d * d + 2 * d + 1 := by grind
  omega
end
end Go.Proofs.YtlfadlfjjkppfaaGreatDoor
namespace Go.Proofs.YtlfadlfjjkppfaaGreatDoor
open Go Sim
theorem rep_getD (n k : Nat) : (List.replicate n 0).getD k 0 = 0 := by
 rw [List.getD_eq_getElem?_getD]
 rcases Nat.lt_or_ge k n with h | h
 · rw [List.getElem?_eq_getElem (by simpa using h)]; simp
 · rw [List.getElem?_eq_none (by simpa using h)]; rfl
end Go.Proofs.YtlfadlfjjkppfaaGreatDoor
namespace Go.Proofs.YtlfadlfjjkppfaaGreatDoor
open Go Sim
section
variable {B : Nat}
theorem take_set_succ {l : List Nat} {i v : Nat} (h : i < l.length) : (l.set i v).take (i + 1) = l.take i ++ [v] := by
 rw [List.take_succ_eq_append_getElem (by simpa using h), List.take_set_of_le (Nat.le_refl _)]
 simp
theorem sumL_end (hB : 0 < B) {l : List Nat} {n a b c : Nat} (hl : bd B l) (hln : l.length = n) (h : num B (l.take n) + B ^ n * c = a % B ^ n + b % B ^ n) (ha : a < B ^ n) (hb : b < B ^ n) :
  l = digs B n (a + b) ∧ c = (a + b) / B ^ n := by
 have h1 := num_lt hl
 rw [hln] at h1
 rw [← hln, take_all, hln, Nat.mod_eq_of_lt ha, Nat.mod_eq_of_lt hb] at h
 have hp : 0 < B ^ n := by omega
 have h2 : (a + b) / B ^ n = c := by rw [← h, Nat.add_mul_div_left _ _ hp, Nat.div_eq_of_lt h1, Nat.zero_add]
 refine ⟨?_, h2.symm⟩
 refine num_inj hl (digs_bd hB _ _) (by rw [digs_len, hln]) ?_
 rw [num_digs, ← h, Nat.add_mul_mod_self_left, Nat.mod_eq_of_lt h1]
theorem dif_step {l : List Nat} {i a b c x y : Nat} (hl : l.length = i) (h : num B l + b % B ^ i = a % B ^ i + B ^ i * c) (hx : x = a / B ^ i % B) (hy : y = b / B ^ i % B) (hxB : x < B) (hyB : y < B) (hc : c ≤ 1) :
  num B (l ++ [(x + B - y - c) % B]) + b % B ^ (i + 1) = a % B ^ (i + 1) + B ^ (i + 1) * (if x < y + c then 1 else 0) := by
 have h1 := sub_step hl h hx hy hyB hc
 rw [show x + B - y - c = B + x - y - c by omega, h1]
 congr 2
 split
 · rw [Nat.div_eq_of_lt (by omega)]
 · rw [Nat.div_eq_of_lt_le (k := 1)] <;> omega
theorem difL_end (hB : 0 < B) {l : List Nat} {n a b c : Nat} (hl : bd B l) (hln : l.length = n) (h : num B (l.take n) + b % B ^ n = a % B ^ n + B ^ n * c) (ha : a < B ^ n) (hb : b < B ^ n) (hc : c ≤ 1) :
    l = digs B n (a + B ^ n - b) ∧ c = if a < b then 1 else 0 := by
  have h1 := num_lt hl
  rw [hln] at h1
  rw [← hln, take_all, hln, Nat.mod_eq_of_lt ha, Nat.mod_eq_of_lt hb] at h
  rcases (by omega : c = 0 ∨ c = 1) with rfl | rfl
  · refine ⟨num_inj hl (digs_bd hB _ _) (by rw [digs_len, hln]) ?_, by rw [if_neg (by omega)]⟩
    rw [num_digs, show a + B ^ n - b = num B l + B ^ n by omega, Nat.add_mod_right, Nat.mod_eq_of_lt h1]
  · refine ⟨num_inj hl (digs_bd hB _ _) (by rw [digs_len, hln]) ?_, by rw [if_pos (by omega)]⟩
    rw [num_digs, show a + B ^ n - b = num B l by omega, Nat.mod_eq_of_lt h1]
theorem cmpI_eq {x y : Nat} (h : cmpI x y = 0) : x = y := by
 simp only [cmpI] at h
 split at h
 · omega
 · split at h <;> omega
theorem cmpI_top {a c r x y : Nat} (h : a / B ^ (r + 1) = c / B ^ (r + 1)) (hx : x = a / B ^ r % B) (hy : y = c / B ^ r % B) (hne : cmpI x y ≠ 0) : cmpI x y = cmpI a c := by
  have key : x < y → a < c := fun h1 => top_lt h (by rw [← hx, ← hy]; exact h1)
  have key2 : y < x → c < a := fun h1 => top_lt h.symm (by rw [← hx, ← hy]; exact h1)
  simp only [cmpI] at hne ⊢
  by_cases h1 : x < y
  · rw [if_pos h1, if_pos (key h1)]
  · by_cases h2 : y < x
    · have := key2 h2
      rw [if_neg h1, if_pos h2, if_neg (by omega), if_pos this]
    · rw [if_neg h1, if_neg h2] at hne; exact absurd rfl hne
end
set_option maxRecDepth 10000 in
theorem at_ctr {a : List Nat} {i : Nat} : GC Tryz.prog 167 [.slice (some ⟨0, 0, none⟩) a.length 0, vi .i64 (i)] [⟨a.map (vi .u64), false, 1⟩] [vi .u64 (a.getD i 0)] [⟨a.map (vi .u64), false, 1⟩] := by
 refine gi Tryz.func167 ?_
 refine zS ?_
 refine yA ?_
 refine zN (zQ (zS ?_))
 refine yM ?_
 refine yM ?_
 refine yP pL ?_
 refine yP pLt ?_
 refine zN ?_
 refine zA (fun hb0 => ?_) (fun hb0 => ?_)
 ·
  have hi : i < a.length := by simpa using hb0
  refine zS ?_
  refine yM ?_
  refine yM ?_
  refine yP pJ ?_
  refine yL 0 ?_
  refine yA ?_
  refine zN (zE (zU ?_))
  exact rq [] [.tmp 4] (hres := (.cons rfl (by rfl) .nil))
 ·
  have hi : a.length ≤ i := by simpa using hb0
  refine zK (zT (zS ?_))
  refine yA ?_
  refine zN (zE ?_)
  exact rq [] [.tmp 4] (hres := (.cons rfl (by exact congrArg (vi .u64) (getD_ge hi)) .nil))
set_option maxRecDepth 10000 in
theorem step_ctr {a x y c : Nat} (ha : a < 18446744073709551616) (hx : x < 18446744073709551616) (hy : y < 18446744073709551616) (hc : c < 18446744073709551616) : GC Tryz.prog 178 [vi .u64 (a), vi .u64 (x), vi .u64 (y), vi .u64 (c)] [] [vi .u64 ((a + x * y + c) % 18446744073709551616), vi .u64 ((a + x * y + c) / 18446744073709551616)] [] := by
 refine gi Tryz.func178 ?_
 have hp : x * y ≤ 18446744073709551615 * 18446744073709551615 := Nat.mul_le_mul (by omega) (by omega)
 refine zS ?_
 refine yA ?_
 refine yA ?_
 refine zN (zS ?_)
 refine yM ?_
 refine yM ?_
 refine AWo.callX (mul64 (by assumption) (by assumption)) bd165 [] [] rfl (.cons rfl (.cons rfl .nil)) rfl (.cons rfl rfl (.cons rfl rfl .nil)) .nil rfl .nil frN (by decide) (.cons rfl rfl (.cons rfl rfl .nil)) rfl rfl rfl rfl ?_
 refine yM ?_
 refine yP pX ?_
 refine yP pX ?_
 refine yA ?_
 refine yA ?_
 refine zN (zS ?_)
 refine yM ?_
 refine yM ?_
 refine yP (add64 (c := 0) rfl rfl (by decide)) ?_
 refine yM ?_
 refine yP pX ?_
 refine yP pX ?_
 refine yA ?_
 refine yA ?_
 refine zN (zS ?_)
 refine yM ?_
 refine yM ?_
 refine AWo.pure ((PureOp.addU 18446744073709551616 rfl rfl rfl rfl).mono (v' := vi .u64 (x * y / 18446744073709551616 + (x * y % 18446744073709551616 + a + 0) / 18446744073709551616)) (by congr 1; omega)) rfl rfl ?_
 refine yA ?_
 refine zN (zS ?_)
 refine yM ?_
 refine yM ?_
 refine yP (add64 (c := 0) rfl rfl (by decide)) ?_
 refine yM ?_
 refine yP pX ?_
 refine yP pX ?_
 refine yA ?_
 refine yA ?_
 refine AWo.nil trivial ?_
 refine AW.seqR ?_
 first | refine AWo.pure ((PureOp.move rfl).mono (v' := vi .u64 ((a + x * y + c) % 18446744073709551616)) (congrArg (vi .u64) (by omega))) rfl rfl ?_
 refine yM ?_
 refine yM ?_
 refine AWo.pure ((PureOp.addU 18446744073709551616 rfl rfl rfl rfl).mono (v' := vi .u64 ((a + x * y + c) / 18446744073709551616)) (by congr 1; omega)) rfl rfl ?_
 refine yA ?_
 refine yA ?_
 refine zN (zE ?_)
 exact rq [] [.tmp 8, .tmp 9]
set_option maxRecDepth 10000 in
theorem line_ctr {a x y c : Nat} (ha : a < 18446744073709551616) (hx : x < 18446744073709551616) (hy : y < 18446744073709551616) (hc : c < 18446744073709551616) : GC Tryz.prog 138 [vi .u64 (a), vi .u64 (x), vi .u64 (y), vi .u64 (c)] [] [vi .u64 ((a + x * y + c) % 18446744073709551616), vi .u64 ((a + x * y + c) / 18446744073709551616)] [] := by
 refine gi Tryz.func138 ?_
 have hp : x * y ≤ 18446744073709551615 * 18446744073709551615 := Nat.mul_le_mul (by omega) (by omega)
 refine zS ?_
 refine yA ?_
 refine yA ?_
 refine zN (zS ?_)
 refine yM ?_
 refine yM ?_
 refine AWo.callX (mul64 (by assumption) (by assumption)) bd165 [] [] rfl (.cons rfl (.cons rfl .nil)) rfl (.cons rfl rfl (.cons rfl rfl .nil)) .nil rfl .nil frN (by decide) (.cons rfl rfl (.cons rfl rfl .nil)) rfl rfl rfl rfl ?_
 refine yM ?_
 refine yP pX ?_
 refine yP pX ?_
 refine yA ?_
 refine yA ?_
 refine zN (zS ?_)
 refine yM ?_
 refine yM ?_
 refine yP (add64 (c := 0) rfl rfl (by decide)) ?_
 refine yM ?_
 refine yP pX ?_
 refine yP pX ?_
 refine yA ?_
 refine yA ?_
 refine zN (zS ?_)
 refine yM ?_
 refine yM ?_
 refine AWo.pure ((PureOp.addU 18446744073709551616 rfl rfl rfl rfl).mono (v' := vi .u64 (x * y / 18446744073709551616 + (x * y % 18446744073709551616 + a + 0) / 18446744073709551616)) (by congr 1; omega)) rfl rfl ?_
 refine yA ?_
 refine zN (zS ?_)
 refine yM ?_
 refine yM ?_
 refine yP (add64 (c := 0) rfl rfl (by decide)) ?_
 refine yM ?_
 refine yP pX ?_
 refine yP pX ?_
 refine yA ?_
 refine yA ?_
 refine AWo.nil trivial ?_
 refine AW.seqR ?_
 first | refine AWo.pure ((PureOp.move rfl).mono (v' := vi .u64 ((a + x * y + c) % 18446744073709551616)) (congrArg (vi .u64) (by omega))) rfl rfl ?_
 refine yM ?_
 refine yM ?_
 refine AWo.pure ((PureOp.addU 18446744073709551616 rfl rfl rfl rfl).mono (v' := vi .u64 ((a + x * y + c) / 18446744073709551616)) (by congr 1; omega)) rfl rfl ?_
 refine yA ?_
 refine yA ?_
 refine zN (zE ?_)
 exact rq [] [.tmp 8, .tmp 9]
set_option maxRecDepth 10000 in
theorem eachS_ctr {a b : List Nat} (ha : bd 18446744073709551616 a) (hb : bd 18446744073709551616 b) (hla : a.length < 100000000) (hlb : b.length < 100000000) : GC Tryz.prog 188 [.slice (some ⟨0, 0, none⟩) a.length 0, .slice (some ⟨1, 0, none⟩) b.length 0, .func (.func 176) #[] #[]] [⟨a.map (vi .u64), false, 1⟩, ⟨b.map (vi .u64), false, 1⟩] [.slice (some ⟨2, 0, none⟩) (Nat.max a.length b.length) 0, vi .u64 (if num 18446744073709551616 a < num 18446744073709551616 b then 1 else 0)] [⟨a.map (vi .u64), false, 1⟩, ⟨b.map (vi .u64), false, 1⟩, ⟨(digs 18446744073709551616 (Nat.max a.length b.length) (num 18446744073709551616 a + 18446744073709551616 ^ (Nat.max a.length b.length) - num 18446744073709551616 b)).map (vi .u64), true, 1⟩] := by
 refine gi Tryz.func188 ?_
 have hM : Nat.max a.length b.length < 1000000000 := Nat.max_lt.2 ⟨by omega, by omega⟩
 have hM1 : a.length ≤ Nat.max a.length b.length := Nat.le_max_left _ _
 have hM2 : b.length ≤ Nat.max a.length b.length := Nat.le_max_right _ _
 refine zS ?_
 refine yA ?_
 refine yA ?_
 refine zN (zS ?_)
 refine yM ?_
 refine yP pL ?_
 refine yM ?_
 refine yP pL ?_
 refine yP (PureOp.maxN rfl rfl) ?_
 refine AWo.makeI tbok 17000 rfl rfl rfl rfl rfl rfl (by omega) (by omega) rfl rfl rfl ?_
 refine yA ?_
 refine zN (zS ?_)
 refine yA ?_
 refine zN (zQ (zS ?_))
 refine yM ?_
 refine yP pL ?_
 refine yM ?_
 refine zN (zB ?_)
 refine AW.loopw (fun mm σ => ∃ i, ∃ (l : List Nat), ∃ c, (i ≤ (Nat.max a.length b.length) ∧ l.length = (Nat.max a.length b.length) ∧ bd 18446744073709551616 l ∧ c ≤ 1 ∧ num 18446744073709551616 (l.take i) + num 18446744073709551616 b % 18446744073709551616 ^ i = num 18446744073709551616 a % 18446744073709551616 ^ i + 18446744073709551616 ^ i * c) ∧ mm = (Nat.max a.length b.length) - i ∧ σ = ⟨(upd (upd (upd (upd (upd (upd (upd emp 0 (.slice (some ⟨0, 0, none⟩) a.length 0)) 1 (.slice (some ⟨1, 0, none⟩) b.length 0)) 2 (.func (.func 176) #[] #[])) 8 (.slice (some ⟨77000, 0, none⟩) (Nat.max a.length b.length) 0)) 18 (vi .i64 (Nat.max a.length b.length))) 19 (vi .i64 i)) 9 (vi .u64 c)), (upd (upd (upd emp 0 ⟨a.map (vi .u64), false, 1⟩) 1 ⟨b.map (vi .u64), false, 1⟩) 77000 ⟨l.map (vi .u64), true, 1⟩)⟩) (fm := [(77000, 17000)]) (wk [0, 1, 77000]) ⟨0, List.replicate (Nat.max a.length b.length) 0, 0, ⟨Nat.zero_le _, by simp, bd_replicate (by decide) _, by omega, by simp [num, Nat.mod_one]⟩, rfl, rfl⟩ ?_
 rintro mm σ ⟨i, l, c, ⟨hi0, hl2, hbl, hc, hnl⟩, rfl, rfl⟩
 have hx := bd_getD ha (by decide) i
 have hy := bd_getD hb (by decide) i
 refine zS ?_
 refine yP pLt ?_
 refine zN (zQ ?_)
 refine zA (fun hb0 => ?_) (fun hb0 => ?_)
 ·
  have hi : i < (Nat.max a.length b.length) := by simpa using hb0
  refine zK (zT (zQ (zB (zS ?_))))
  refine yM ?_
  refine yA ?_
  refine zN (zR ?_)
  refine yM ?_
  refine yM ?_
  refine yM ?_
  refine yM ?_
  refine yM ?_
  refine yC (at_ctr) bd167 [(0, 0)] [] ?_
  refine yM ?_
  refine yM ?_
  refine yC (at_ctr) bd167 [(1, 0)] [] ?_
  refine yM ?_
  refine yP (sub64 rfl rfl (by omega)) ?_
  refine yM ?_
  refine yP pX ?_
  refine yP pX ?_
  refine yP pJ ?_
  refine yS (vi .u64) ?_
  refine yA ?_
  refine zN (zL (zT (zR ?_)))
  refine yP (pAdd (b := 1)) ?_
  refine yM ?_
  refine zN (zT ?_)
  exact ⟨(Nat.max a.length b.length) - (i + 1), [], _, by omega, wk [0, 1, 77000], i + 1, l.set i ((a.getD i 0 + 18446744073709551616 - b.getD i 0 - c) % 18446744073709551616), (if a.getD i 0 < b.getD i 0 + c then 1 else 0), ⟨by omega, by simp [hl2], bd_set hbl (Nat.mod_lt _ (by decide)), by split <;> omega, by rw [take_set_succ (by omega)]; exact dif_step (by simp [hl2]; omega) hnl (num_getD ha (by decide) i) (num_getD hb (by decide) i) hx hy hc⟩, rfl, rfl⟩
 ·
  obtain rfl : i = (Nat.max a.length b.length) := by simp at hb0; omega
  obtain ⟨e1, e2⟩ := difL_end (by decide) hbl hl2 hnl (num_lt_pow ha (by decide) hM1) (num_lt_pow hb (by decide) hM2) hc
  subst e1; subst e2
  refine zX (zV (zV (zH (zT (zS ?_)))))
  refine yM ?_
  refine yM ?_
  refine yA ?_
  refine yA ?_
  refine zN (zE ?_)
  exact rq [77000] [.tmp 6, .tmp 7]
set_option maxRecDepth 10000 in
theorem lsub_ctr {a b : List Nat} (ha : bd 18446744073709551616 a) (hb : bd 18446744073709551616 b) (hla : a.length < 100000000) (hlb : b.length < 100000000) : GC Tryz.prog 186 [.slice (some ⟨0, 0, none⟩) a.length 0, .slice (some ⟨1, 0, none⟩) b.length 0] [⟨a.map (vi .u64), false, 1⟩, ⟨b.map (vi .u64), false, 1⟩] [.slice (some ⟨2, 0, none⟩) (Nat.max a.length b.length) 0, vi .u64 (if num 18446744073709551616 a < num 18446744073709551616 b then 1 else 0)] [⟨a.map (vi .u64), false, 1⟩, ⟨b.map (vi .u64), false, 1⟩, ⟨(digs 18446744073709551616 (Nat.max a.length b.length) (num 18446744073709551616 a + 18446744073709551616 ^ (Nat.max a.length b.length) - num 18446744073709551616 b)).map (vi .u64), true, 1⟩] := by
 refine gi Tryz.func186 ?_
 refine zS ?_
 refine yA ?_
 refine yA ?_
 refine zN (zS ?_)
 refine yM ?_
 refine yM ?_
 refine AWo.callX (eachS_ctr (by assumption) (by assumption) (by assumption) (by assumption)) bd188 [(0, 0), (1, 0)] [9000] rfl (.cons rfl (.cons rfl (.cons rfl .nil))) rfl (.cons rfl rfl (.cons rfl rfl (.cons rfl rfl .nil))) (.flat rfl (by exact flatM flat_vi) (by intro h; exact h) (.flat rfl (by exact flatM flat_vi) (by intro h; exact h) .nil)) rfl (.keep rfl (.keep rfl (.new (flat_map_ren (by exact flatM flat_vi)) (OkL.flat (by exact flatM flat_vi)) .nil))) (frC rfl frN) (by decide) (.cons rfl rfl (.cons rfl rfl .nil)) rfl rfl rfl rfl ?_
 refine yP pX ?_
 refine yP pX ?_
 refine yA ?_
 refine yA ?_
 refine zN (zE ?_)
 exact rq [9000] [.tmp 4, .tmp 5]
set_option maxRecDepth 10000 in
theorem isnan_ctr {x : Nat} : GC Tryz.prog 177 [vi .u64 (x)] [] [.bool false] [] := by
 refine gi Tryz.func177 ?_
 refine zS ?_
 refine yA ?_
 refine zN (zS ?_)
 refine yM ?_
 refine yM ?_
 refine yP ((PureOp.neN rfl rfl).mono (v' := .bool false) (by simp)) ?_
 refine yA ?_
 refine zN (zE ?_)
 exact rq [] [.tmp 2]
set_option maxRecDepth 10000 in
theorem compare_ctr {x y : Nat} : GC Tryz.prog 166 [vi .u64 (x), vi .u64 (y)] [] [.int .i64 (cmpI x y)] [] := by
 refine gi Tryz.func166 ?_
 refine zS ?_
 refine yA ?_
 refine zN (zS ?_)
 refine yM ?_
 refine yC (isnan_ctr) bd177 [] [] ?_
 refine yA ?_
 refine zN (zS ?_)
 refine yM ?_
 refine yC (isnan_ctr) bd177 [] [] ?_
 refine yA ?_
 refine zN (zQ (zS ?_))
 refine yM ?_
 refine zN (zF (zK (zT (zQ (zS ?_)))))
 refine yM ?_
 refine zN (zF (zK (zT (zQ (zS ?_)))))
 refine yM ?_
 refine yM ?_
 refine yP pLt ?_
 refine zN ?_
 refine zA (fun hb0 => ?_) (fun hb0 => ?_)
 ·
  have hxy : x < y := by simpa using hb0
  refine zS ?_
  refine yA ?_
  refine zN (zE (zU ?_))
  exact rq [] [.tmp 4] (hres := (.cons rfl (congrArg (Value.int .i64) (by simp only [cmpI]; split <;> (try split) <;> omega)) .nil))
 ·
  have hxy : ¬ x < y := by simpa using hb0
  refine zK (zT (zQ (zS ?_)))
  refine yM ?_
  refine yM ?_
  refine yP pGt ?_
  refine zN ?_
  refine zA (fun hb1 => ?_) (fun hb1 => ?_)
  ·
   have hyx : y < x := by simpa using hb1
   refine zS ?_
   refine yA ?_
   refine zN (zE (zU ?_))
   exact rq [] [.tmp 4] (hres := (.cons rfl (congrArg (Value.int .i64) (by simp only [cmpI]; split <;> (try split) <;> omega)) .nil))
  ·
   have hyx : ¬ y < x := by simpa using hb1
   refine zK (zT (zS ?_))
   refine yA ?_
   refine zN (zE ?_)
   exact rq [] [.tmp 4] (hres := (.cons rfl (congrArg (Value.int .i64) (by simp only [cmpI]; split <;> (try split) <;> omega)) .nil))
set_option maxRecDepth 10000 in
theorem lcmp_ctr {a b : List Nat} (ha : bd 18446744073709551616 a) (hb : bd 18446744073709551616 b) (hla : a.length < 100000000) (hlb : b.length < 100000000) : GC Tryz.prog 146 [.slice (some ⟨0, 0, none⟩) a.length 0, .slice (some ⟨1, 0, none⟩) b.length 0] [⟨a.map (vi .u64), false, 1⟩, ⟨b.map (vi .u64), false, 1⟩] [.int .i64 (cmpI (num 18446744073709551616 a) (num 18446744073709551616 b))] [⟨a.map (vi .u64), false, 1⟩, ⟨b.map (vi .u64), false, 1⟩] := by
 refine gi Tryz.func146 ?_
 have hM : Nat.max a.length b.length < 1000000000 := Nat.max_lt.2 ⟨by omega, by omega⟩
 have hM1 : a.length ≤ Nat.max a.length b.length := Nat.le_max_left _ _
 have hM2 : b.length ≤ Nat.max a.length b.length := Nat.le_max_right _ _
 have ea := div_big ha (by decide) hM1
 have eb := div_big hb (by decide) hM2
 refine zS ?_
 refine yA ?_
 refine zN (zQ (zS ?_))
 refine yM ?_
 refine yP pL ?_
 refine yM ?_
 refine yP pL ?_
 refine yP (PureOp.maxN rfl rfl) ?_
 refine yP ((PureOp.subP rfl rfl (by omega)).mono (v' := vp (Nat.max a.length b.length)) (by rfl)) ?_
 refine yA ?_
 refine zN (zB ?_)
 refine AW.loopw (fun mm σ => ∃ r, (r ≤ Nat.max a.length b.length ∧ num 18446744073709551616 a / 18446744073709551616 ^ r = num 18446744073709551616 b / 18446744073709551616 ^ r) ∧ mm = 1 * r ∧ σ = ⟨(upd (upd (upd emp 0 (.slice (some ⟨0, 0, none⟩) a.length 0)) 1 (.slice (some ⟨1, 0, none⟩) b.length 0)) 5 (vp r)), (upd (upd emp 0 ⟨a.map (vi .u64), false, 1⟩) 1 ⟨b.map (vi .u64), false, 1⟩)⟩) (fm := []) (wk [0, 1]) ⟨Nat.max a.length b.length, ⟨Nat.le_refl _, ea.trans eb.symm⟩, rfl, rfl⟩ ?_
 rintro mm σ ⟨r, ⟨hr, he⟩, rfl, rfl⟩
 refine zQ (zS ?_)
 refine yM ?_
 refine yP (PureOp.geP rfl rfl) ?_
 refine zN ?_
 refine zA (fun hb0 => ?_) (fun hb0 => ?_)
 ·
  have hp0 : 0 < r := by simpa using hb0
  obtain ⟨r, rfl⟩ : ∃ q, r = q + 1 := ⟨r - 1, by omega⟩
  rw [vp_succ]
  have da := num_getD ha (by decide) r
  have db := num_getD hb (by decide) r
  refine zK (zT (zQ (zB (zS ?_))))
  refine yM ?_
  refine yM ?_
  refine yC (at_ctr) bd167 [(0, 0)] [] ?_
  refine yM ?_
  refine yM ?_
  refine yC (at_ctr) bd167 [(1, 0)] [] ?_
  refine yC (compare_ctr) bd166 [] [] ?_
  refine yA ?_
  refine zN (zS ?_)
  refine yM ?_
  refine yP (PureOp.bin rfl rfl rfl) ?_
  refine zN ?_
  refine zA (fun hb1 => ?_) (fun hb1 => ?_)
  ·
   have hne : cmpI (a.getD r 0) (b.getD r 0) ≠ 0 := by simpa using hb1
   have hres := cmpI_top he da db hne
   refine zS ?_
   refine yM ?_
   refine yA ?_
   refine zN (zE (zI (zU (zU (zI (zU ?_))))))
   exact rq [] [.tmp 4] (hres := (.cons rfl (congrArg (Value.int .i64) (by exact hres.symm)) .nil))
  ·
   have hdd : num 18446744073709551616 a / 18446744073709551616 ^ r % 18446744073709551616 = num 18446744073709551616 b / 18446744073709551616 ^ r % 18446744073709551616 := by
    have hz : cmpI (a.getD r 0) (b.getD r 0) = 0 := by simpa using hb1
    rw [← da, ← db]; exact cmpI_eq hz
   refine zK (zL (zT (zR ?_)))
   refine yM ?_
   refine yP (PureOp.subP rfl rfl (by omega)) ?_
   refine yA ?_
   refine zN (zT ?_)
   exact ⟨1 * r, [], _, by omega, wk [0, 1], r, ⟨by omega, top_eq he hdd⟩, rfl, rfl⟩
 ·
  obtain rfl : r = 0 := by simpa using hb0
  rw [Nat.pow_zero, Nat.div_one, Nat.div_one] at he
  refine zX (zV (zV (zH (zT (zS ?_)))))
  refine yA ?_
  refine zN (zE ?_)
  exact rq [] [.tmp 4] (hres := (.cons rfl (congrArg (Value.int .i64) (by (rw [he]; simp [cmpI]))) .nil))
end Go.Proofs.YtlfadlfjjkppfaaGreatDoor
namespace Go.Proofs.YtlfadlfjjkppfaaGreatDoor
open Go Sim
def blen (n : Nat) : Nat := if n = 0 then 0 else n.log2 + 1
theorem blen_top {n r : Nat} (h1 : 2 ^ r ≤ n) (h2 : n < 2 ^ (r + 1)) : blen n = r + 1 := by
 have hp : 0 < 2 ^ r := Nat.pow_pos (by decide)
 simp only [blen]
 rw [if_neg (by omega)]
 congr 1
 exact (Nat.log2_eq_iff (by omega)).2 ⟨h1, h2⟩
theorem blen_shift {n k : Nat} (h : n / 2 ^ k ≠ 0) : blen n = k + blen (n / 2 ^ k) := by
  have hp : 0 < 2 ^ k := Nat.pow_pos (by decide)
  obtain ⟨r, hr⟩ : ∃ r, r = (n / 2 ^ k).log2 := ⟨_, rfl⟩
  obtain ⟨h1, h2⟩ := (Nat.log2_eq_iff h).1 hr.symm
  rw [blen_top h1 h2, blen_top (r := k + r)]
  · omega
  · rw [Nat.pow_add]
    have := Nat.mul_le_mul_left (2 ^ k) h1
    have h4 := Nat.mul_div_le n (2 ^ k)
    omega
  · rw [Nat.add_assoc, Nat.pow_add]
    rw [Nat.mul_comm]; exact (Nat.div_lt_iff_lt_mul hp).1 h2
theorem shl_byte {x k : Nat} (hx : x < 256) (hk : k < 8) : x * 2 ^ (8 * k) % 18446744073709551616 = x * 256 ^ k ∧ x * 256 ^ k < 18446744073709551616 := by
 have e : 2 ^ (8 * k) = 256 ^ k := by rw [Nat.pow_mul]
 have h1 : 256 ^ k ≤ 256 ^ 7 := Nat.pow_le_pow_right (by decide) (by omega)
 have h2 : x * 256 ^ k < 18446744073709551616 := by
  have := Nat.mul_le_mul (show x ≤ 255 by omega) h1
  have h3 : 255 * 256 ^ 7 < 18446744073709551616 := by decide
  omega
 rw [e]
 exact ⟨Nat.mod_eq_of_lt h2, h2⟩
theorem or_add {e x k : Nat} (he : e < 256 ^ k) : e ||| x * 256 ^ k = e + x * 256 ^ k := by
 have e1 : (256 : Nat) ^ k = 2 ^ (8 * k) := by rw [Nat.pow_mul]
 rw [e1] at he ⊢
 have := Nat.two_pow_add_eq_or_of_lt (i := 8 * k) (b := e) he x
 rw [Nat.mul_comm x, Nat.or_comm, ← this, Nat.add_comm]
theorem W_256 (i : Nat) : 256 ^ i = 18446744073709551616 ^ (i / 8) * 256 ^ (i % 8) := by
 rw [show (18446744073709551616 : Nat) = 256 ^ 8 from by decide, ← Nat.pow_mul, ← Nat.pow_add, Nat.div_add_mod]
theorem words_low {a l : List Nat} {i : Nat} (h : bd 256 a) (hb : bd 18446744073709551616 l) (hn : num 18446744073709551616 l = num 256 (a.take i)) : l.getD (i / 8) 0 < 256 ^ (i % 8) := by
 rw [num_getD hb (by decide), hn]
 have h1 : num 256 (a.take i) < 256 ^ i := by
  have := num_lt (bd_take h i)
  exact Nat.lt_of_lt_of_le this (Nat.pow_le_pow_right (by decide) (by simp; omega))
 have h2 : num 256 (a.take i) / 18446744073709551616 ^ (i / 8) < 256 ^ (i % 8) := by
  rw [Nat.div_lt_iff_lt_mul (Nat.pow_pos (by decide)), Nat.mul_comm, ← W_256]
  exact h1
 exact Nat.lt_of_le_of_lt (Nat.mod_le _ _) h2
theorem words_bd {e x k : Nat} (hx : x < 256) (he : e < 256 ^ k) (hk : k < 8) : e + x * 256 ^ k < 18446744073709551616 := by
 have h1 : 256 ^ k ≤ 256 ^ 7 := Nat.pow_le_pow_right (by decide) (by omega)
 have h2 := Nat.mul_le_mul_right (256 ^ k) (show x + 1 ≤ 256 by omega)
 rw [Nat.add_mul, Nat.one_mul] at h2
 have h3 : 256 * 256 ^ 7 = 18446744073709551616 := by decide
 omega
theorem words_step {a l : List Nat} {i : Nat} (hi : i / 8 < l.length) (hn : num 18446744073709551616 l = num 256 (a.take i)) : num 18446744073709551616 (l.set (i / 8) (l.getD (i / 8) 0 + a.getD i 0 * 256 ^ (i % 8))) = num 256 (a.take (i + 1)) := by
 have h := num_set (B := 18446744073709551616) (l := l) (k := i / 8) (v := l.getD (i / 8) 0 + a.getD i 0 * 256 ^ (i % 8)) hi
 rw [num_take_succ, ← hn, W_256 i]
 rw [Nat.add_mul, Nat.mul_assoc, Nat.mul_comm (256 ^ (i % 8))] at h
 omega
theorem byte_at {a : List Nat} {i j : Nat} (h : bd 18446744073709551616 a) (_ : i < a.length) (hj : j < 8) : a.getD i 0 / 256 ^ j % 256 = num 18446744073709551616 a / 256 ^ (8 * i + j) % 256 := by
 rw [num_getD h (by decide), Nat.pow_add, Nat.pow_mul, show (256 : Nat) ^ 8 = 18446744073709551616 from by decide, ← Nat.div_div_eq_div_mul]
 generalize num 18446744073709551616 a / 18446744073709551616 ^ i = z
 have e : 18446744073709551616 = 256 ^ j * (256 * 256 ^ (7 - j)) := by
  rw [← Nat.mul_assoc, Nat.mul_right_comm, ← Nat.pow_add, show j + (7 - j) = 7 by omega]
 rw [e, Nat.mod_mul_right_div_self, Nat.mod_mul_right_mod]
set_option maxRecDepth 10000 in
theorem lwords_ctr {a : List Nat} (h : bd 256 a) (hl : a.length < 100000000) : GC Tryz.prog 145 [.slice (some ⟨0, 0, none⟩) a.length 0] [⟨a.map (vi .u8), false, 1⟩] [.slice (some ⟨1, 0, none⟩) ((a.length + 7) / 8) 0] [⟨a.map (vi .u8), false, 1⟩, ⟨(digs 18446744073709551616 ((a.length + 7) / 8) (num 256 a)).map (vi .u64), true, 1⟩] := by
 refine gi Tryz.func145 ?_
 refine zS ?_
 refine yA ?_
 refine zN (zS ?_)
 refine yM ?_
 refine yP pL ?_
 refine yP (pAdd (b := 7)) ?_
 refine yP (PureOp.quoN (b := 8) 9223372036854775808 rfl rfl (by decide) (by decide) (by decide) (by omega)) ?_
 refine AWo.makeI tbok 11000 rfl rfl rfl rfl rfl rfl (by omega) (by omega) rfl rfl rfl ?_
 refine yA ?_
 refine zN (zQ (zS ?_))
 refine yM ?_
 refine yP pL ?_
 refine yM ?_
 refine zN (zB ?_)
 refine AW.loopw (fun mm σ => ∃ i, ∃ (l : List Nat), (i ≤ a.length ∧ l.length = ((a.length + 7) / 8) ∧ bd 18446744073709551616 l ∧ num 18446744073709551616 l = num 256 (a.take i)) ∧ mm = a.length - i ∧ σ = ⟨(upd (upd (upd (upd (upd emp 0 (.slice (some ⟨0, 0, none⟩) a.length 0)) 3 (.slice (some ⟨77000, 0, none⟩) ((a.length + 7) / 8) 0)) 11 (.slice (some ⟨0, 0, none⟩) a.length 0)) 12 (vi .i64 a.length)) 13 (vi .i64 i)), (upd (upd emp 0 ⟨a.map (vi .u8), false, 1⟩) 77000 ⟨l.map (vi .u64), true, 1⟩)⟩) (fm := [(77000, 11000)]) (wk [0, 77000]) ⟨0, List.replicate ((a.length + 7) / 8) 0, ⟨Nat.zero_le _, by simp, bd_replicate (by decide) _, by simp [num, num_replicate]⟩, rfl, rfl⟩ ?_
 rintro mm σ ⟨i, l, ⟨hi0, hl2, hbl, hnl⟩, rfl, rfl⟩
 refine zS ?_
 refine yP pLt ?_
 refine zN (zQ ?_)
 refine zA (fun hb0 => ?_) (fun hb0 => ?_)
 ·
  have hi : i < a.length := by simpa using hb0
  have hx := bd_getD h (by decide) i
  obtain ⟨hb1, hb2⟩ := shl_byte hx (Nat.mod_lt i (show 0 < 8 by decide))
  have he := words_low h hbl hnl
  have hs2 := words_bd hx he (Nat.mod_lt i (show 0 < 8 by decide))
  have he64 := bd_getD hbl (by decide) (i / 8)
  refine zK (zT (zQ (zB (zS ?_))))
  refine yM ?_
  refine yP pJ ?_
  refine yL 0 ?_
  refine yA ?_
  refine yA ?_
  refine zN ?_
  refine AW.draw mixed ?_
  refine yM ?_
  refine yM ?_
  refine yP (PureOp.quoN (b := 8) 9223372036854775808 rfl rfl (by decide) (by decide) (by decide) (by omega)) ?_
  refine yP pJ ?_
  refine yL 0 ?_
  refine yM ?_
  refine yP (PureOp.cvtN tbok 18446744073709551616 rfl rfl rfl (by decide) (by decide) (by omega)) ?_
  refine yM ?_
  refine yP (PureOp.remN (b := 8) rfl rfl (by decide)) ?_
  refine yP (PureOp.mulI (a := 8) rfl rfl (by omega)) ?_
  refine yP ((PureOp.shlUge 18446744073709551616 rfl rfl rfl rfl).mono (v' := vi .u64 (a.getD i 0 * 256 ^ (i % 8))) (congrArg (vi .u64) hb1)) ?_
  refine yP ((PureOp.orN 18446744073709551616 rfl rfl (by decide) (by decide) he64 hb2).mono (v' := vi .u64 (l.getD (i / 8) 0 + a.getD i 0 * 256 ^ (i % 8))) (congrArg (vi .u64) (or_add he))) ?_
  refine yP pJ ?_
  refine yS (vi .u64) ?_
  refine zD (zL (zT (zR ?_)))
  refine yP (pAdd (b := 1)) ?_
  refine yM ?_
  refine zN (zT ?_)
  exact ⟨a.length - (i + 1), [], _, by omega, wk [0, 77000], i + 1, l.set (i / 8) (l.getD (i / 8) 0 + a.getD i 0 * 256 ^ (i % 8)), ⟨by omega, by simp [hl2], bd_set hbl hs2, words_step (by omega) hnl⟩, rfl, rfl⟩
 ·
  have hi : i = a.length := by simp at hb0; omega
  subst hi
  rw [take_all] at hnl
  obtain rfl : l = digs 18446744073709551616 ((a.length + 7) / 8) (num 256 a) := by rw [← hnl, ← hl2, digs_num hbl]
  refine zX (zV (zV (zH (zT (zS ?_)))))
  refine yM ?_
  refine yA ?_
  refine zN (zE ?_)
  exact rq [77000] [.tmp 2]
set_option maxRecDepth 10000 in
theorem lbytes_ctr {a : List Nat} (h : bd 18446744073709551616 a) (hl : a.length < 100000000) : GC Tryz.prog 63 [.slice (some ⟨0, 0, none⟩) a.length 0] [⟨a.map (vi .u64), false, 1⟩] [.slice (some ⟨1, 0, none⟩) (8 * a.length) 0] [⟨a.map (vi .u64), false, 1⟩, ⟨(digs 256 (8 * a.length) (num 18446744073709551616 a)).map (vi .u8), true, 1⟩] := by
 refine gi Tryz.func63 ?_
 refine zS ?_
 refine yA ?_
 refine zN (zS ?_)
 refine yA ?_
 refine zN (zQ (zS ?_))
 refine yM ?_
 refine yP pL ?_
 refine yM ?_
 refine zN (zB ?_)
 refine AW.ghost 77000 1 rfl ?_
 refine AW.loopw (fun mm σ => ∃ i, (i ≤ a.length) ∧ mm = a.length - i ∧ σ = ⟨(upd (upd (upd (upd (upd emp 0 (.slice (some ⟨0, 0, none⟩) a.length 0)) 3 (.slice (some ⟨77000, 0, none⟩) (8 * i) 0)) 8 (vi .i64 i)) 6 (.slice (some ⟨0, 0, none⟩) a.length 0)) 7 (vi .i64 a.length)), (upd (upd emp 0 ⟨a.map (vi .u64), false, 1⟩) 77000 ⟨(digs 256 (8 * i) (num 18446744073709551616 a)).map (vi .u8), true, 1⟩)⟩) (fm := []) (wk [0, 77000]) ⟨0, Nat.zero_le _, rfl, rfl⟩ ?_
 rintro mm σ ⟨i, hinv, rfl, rfl⟩
 refine zS ?_
 refine yP pLt ?_
 refine zN (zQ ?_)
 refine zA (fun hb0 => ?_) (fun hb0 => ?_)
 ·
  have hi : i < a.length := by simpa using hb0
  have hx := bd_getD h (by decide) i
  refine zK (zT (zQ (zB (zS ?_))))
  refine yP pJ ?_
  refine yL 0 ?_
  refine yA ?_
  refine zN (zS ?_)
  refine yM ?_
  refine zN (zB ?_)
  refine AW.loopw (fun mm σ => ∃ j, (j ≤ 8) ∧ mm = 8 - j ∧ σ = ⟨(upd (upd (upd (upd (upd (upd (upd emp 0 (.slice (some ⟨0, 0, none⟩) a.length 0)) 3 (.slice (some ⟨77000, 0, none⟩) (8 * i + j) 0)) 8 (vi .i64 i)) 6 (.slice (some ⟨0, 0, none⟩) a.length 0)) 7 (vi .i64 a.length)) 5 (vi .u64 (a.getD i 0 / 256 ^ j))) 12 (vi .i64 j)), (upd (upd emp 0 ⟨a.map (vi .u64), false, 1⟩) 77000 ⟨(digs 256 (8 * i + j) (num 18446744073709551616 a)).map (vi .u8), true, 1⟩)⟩) (fm := []) (wk [0, 77000]) ⟨0, Nat.zero_le _, rfl, rfl⟩ ?_
  rintro mm σ ⟨j, hj0, rfl, rfl⟩
  refine zS ?_
  refine yP (pLt (b := 8)) ?_
  refine zN (zQ ?_)
  refine zA (fun hb1 => ?_) (fun hb1 => ?_)
  ·
   have hj : j < 8 := by simpa using hb1
   have hby := byte_at h hi hj
   refine zK (zT (zQ (zB (zS ?_))))
   refine yM ?_
   refine yM ?_
   refine yP ((PureOp.cvtU tbok 256 rfl rfl rfl rfl rfl).mono (v' := vi .u8 (num 18446744073709551616 a / 256 ^ (8 * i + j) % 256)) (congrArg (vi .u8) hby)) ?_
   refine AWo.buildSlice tbok 18000 [(0, vi .u8 (num 18446744073709551616 a / 256 ^ (8 * i + j) % 256))] (out := [vi .u8 (num 18446744073709551616 a / 256 ^ (8 * i + j) % 256)]) rfl rfl (by decide) rfl rfl rfl (by decide) rfl rfl rfl rfl rfl ?_
   refine AWo.append tbok (all := (digs 256 (8 * i + j + 1) (num 18446744073709551616 a)).map (vi .u8)) 19000 rfl rfl rfl rfl (by simp [digs_len]) rfl (by (simp; done)) (by decide) rfl rfl rfl (by decide) rfl rfl rfl (by omega) (by omega) rfl (by rw [digs_snoc, ← map_snoc]; rfl) rfl rfl ?_
   refine yA ?_
   refine zN (zR ?_)
   refine yM ?_
   refine yP ((PureOp.shrN (b := 8) 64 rfl rfl rfl (by decide)).mono (v' := vi .u64 (a.getD i 0 / 256 ^ j / 256)) rfl) ?_
   refine yA ?_
   refine zN (zL (zT (zR ?_)))
   refine yP (pAdd (b := 1)) ?_
   refine yM ?_
   refine zN (zT ?_)
   refine ⟨8 - (j + 1), [(77000, 19000)], _, by omega, ?_, j + 1, by omega, rfl, rfl⟩
   refine Wk.of [0, 77000] ?_ ?_ ?_ (by decide) rfl
   ·
    refine WkE.upd rfl (by exact VR.flat _ rfl) ?_
    refine WkE.upd rfl (VR.eqv (by exact congrArg (vi .u64) (by rw [Nat.pow_succ, Nat.div_div_eq_div_mul])) rfl) ?_
    refine WkE.upd rfl (by exact VR.flat _ rfl) ?_
    refine WkE.upd rfl (.slice (0) 0 _ 0 ⟨_, rfl⟩ (by simp) (by simp)) ?_
    refine WkE.upd rfl (by exact VR.flat _ rfl) ?_
    refine WkE.upd rfl (.slice (77000) 0 _ 0 ⟨_, rfl⟩ (by simp) (by simp)) ?_
    refine WkE.upd rfl (.slice (0) 0 _ 0 ⟨_, rfl⟩ (by simp) (by simp)) ?_
    exact WkE.emp
   ·
    refine WkM.flatM rfl (by rfl) (fun _ => rfl) (fun h => h) ?_
    refine WkM.flatM rfl (by rfl) (fun _ => rfl) (fun h => h) ?_
    exact WkM.emp
   ·
    repeat (refine dom_upd_mem (by decide) ?_)
    exact dom_emp
  ·
   obtain rfl : j = 8 := by simp at hb1; omega
   refine zX (zV (zV (zH (zL (zT (zR ?_))))))
   refine yP (pAdd (b := 1)) ?_
   refine yM ?_
   refine zN (zT ?_)
   exact ⟨a.length - (i + 1), [], _, by omega, wk [0, 77000], i + 1, by omega, rfl, rfl⟩
 ·
  have hi : i = a.length := by simp at hb0; omega
  subst hi
  refine zX (zV (zV (zH (zT (zS ?_)))))
  refine yM ?_
  refine yA ?_
  refine zN (zE ?_)
  exact rq [77000] [.tmp 2]
end Go.Proofs.YtlfadlfjjkppfaaGreatDoor
namespace Go.Proofs.YtlfadlfjjkppfaaGreatDoor
open Go Sim
theorem blen_half {x k : Nat} (h : x / 2 ^ k ≠ 0) : blen x = k + blen (x / 2 ^ k) := blen_shift h
theorem blen_lt {x k : Nat} (h : x < 2 ^ k) : blen x ≤ k := by
  simp only [blen]
  split
  · omega
  · rename_i h0
    have := Nat.log2_lt h0 |>.2 h
    omega
theorem blen_le {x : Nat} {b : Nat} (h : x < b) : blen x ≤ b := by
  simp only [blen]
  split
  · omega
  · rename_i h0
    have := Nat.log2_self_le h0
    have h2 : x.log2 < 2 ^ x.log2 := Nat.lt_two_pow_self
    omega
def lenTabOk (s : ByteArray) : Bool := (List.range 256).all fun j => s[j]? == some (UInt8.ofNat (blen j))
theorem lenTab {P : Program} {E : Env} {t : TypeId} {x : Operand} {s : ByteArray} {y : Nat} (ht : P.underlying t = some .string) (hx : aev E (.const (.string s)) = some (.string s)) (hy : aev E x = some (vi .u8 y)) (hlt : y < 256) (hs : lenTabOk s = true) :
  PureOp P (.index t (.const (.string s)) x) E (vi .u8 (blen y)) := by
 have h := List.all_eq_true.1 hs y (List.mem_range.2 hlt)
 refine (PureOp.idxStr hx hy ht (eq_of_beq h)).mono (congrArg (vi .u8) ?_)
 have h8 : blen y ≤ 8 := blen_lt (k := 8) hlt
 simp
 omega
theorem word_next {a : List Nat} {r : Nat} (h : bd 18446744073709551616 a) (hlt : num 18446744073709551616 a < 18446744073709551616 ^ (r + 1)) (hz : a.getD r 0 = 0) : num 18446744073709551616 a < 18446744073709551616 ^ r := by
 rw [num_getD h (by decide)] at hz
 have hp : 0 < 18446744073709551616 ^ r := Nat.pow_pos (by decide)
 have h1 : num 18446744073709551616 a / 18446744073709551616 ^ r < 18446744073709551616 := by rw [Nat.div_lt_iff_lt_mul hp, Nat.mul_comm, ← Nat.pow_succ]; exact hlt
 rw [Nat.mod_eq_of_lt h1] at hz
 rcases Nat.div_eq_zero_iff.1 hz with h3 | h3
 · omega
 · exact h3
theorem word_top {a : List Nat} {r : Nat} (h : bd 18446744073709551616 a) (hlt : num 18446744073709551616 a < 18446744073709551616 ^ (r + 1)) (hz : a.getD r 0 ≠ 0) : blen (num 18446744073709551616 a) = 64 * r + blen (a.getD r 0) := by
 rw [num_getD h (by decide)] at hz ⊢
 have hp : 0 < 18446744073709551616 ^ r := Nat.pow_pos (by decide)
 have h1 : num 18446744073709551616 a / 18446744073709551616 ^ r < 18446744073709551616 := by rw [Nat.div_lt_iff_lt_mul hp, Nat.mul_comm, ← Nat.pow_succ]; exact hlt
 rw [Nat.mod_eq_of_lt h1] at hz ⊢
 have e : (18446744073709551616 : Nat) ^ r = 2 ^ (64 * r) := by rw [Nat.pow_mul]
 rw [e] at hz ⊢
 exact blen_shift hz
set_option maxRecDepth 10000 in
theorem len64_ctr {x : Nat} (hx : x < 18446744073709551616) : GC Tryz.prog 180 [vi .u64 (x)] [] [vi .i64 (blen x)] [] := by
 refine gi Tryz.func180 ?_
 refine zS ?_
 refine yA ?_
 refine zN (zQ (zS ?_))
 refine yM ?_
 refine yP (PureOp.geN (b := 4294967296) rfl rfl) ?_
 refine zN ?_
 refine AW.joinT (fun σ => ∃ m, ∃ y, (blen x = m + blen y ∧ y < 4294967296 ∧ m ≤ 32) ∧ σ = ⟨(upd (upd emp 0 (vi .u64 y)) 2 (vi .i64 m)), emp⟩) ?_ ?_
 ·
  refine zA (fun hb0 => ?_) (fun hb0 => ?_)
  ·
   have hge : 4294967296 ≤ x := by simpa using hb0
   refine zS ?_
   refine yM ?_
   refine yP (PureOp.shrN (b := 32) 64 rfl rfl rfl (by decide)) ?_
   refine yA ?_
   refine zN (zR ?_)
   refine yA ?_
   refine zN (zT ?_)
   refine ⟨[], _, ?_, (by exact ⟨32, x / 2 ^ 32, ⟨blen_half (by omega), by omega, by omega⟩, rfl⟩)⟩
   exact wk []
  ·
   have hge : ¬ 4294967296 ≤ x := by simpa using hb0
   refine zK (zT ?_)
   refine ⟨[], _, ?_, (by exact ⟨0, x, ⟨by omega, by omega, by omega⟩, rfl⟩)⟩
   exact wk []
 ·
  rintro σ ⟨m, y, ⟨he, hy, hm⟩, rfl⟩
  refine zQ (zS ?_)
  refine yM ?_
  refine yP (PureOp.geN (b := 65536) rfl rfl) ?_
  refine zN ?_
  refine AW.joinT (fun σ => ∃ m, ∃ y, (blen x = m + blen y ∧ y < 65536 ∧ m ≤ 48) ∧ σ = ⟨(upd (upd emp 0 (vi .u64 y)) 2 (vi .i64 m)), emp⟩) ?_ ?_
  ·
   refine zA (fun hb1 => ?_) (fun hb1 => ?_)
   ·
    have hge : 65536 ≤ y := by simpa using hb1
    refine zS ?_
    refine yM ?_
    refine yP (PureOp.shrN (b := 16) 64 rfl rfl rfl (by decide)) ?_
    refine yA ?_
    refine zN (zR ?_)
    refine yM ?_
    refine yP (pAdd (b := 16)) ?_
    refine yA ?_
    refine zN (zT ?_)
    refine ⟨[], _, ?_, (by exact ⟨m + 16, y / 2 ^ 16, ⟨by rw [he, blen_half (k := 16) (by omega)]; omega, by omega, by omega⟩, rfl⟩)⟩
    exact wk []
   ·
    have hge : ¬ 65536 ≤ y := by simpa using hb1
    refine zK (zT ?_)
    refine ⟨[], _, ?_, (by exact ⟨m, y, ⟨by omega, by omega, by omega⟩, rfl⟩)⟩
    exact wk []
  ·
   rintro σ ⟨m, y, ⟨he, hy, hm⟩, rfl⟩
   refine zQ (zS ?_)
   refine yM ?_
   refine yP (PureOp.geN (b := 256) rfl rfl) ?_
   refine zN ?_
   refine AW.joinT (fun σ => ∃ m, ∃ y, (blen x = m + blen y ∧ y < 256 ∧ m ≤ 56) ∧ σ = ⟨(upd (upd emp 0 (vi .u64 y)) 2 (vi .i64 m)), emp⟩) ?_ ?_
   ·
    refine zA (fun hb2 => ?_) (fun hb2 => ?_)
    ·
     have hge : 256 ≤ y := by simpa using hb2
     refine zS ?_
     refine yM ?_
     refine yP (PureOp.shrN (b := 8) 64 rfl rfl rfl (by decide)) ?_
     refine yA ?_
     refine zN (zR ?_)
     refine yM ?_
     refine yP (pAdd (b := 8)) ?_
     refine yA ?_
     refine zN (zT ?_)
     refine ⟨[], _, ?_, (by exact ⟨m + 8, y / 2 ^ 8, ⟨by rw [he, blen_half (k := 8) (by omega)]; omega, by omega, by omega⟩, rfl⟩)⟩
     exact wk []
    ·
     have hge : ¬ 256 ≤ y := by simpa using hb2
     refine zK (zT ?_)
     refine ⟨[], _, ?_, (by exact ⟨m, y, ⟨by omega, by omega, by omega⟩, rfl⟩)⟩
     exact wk []
   ·
    rintro σ ⟨m, y, ⟨he, hy, hm⟩, rfl⟩
    refine zS ?_
    refine yM ?_
    refine yM ?_
    refine yP ((PureOp.cvtU tbok 256 rfl rfl rfl rfl rfl).mono (v' := vi .u8 y) (congrArg (vi .u8) (Nat.mod_eq_of_lt hy))) ?_
    refine yP (lenTab Tryz.underlying9 rfl rfl hy (by kernel_rfl)) ?_
    refine yP (PureOp.cvtN tbok 9223372036854775808 rfl rfl rfl (by decide) (by decide) (by have := blen_le hy; omega)) ?_
    refine yP ((PureOp.addI rfl rfl (by have := blen_le hy; omega)).mono (v' := vi .i64 (blen x)) (congrArg (vi .i64) he.symm)) ?_
    refine yA ?_
    refine zN (zE ?_)
    exact rq [] [.tmp 2]
set_option maxRecDepth 10000 in
theorem lbits_ctr {a : List Nat} (h : bd 18446744073709551616 a) (hl : a.length < 100000000) : GC Tryz.prog 170 [.slice (some ⟨0, 0, none⟩) a.length 0] [⟨a.map (vi .u64), false, 1⟩] [vi .i64 (blen (num 18446744073709551616 a))] [⟨a.map (vi .u64), false, 1⟩] := by
 refine gi Tryz.func170 ?_
 refine zS ?_
 refine yA ?_
 refine zN (zQ (zS ?_))
 refine yM ?_
 refine yP pL ?_
 refine yP ((PureOp.subP rfl rfl (by omega)).mono (v' := vp a.length) (by rfl)) ?_
 refine yA ?_
 refine zN (zB ?_)
 refine AW.loopw (fun mm σ => ∃ r, (r ≤ a.length ∧ num 18446744073709551616 a < 18446744073709551616 ^ r) ∧ mm = 1 * r ∧ σ = ⟨(upd (upd emp 0 (.slice (some ⟨0, 0, none⟩) a.length 0)) 3 (vp r)), (upd emp 0 ⟨a.map (vi .u64), false, 1⟩)⟩) (fm := []) (wk [0]) ⟨a.length, ⟨Nat.le_refl _, num_lt h⟩, rfl, rfl⟩ ?_
 rintro mm σ ⟨r, ⟨hr, hlt⟩, rfl, rfl⟩
 refine zQ (zS ?_)
 refine yM ?_
 refine yP (PureOp.geP rfl rfl) ?_
 refine zN ?_
 refine zA (fun hb0 => ?_) (fun hb0 => ?_)
 ·
  have hp0 : 0 < r := by simpa using hb0
  obtain ⟨r, rfl⟩ : ∃ q, r = q + 1 := ⟨r - 1, by omega⟩
  rw [vp_succ]
  refine zK (zT (zQ (zB (zS ?_))))
  refine yM ?_
  refine yM ?_
  refine yP pJ ?_
  refine yL 0 ?_
  refine yP (pNe (b := 0)) ?_
  refine zN ?_
  refine zA (fun hb1 => ?_) (fun hb1 => ?_)
  ·
   have hnz : a.getD r 0 ≠ 0 := by simpa using hb1
   refine zS ?_
   refine yM ?_
   refine yP (PureOp.mulI (a := 64) rfl rfl (by omega)) ?_
   refine yM ?_
   refine yM ?_
   refine yP pJ ?_
   refine yL 0 ?_
   refine yC (len64_ctr (x := a.getD r 0) (bd_getD h (by decide) r)) bd180 [] [] ?_
   refine yP ((PureOp.addI rfl rfl (by have := blen_lt (k := 64) (bd_getD h (by decide) r); omega)).mono (v' := vi .i64 (blen (num 18446744073709551616 a))) (congrArg (vi .i64) (word_top h hlt hnz).symm)) ?_
   refine yA ?_
   refine zN (zE (zI (zU (zU (zI (zU ?_))))))
   exact rq [] [.tmp 2] (hres := (.cons rfl (by rfl) .nil))
  ·
   have hz : a.getD r 0 = 0 := by simpa using hb1
   refine zK (zL (zT (zR ?_)))
   refine yM ?_
   refine yP (PureOp.subP rfl rfl (by omega)) ?_
   refine yA ?_
   refine zN (zT ?_)
   exact ⟨1 * r, [], _, by omega, wk [0], r, ⟨by omega, word_next h hlt hz⟩, rfl, rfl⟩
 ·
  obtain rfl : r = 0 := by simpa using hb0
  have hz0 : num 18446744073709551616 a = 0 := by simpa using hlt
  refine zX (zV (zV (zH (zT (zS ?_)))))
  refine yA ?_
  refine zN (zE ?_)
  exact rq [] [.tmp 2] (hres := (.cons rfl (by exact congrArg (vi .i64) (by rw [hz0]; rfl)) .nil))
set_option maxRecDepth 10000 in
theorem clone_ctr {a : List Nat} (h0 : 0 < a.length) (hl : a.length < 100000000) : GC Tryz.prog 168 [.slice (some ⟨0, 0, none⟩) a.length 0] [⟨a.map (vi .u64), false, 1⟩] [.slice (some ⟨1, 0, none⟩) a.length 0] [⟨a.map (vi .u64), false, 1⟩, ⟨a.map (vi .u64), true, 1⟩] := by
 refine gi Tryz.func168 ?_
 refine zS ?_
 refine yA ?_
 refine zN (zQ (zS ?_))
 refine yM ?_
 refine yP (PureOp.slEqNil Tryz.underlying57 rfl (by omega)) ?_
 refine zN (zF (zK (zT (zS ?_))))
 refine AWo.buildSlice tbok 6000 [] (out := []) rfl rfl (by decide) rfl rfl rfl (by decide) rfl rfl rfl rfl rfl ?_
 refine yM ?_
 refine AWo.append tbok (all := a.map (vi .u64)) (news := a.map (vi .u64)) 8000 rfl rfl rfl rfl rfl (by show List.take _ (List.drop 0 _) = _; rw [List.drop_zero]; exact List.take_of_length_le (by simp)) (by (simp; done)) (by decide) rfl rfl rfl (by decide) rfl rfl rfl (by omega) (by omega) (by exact oneM (fun _ => rfl) _) rfl rfl rfl ?_
 refine yA ?_
 refine zN (zE ?_)
 exact rq [8000] [.tmp 2] (hres := (.cons rfl (by simp [ren, ren1, hmap]) .nil))
end Go.Proofs.YtlfadlfjjkppfaaGreatDoor
namespace Go.Proofs.YtlfadlfjjkppfaaGreatDoor
open Go Sim
section
variable {B : Nat}
theorem mad_step {l b : List Nat} {j c p x s : Nat} (hk : j < l.length) (h : num B l + c * B ^ j = p + x * num B (b.take j)) (hs : s = l.getD j 0 + x * b.getD j 0 + c) :
    num B (l.set j (s % B)) + s / B * B ^ (j + 1) = p + x * num B (b.take (j + 1)) := by
  have := mul_step (B := B) (l := l) (b := b) (i := 0) (j := j) (c := c) (p := p) (x := x) (s := s) (by omega) (by simpa using h) (by simpa using hs)
  simpa using this
theorem red_step {u q : List Nat} {j c k s t : Nat} (hj : 0 < j) (hju : j < u.length) (h : B * num B (u.take (j - 1)) + c * B ^ j = t % B ^ j + k * num B (q.take j)) (hs : s = u.getD j 0 + k * q.getD j 0 + c)
    (hu : u.getD j 0 = t / B ^ j % B) : B * num B ((u.set (j - 1) (s % B)).take j) + s / B * B ^ (j + 1) = t % B ^ (j + 1) + k * num B (q.take (j + 1)) := by
  obtain ⟨m, rfl⟩ : ∃ m, j = m + 1 := ⟨j - 1, by omega⟩
  simp only [Nat.add_sub_cancel] at h ⊢
  rw [take_set_succ (by omega), num_append, List.length_take, Nat.min_eq_left (by omega), mod_succ t, num_take_succ q, ← hu]
  simp only [num, Nat.mul_zero, Nat.add_zero]
  have h2 := Nat.mod_add_div s B
  generalize num B (u.take m) = a at *
  generalize num B (q.take (m + 1)) = b at *
  generalize t % B ^ (m + 1) = d at *
  generalize s % B = r at *
  generalize s / B = e at *
  generalize u.getD (m + 1) 0 = f at *
  generalize q.getD (m + 1) 0 = g at *
  rw [Nat.pow_succ B (m + 1)]
  rw [Nat.pow_succ] at h ⊢
  generalize B ^ m = v at *
  subst hs
  have h3 : r * (v * B) + e * (v * B * B) = (f + k * g + c) * (v * B) := by rw [← h2]; grind
  grind
theorem red_end {u : List Nat} {n c k t P : Nat} (hn : u.length = n + 2) (h : B * num B (u.take n) + c * B ^ (n + 1) = t % B ^ (n + 1) + k * P) (hu : u.getD (n + 1) 0 = t / B ^ (n + 1)) :
    B * num B ((u.set n ((u.getD (n + 1) 0 + c) % B)).set (n + 1) ((u.getD (n + 1) 0 + c) / B)) = t + k * P := by
  have e : (u.set n ((u.getD (n + 1) 0 + c) % B)).set (n + 1) ((u.getD (n + 1) 0 + c) / B) = u.take n ++ [(u.getD (n + 1) 0 + c) % B, (u.getD (n + 1) 0 + c) / B] := by
    have hl : ((u.set n ((u.getD (n + 1) 0 + c) % B)).set (n + 1) ((u.getD (n + 1) 0 + c) / B)).length = n + 1 + 1 := by simp [hn]
    rw [← List.take_of_length_le (Nat.le_of_eq hl), take_set_succ (by simp [hn]), take_set_succ (by omega), List.append_assoc]
    rfl
  rw [e, num_append, List.length_take, Nat.min_eq_left (by omega)]
  simp only [num, Nat.mul_zero, Nat.add_zero]
  rw [Nat.mod_add_div, hu]
  have h3 := Nat.mod_add_div t (B ^ (n + 1))
  rw [Nat.pow_succ] at h h3 ⊢
  generalize t / (B ^ n * B) = d at *
  generalize t % (B ^ n * B) = f at *
  generalize num B (u.take n) = a at *
  generalize B ^ n = v at *
  grind
theorem mont_lt {T x b k P T' : Nat} (h : B * T' = T + x * b + k * P) (hT : T < 2 * P) (hx : x < B) (hb : b < P) (hk : k < B) : T' < 2 * P := by
  have h1 : x * b ≤ (B - 1) * P := Nat.mul_le_mul (by omega) (by omega)
  have h2 : k * P ≤ (B - 1) * P := Nat.mul_le_mul (by omega) (Nat.le_refl _)
  obtain ⟨d, rfl⟩ : ∃ d, B = d + 1 := ⟨B - 1, by omega⟩
  simp only [Nat.add_sub_cancel] at h1 h2
  have h3 : (d + 1) * T' < (d + 1) * (2 * P) := by
    rw [h]
    have e : (d + 1) * (2 * P) = 2 * P + d * P + d * P := by grind
    rw [e]; omega
  exact Nat.lt_of_mul_lt_mul_left h3
theorem mont_mod {T x b k P T' i A : Nat} (h : B * T' = T + x * b + k * P) (hT : T * B ^ i % P = A * b % P) : T' * B ^ (i + 1) % P = (A + x * B ^ i) * b % P := by
  have e : T' * B ^ (i + 1) = T * B ^ i + x * B ^ i * b + k * B ^ i * P := by
    rw [Nat.pow_succ]
    have : B * T' * B ^ i = (T + x * b + k * P) * B ^ i := by rw [h]
    grind
  rw [e, Nat.add_mul_mod_self_right, Nat.add_mod, hT, ← Nat.add_mod, Nat.add_mul]
theorem mont_uniq {R P r r' : Nat} (hc : Nat.Coprime R P) (hr : r < P) (hr' : r' < P) (h : r * R % P = r' * R % P) : r = r' := by
  have key : ∀ {a b : Nat}, a ≤ b → b < P → a * R % P = b * R % P → a = b := by
    intro a b hab hb h
    have h1 : P ∣ (b - a) * R := by
      have h2 := Nat.dvd_of_mod_eq_zero (Nat.sub_mod_eq_zero_of_mod_eq h.symm)
      rwa [← Nat.sub_mul] at h2
    have h3 := (Nat.Coprime.symm hc).dvd_of_dvd_mul_right h1
    rcases Nat.eq_zero_or_pos (b - a) with h0 | h0
    · omega
    · have := Nat.le_of_dvd h0 h3
      omega
  rcases Nat.le_total r r' with h1 | h1
  · exact key h1 hr' h
  · exact (key h1 hr h.symm).symm
theorem mont_low {t k P inv : Nat} (hB : 0 < B) (hi : (P * inv + 1) % B = 0) (hk : k = t % B * inv % B) : (t % B + k * (P % B)) % B = 0 := by
  subst hk
  have e : (t % B + t % B * inv % B * (P % B)) % B = (t % B * (P * inv + 1)) % B := by
    rw [Nat.add_mod, ← Nat.mul_mod (t % B * inv) P B, ← Nat.add_mod, Nat.mul_add, Nat.mul_one, Nat.add_comm, Nat.mul_assoc, Nat.mul_comm inv P]
  rw [e, Nat.mul_mod, hi, Nat.mul_zero, Nat.zero_mod]
end
end Go.Proofs.YtlfadlfjjkppfaaGreatDoor
namespace Go.Proofs.YtlfadlfjjkppfaaGreatDoor
open Go Sim
def MwOk (mw : List Nat) : Prop := bd 18446744073709551616 mw ∧ 0 < mw.length ∧ mw.length ≤ 1000 ∧ 0 < num 18446744073709551616 mw
section
variable {B : Nat}
theorem less_c {n N c a : Nat} (hN : N < B ^ n) (h : a + c * B ^ n < 2 * N) : c ≤ 1 := by
  rcases Nat.lt_or_ge c 2 with h1 | h1
  · omega
  · have := Nat.mul_le_mul_right (B ^ n) h1
    omega
theorem less_ge2 {n N c a : Nat} (hc : c ≠ 0) (hN : N < B ^ n) : N ≤ a + c * B ^ n := by
  have := Nat.mul_le_mul_right (B ^ n) (show 1 ≤ c by omega)
  omega
theorem lt_of_cmp {a b : Nat} (h : cmpI a b < 0) : a < b := by
  simp only [cmpI] at h
  split at h
  · assumption
  · split at h <;> omega
theorem ge_of_cmp {a b : Nat} (h : 0 ≤ cmpI a b) : b ≤ a := by
  simp only [cmpI] at h
  split at h
  · omega
  · omega
theorem less_sub {n N c a : Nat} (hA : a < B ^ n) (hN : N < B ^ n) (h : a + c * B ^ n < 2 * N) (hge : N ≤ a + c * B ^ n) : digs B n ((a + c * B ^ n) % N) = digs B n (a + B ^ n - N) := by
  have hB : 0 < B := by
    rcases Nat.eq_zero_or_pos B with h0 | h0
    · subst h0
      cases n with
      | zero => simp at hA hN; omega
      | succ n => simp at hA
    · exact h0
  have hc := less_c hN h
  refine num_inj (digs_bd hB _ _) (digs_bd hB _ _) (by simp [digs_len]) ?_
  have e : (a + c * B ^ n) % N = a + c * B ^ n - N := by
    rw [Nat.mod_eq_sub_mod hge, Nat.mod_eq_of_lt (by omega)]
  rw [num_digs, num_digs, e]
  rcases (by omega : c = 0 ∨ c = 1) with rfl | rfl
  · rw [Nat.zero_mul, Nat.add_zero] at *
    rw [show a + B ^ n - N = (a - N) + B ^ n by omega, Nat.add_mod_right]
  · rw [Nat.one_mul]
end
theorem or_low {x d : Nat} (hd : d ≤ 1) : x * 2 % 18446744073709551616 ||| d = x * 2 % 18446744073709551616 + d := by
 have e : x * 2 % 18446744073709551616 = 2 ^ 1 * (x * 2 % 18446744073709551616 / 2) := by omega
 rw [e]
 exact (Nat.two_pow_add_eq_or_of_lt (i := 1) (b := d) (by omega) _).symm
theorem twice_step {l a : List Nat} {i c d : Nat} (hi : i < l.length) (h : num 18446744073709551616 (l.take i) + 18446744073709551616 ^ i * d = 2 * num 18446744073709551616 (a.take i) + c) :
  num 18446744073709551616 ((l.set i (a.getD i 0 * 2 % 18446744073709551616 + d)).take (i + 1)) + 18446744073709551616 ^ (i + 1) * (a.getD i 0 / 9223372036854775808) = 2 * num 18446744073709551616 (a.take (i + 1)) + c := by
 rw [take_set_succ hi, num_append, List.length_take, Nat.min_eq_left (by omega), num_take_succ, Nat.pow_succ]
 simp only [num, Nat.mul_zero, Nat.add_zero]
 have e : a.getD i 0 * 2 = a.getD i 0 * 2 % 18446744073709551616 + 18446744073709551616 * (a.getD i 0 / 9223372036854775808) := by omega
 generalize a.getD i 0 * 2 % 18446744073709551616 = r at *
 generalize a.getD i 0 / 9223372036854775808 = q at *
 generalize a.getD i 0 = x at *
 generalize 18446744073709551616 ^ i = w at *
 grind
theorem num_lt_blen (n : Nat) : n / 2 ^ blen n = 0 := by
 refine Nat.div_eq_of_lt ?_
 simp only [blen]
 split
 · rename_i h; rw [h]; decide
 · exact Nat.lt_log2_self
theorem red_init {n N : Nat} (_ : 0 < N) (h : n / 2 ^ blen n = 0) {k : Nat} : digs 18446744073709551616 k (n / 2 ^ blen n % N) = List.replicate k 0 := by
 rw [h, Nat.zero_mod]
 refine num_inj (digs_bd (by decide) _ _) (bd_replicate (by decide) _) (by simp [digs_len]) ?_
 rw [num_digs, num_replicate, Nat.zero_mod]
theorem bit64_at {a : List Nat} (h : bd 18446744073709551616 a) (i : Nat) : a.getD (i / 64) 0 / 2 ^ (i % 64) % 2 = num 18446744073709551616 a / 2 ^ i % 2 := by
 rw [num_getD h (by decide)]
 have e1 : (2 : Nat) ^ i = 18446744073709551616 ^ (i / 64) * 2 ^ (i % 64) := by
  rw [show (18446744073709551616 : Nat) = 2 ^ 64 from by decide, ← Nat.pow_mul, ← Nat.pow_add, Nat.div_add_mod]
 rw [e1, ← Nat.div_div_eq_div_mul]
 generalize num 18446744073709551616 a / 18446744073709551616 ^ (i / 64) = z
 have hk : i % 64 < 64 := Nat.mod_lt _ (by decide)
 generalize i % 64 = k at hk
 have e : 18446744073709551616 = 2 ^ k * (2 * 2 ^ (63 - k)) := by
  rw [← Nat.mul_assoc, Nat.mul_right_comm, ← Nat.pow_add, show k + (63 - k) = 63 by omega]
 rw [e, Nat.mod_mul_right_div_self, Nat.mod_mul_right_mod]
theorem bit_len {a : List Nat} {r : Nat} (h : bd 18446744073709551616 a) (hr : r < blen (num 18446744073709551616 a)) : r / 64 < a.length := by
 have h1 := num_lt h
 rw [show (18446744073709551616 : Nat) = 2 ^ 64 from by decide, ← Nat.pow_mul] at h1
 have h2 := blen_lt h1
 rw [show (2 : Nat) ^ 64 = 18446744073709551616 from by decide] at h2
 omega
theorem blen_words {a : List Nat} (h : bd 18446744073709551616 a) : blen (num 18446744073709551616 a) ≤ 64 * a.length := by
 have h1 := num_lt h
 rw [show (18446744073709551616 : Nat) = 2 ^ 64 from by decide, ← Nat.pow_mul] at h1
 have h2 := blen_lt h1
 rwa [show (2 : Nat) ^ 64 = 18446744073709551616 from by decide] at h2
theorem red_next {n r N k : Nat} (hN : 0 < N) (hk : N < 18446744073709551616 ^ k) : digs 18446744073709551616 k (n / 2 ^ r % N) = digs 18446744073709551616 k ((2 * num 18446744073709551616 (digs 18446744073709551616 k (n / 2 ^ (r + 1) % N)) + n / 2 ^ r % 2) % N) := by
 rw [num_digs_lt (Nat.lt_trans (Nat.mod_lt _ hN) hk)]
 have e : n / 2 ^ r = 2 * (n / 2 ^ (r + 1)) + n / 2 ^ r % 2 := by
  rw [Nat.pow_succ, ← Nat.div_div_eq_div_mul]
  omega
 generalize n / 2 ^ r % 2 = b at *
 generalize n / 2 ^ (r + 1) = m at *
 rw [e]
 congr 1
 rw [Nat.add_mod, Nat.mul_mod, ← Nat.mod_mod_of_dvd m (Nat.dvd_refl N)]
 simp [Nat.add_mod, Nat.mul_mod]
theorem lcmp_ctrN {a b : List Nat} {na nb : Nat} (hna : a.length = na) (hnb : b.length = nb) (ha : bd 18446744073709551616 a) (hb : bd 18446744073709551616 b) (hla : a.length < 100000000) (hlb : b.length < 100000000) : GC Tryz.prog 146 [.slice (some ⟨0, 0, none⟩) na 0, .slice (some ⟨1, 0, none⟩) nb 0] [⟨a.map (vi .u64), false, 1⟩, ⟨b.map (vi .u64), false, 1⟩] [.int .i64 (cmpI (num 18446744073709551616 a) (num 18446744073709551616 b))] [⟨a.map (vi .u64), false, 1⟩, ⟨b.map (vi .u64), false, 1⟩] := by
 subst hna; subst hnb
 exact lcmp_ctr ha hb hla hlb
theorem lsub_ctrN {a b : List Nat} {na nb : Nat} (hna : a.length = na) (hnb : b.length = nb) (ha : bd 18446744073709551616 a) (hb : bd 18446744073709551616 b) (hla : a.length < 100000000) (hlb : b.length < 100000000) : GC Tryz.prog 186 [.slice (some ⟨0, 0, none⟩) na 0, .slice (some ⟨1, 0, none⟩) nb 0] [⟨a.map (vi .u64), false, 1⟩, ⟨b.map (vi .u64), false, 1⟩] [.slice (some ⟨2, 0, none⟩) (Nat.max na nb) 0, vi .u64 (if num 18446744073709551616 a < num 18446744073709551616 b then 1 else 0)] [⟨a.map (vi .u64), false, 1⟩, ⟨b.map (vi .u64), false, 1⟩, ⟨(digs 18446744073709551616 (Nat.max na nb) (num 18446744073709551616 a + 18446744073709551616 ^ (Nat.max na nb) - num 18446744073709551616 b)).map (vi .u64), true, 1⟩] := by
 subst hna; subst hnb
 exact lsub_ctr ha hb hla hlb
set_option maxRecDepth 10000 in
theorem less_ctr {mw sq a : List Nat} {iv c ns : Nat} (hM : MwOk mw) (ha : bd 18446744073709551616 a) (hla : a.length = mw.length) (h : num 18446744073709551616 a + c * 18446744073709551616 ^ mw.length < 2 * num 18446744073709551616 mw) : GC Tryz.prog 179 [.pointer (some ⟨0, 0, none⟩), .slice (some ⟨3, 0, none⟩) mw.length 0, vi .u64 (c)] [⟨[.slice (some ⟨1, 0, none⟩) mw.length 0, vi .u64 iv, .slice (some ⟨2, 0, none⟩) ns 0], false, 1⟩, ⟨(mw).map (vi .u64), false, 1⟩, ⟨(sq).map (vi .u64), false, 1⟩, ⟨a.map (vi .u64), true, 1⟩] [.slice (some ⟨4, 0, none⟩) mw.length 0] [⟨[.slice (some ⟨1, 0, none⟩) mw.length 0, vi .u64 iv, .slice (some ⟨2, 0, none⟩) ns 0], false, 1⟩, ⟨(mw).map (vi .u64), false, 1⟩, ⟨(sq).map (vi .u64), false, 1⟩, ⟨[], false, 1⟩, ⟨(digs 18446744073709551616 mw.length ((num 18446744073709551616 a + c * 18446744073709551616 ^ mw.length) % num 18446744073709551616 mw)).map (vi .u64), true, 1⟩] := by
 refine gi Tryz.func179 ?_
 obtain ⟨hbm, hm0, hml, hN⟩ := hM
 refine AW.move 3 77000 1 rfl rfl rfl ?_
 have hA := num_lt ha
 rw [hla] at hA
 have hNW := num_lt hbm
 have hc1 := less_c hNW h
 refine zS ?_
 refine yA ?_
 refine zN (zQ (zS ?_))
 refine yM ?_
 refine yB (pEq (b := 0)) (fun hb0 => ?_) (fun hb0 => ?_)
 ·
  have hc0 : c = 0 := by simpa using hb0
  refine yM ?_
  refine yM ?_
  refine yM ?_
  refine yP (PureOp.nilCheck rfl) ?_
  refine yP pF ?_
  refine yL1 ?_
  refine yC (lcmp_ctrN hla rfl ha hbm (by omega) (by omega)) bd146 [(77000, 0), (1, 0)] [] ?_
  refine yP (PureOp.bin rfl rfl rfl) ?_
  refine yP pT ?_
  refine zN ?_
  refine zA (fun hb1 => ?_) (fun hb1 => ?_)
  ·
   have hlt := lt_of_cmp (by simpa using hb1)
   rw [show digs 18446744073709551616 mw.length ((num 18446744073709551616 a + c * 18446744073709551616 ^ mw.length) % num 18446744073709551616 mw) = a from by rw [hc0, Nat.zero_mul, Nat.add_zero, Nat.mod_eq_of_lt hlt, ← hla, digs_num ha]]
   refine zS ?_
   refine yM ?_
   refine yA ?_
   refine zN (zE (zU ?_))
   exact rq [77000] [.tmp 6] (hb := (OutL.whole rfl rfl (OkL.all rfl) (by intro h; exact h.elim id fun h => absurd h.1 (by simp)) (OutL.flat rfl (flatM flat_vi) (by intro h; exact h.elim id fun h => absurd h.1 (by simp)) (OutL.flat rfl (flatM flat_vi) (by intro h; exact h.elim id fun h => absurd h.1 (by simp)) (OutL.husk rfl rfl (OutL.flat rfl (by exact flatM flat_vi) (by intro h; rfl) trivial))))))
  ·
   have hge : num 18446744073709551616 mw ≤ num 18446744073709551616 a + c * 18446744073709551616 ^ mw.length := Nat.le_trans (ge_of_cmp (by simpa using hb1)) (Nat.le_add_right _ _)
   refine zK (zT (zS ?_))
   refine yM ?_
   refine yM ?_
   refine yP (PureOp.nilCheck rfl) ?_
   refine yP pF ?_
   refine yL1 ?_
   refine yC (lsub_ctrN hla rfl ha hbm (by omega) (by omega)) bd186 [(77000, 0), (1, 0)] [28000] ?_
   refine yM ?_
   refine yP pX ?_
   refine yP pX ?_
   refine yA ?_
   refine yA ?_
   refine zN ?_
   rw [show Nat.max mw.length mw.length = mw.length from Nat.max_self _]
   rw [show digs 18446744073709551616 mw.length ((num 18446744073709551616 a + c * 18446744073709551616 ^ mw.length) % num 18446744073709551616 mw) = digs 18446744073709551616 mw.length (num 18446744073709551616 a + 18446744073709551616 ^ mw.length - num 18446744073709551616 mw) from less_sub hA hNW h hge]
   refine zS ?_
   refine yM ?_
   refine yA ?_
   refine zN (zE ?_)
   exact rq [28000] [.tmp 6] (hb := (OutL.whole rfl rfl (OkL.all rfl) (by intro h; exact h.elim id fun h => absurd h.1 (by simp)) (OutL.flat rfl (flatM flat_vi) (by intro h; exact h.elim id fun h => absurd h.1 (by simp)) (OutL.flat rfl (flatM flat_vi) (by intro h; exact h.elim id fun h => absurd h.1 (by simp)) (OutL.husk rfl rfl (OutL.flat rfl (by exact flatM flat_vi) (by intro h; rfl) trivial))))))
 ·
  have hc0 : c ≠ 0 := by simpa using hb0
  have hge : num 18446744073709551616 mw ≤ num 18446744073709551616 a + c * 18446744073709551616 ^ mw.length := less_ge2 hc0 hNW
  refine yM ?_
  refine yK ?_
  refine yK ?_
  refine yK ?_
  refine yK ?_
  refine yK ?_
  refine yK ?_
  refine yK ?_
  refine yP pE ?_
  refine zN (zF (zK (zT (zS ?_))))
  refine yM ?_
  refine yM ?_
  refine yP (PureOp.nilCheck rfl) ?_
  refine yP pF ?_
  refine yL1 ?_
  refine yC (lsub_ctrN hla rfl ha hbm (by omega) (by omega)) bd186 [(77000, 0), (1, 0)] [28000] ?_
  refine yM ?_
  refine yP pX ?_
  refine yP pX ?_
  refine yA ?_
  refine yA ?_
  refine zN ?_
  rw [show Nat.max mw.length mw.length = mw.length from Nat.max_self _]
  rw [show digs 18446744073709551616 mw.length ((num 18446744073709551616 a + c * 18446744073709551616 ^ mw.length) % num 18446744073709551616 mw) = digs 18446744073709551616 mw.length (num 18446744073709551616 a + 18446744073709551616 ^ mw.length - num 18446744073709551616 mw) from less_sub hA hNW h hge]
  refine zS ?_
  refine yM ?_
  refine yA ?_
  refine zN (zE ?_)
  exact rq [28000] [.tmp 6] (hb := (OutL.whole rfl rfl (OkL.all rfl) (by intro h; exact h.elim id fun h => absurd h.1 (by simp)) (OutL.flat rfl (flatM flat_vi) (by intro h; exact h.elim id fun h => absurd h.1 (by simp)) (OutL.flat rfl (flatM flat_vi) (by intro h; exact h.elim id fun h => absurd h.1 (by simp)) (OutL.husk rfl rfl (OutL.flat rfl (by exact flatM flat_vi) (by intro h; rfl) trivial))))))
set_option maxRecDepth 10000 in
theorem twice_ctr {mw sq a : List Nat} {iv c ns : Nat} (hM : MwOk mw) (ha : bd 18446744073709551616 a) (hla : a.length = mw.length) (hlt : num 18446744073709551616 a < num 18446744073709551616 mw) (hc : c ≤ 1) : GC Tryz.prog 171 [.pointer (some ⟨0, 0, none⟩), .slice (some ⟨3, 0, none⟩) mw.length 0, vi .u64 (c)] [⟨[.slice (some ⟨1, 0, none⟩) mw.length 0, vi .u64 iv, .slice (some ⟨2, 0, none⟩) ns 0], false, 1⟩, ⟨(mw).map (vi .u64), false, 1⟩, ⟨(sq).map (vi .u64), false, 1⟩, ⟨a.map (vi .u64), false, 1⟩] [.slice (some ⟨4, 0, none⟩) mw.length 0] [⟨[.slice (some ⟨1, 0, none⟩) mw.length 0, vi .u64 iv, .slice (some ⟨2, 0, none⟩) ns 0], false, 1⟩, ⟨(mw).map (vi .u64), false, 1⟩, ⟨(sq).map (vi .u64), false, 1⟩, ⟨a.map (vi .u64), false, 1⟩, ⟨(digs 18446744073709551616 mw.length ((2 * num 18446744073709551616 a + c) % num 18446744073709551616 mw)).map (vi .u64), true, 1⟩] := by
 refine gi Tryz.func171 ?_
 obtain ⟨hbm, hm0, hml, hN⟩ := hM
 refine zS ?_
 refine yA ?_
 refine zN (zS ?_)
 refine yM ?_
 refine yP pL ?_
 refine AWo.makeI tbok 13000 rfl rfl rfl rfl rfl rfl (by omega) (by omega) rfl rfl rfl ?_
 refine yA ?_
 refine zN (zQ (zS ?_))
 refine yM ?_
 refine yP pL ?_
 refine yM ?_
 refine zN (zB ?_)
 refine AW.loopw (fun mm σ => ∃ i, ∃ (l : List Nat), ∃ d, (i ≤ mw.length ∧ l.length = mw.length ∧ bd 18446744073709551616 l ∧ d ≤ 1 ∧ num 18446744073709551616 (l.take i) + 18446744073709551616 ^ i * d = 2 * num 18446744073709551616 (a.take i) + c) ∧ mm = mw.length - i ∧ σ = ⟨(upd (upd (upd (upd (upd (upd emp 0 (.pointer (some ⟨0, 0, none⟩))) 2 (vi .u64 d)) 7 (.slice (some ⟨77000, 0, none⟩) mw.length 0)) 13 (.slice (some ⟨3, 0, none⟩) mw.length 0)) 14 (vi .i64 mw.length)) 15 (vi .i64 i)), (upd (upd (upd (upd (upd emp 0 ⟨[.slice (some ⟨1, 0, none⟩) mw.length 0, vi .u64 iv, .slice (some ⟨2, 0, none⟩) ns 0], false, 1⟩) 1 ⟨mw.map (vi .u64), false, 1⟩) 2 ⟨sq.map (vi .u64), false, 1⟩) 3 ⟨a.map (vi .u64), false, 1⟩) 77000 ⟨l.map (vi .u64), true, 1⟩)⟩) (fm := [(77000, 13000)]) (wk [0, 1, 2, 3, 77000]) ⟨0, List.replicate mw.length 0, c, ⟨Nat.zero_le _, by simp, bd_replicate (by decide) _, hc, by simp [num]⟩, rfl, rfl⟩ ?_
 rintro mm σ ⟨i, l, d, ⟨hi0, hl2, hbl, hd, hnl⟩, rfl, rfl⟩
 have hx := bd_getD ha (by decide) i
 refine zS ?_
 refine yP pLt ?_
 refine zN (zQ ?_)
 refine zA (fun hb0 => ?_) (fun hb0 => ?_)
 ·
  have hi : i < mw.length := by simpa using hb0
  refine zK (zT (zQ (zB (zS ?_))))
  refine yM ?_
  refine yP pJ ?_
  refine yL 0 ?_
  refine yA ?_
  refine yA ?_
  refine zN (zS ?_)
  refine yM ?_
  refine yM ?_
  refine yM ?_
  refine yP ((PureOp.shlUge (b := 1) 18446744073709551616 rfl rfl rfl rfl).mono (v' := vi .u64 (a.getD i 0 * 2 % 18446744073709551616)) rfl) ?_
  refine yM ?_
  refine yP ((PureOp.orN 18446744073709551616 rfl rfl (by decide) (by decide) (Nat.mod_lt _ (by decide)) (by omega)).mono (v' := vi .u64 (a.getD i 0 * 2 % 18446744073709551616 + d)) (congrArg (vi .u64) (or_low hd))) ?_
  refine yP pJ ?_
  refine yS (vi .u64) ?_
  refine zN (zR ?_)
  refine yM ?_
  refine yP ((PureOp.shrN (b := 63) 64 rfl rfl rfl (by decide)).mono (v' := vi .u64 (a.getD i 0 / 9223372036854775808)) rfl) ?_
  refine yA ?_
  refine zN (zL (zT (zR ?_)))
  refine yP (pAdd (b := 1)) ?_
  refine yM ?_
  refine zN (zT ?_)
  exact ⟨mw.length - (i + 1), [], _, by omega, wk [0, 1, 2, 3, 77000], i + 1, l.set i (a.getD i 0 * 2 % 18446744073709551616 + d), a.getD i 0 / 9223372036854775808, ⟨by omega, by simp [hl2], bd_set hbl (by omega), by omega, twice_step (by omega) hnl⟩, rfl, rfl⟩
 ·
  have hi : i = mw.length := by simp at hb0; omega
  subst hi
  have hfin : num 18446744073709551616 l + d * 18446744073709551616 ^ mw.length = 2 * num 18446744073709551616 a + c := by
   rw [← hl2, take_all, hl2, ← hla, take_all, hla, Nat.mul_comm] at hnl
   exact hnl
  refine zX (zV (zV (zH (zT ?_))))
  rw [← hfin]
  refine zS ?_
  refine yM ?_
  refine yM ?_
  refine yM ?_
  refine AWo.callX (less_ctr (a := l) ⟨hbm, hm0, hml, hN⟩ hbl hl2 (by rw [hfin]; omega)) bd179 [(0, 0), (1, 0), (2, 0), (77000, 0)] [34000] rfl (.cons rfl (.cons rfl (.cons rfl .nil))) rfl (.cons rfl rfl (.cons rfl rfl (.cons rfl rfl .nil))) (.whole rfl rfl (OkL.all rfl) (by intro h; exact h) (.flat rfl (flatM flat_vi) (by intro h; exact h) (.flat rfl (flatM flat_vi) (by intro h; exact h) (.flat rfl (by exact flatM flat_vi) (by intro h; exact h) .nil)))) rfl (.keep rfl (.keep rfl (.keep rfl (.gone rfl rfl (OkL.flat (by simp)) (.new (flat_map_ren (by exact flatM flat_vi)) (OkL.flat (by exact flatM flat_vi)) .nil))))) (frC rfl frN) (by decide) (.cons rfl rfl .nil) rfl rfl rfl rfl ?_
  refine yA ?_
  refine zN (zE ?_)
  refine RetQ.gc [_] [34000] [.tmp 6] (.inl rfl) rfl (.tmp rfl .nil) rfl (.cons rfl rfl .nil) (OutL.whole rfl rfl (OkL.all rfl) (by intro h; exact h.elim id fun h => absurd h.1 (by simp)) (OutL.flat rfl (flatM flat_vi) (by intro h; exact h.elim id fun h => absurd h.1 (by simp)) (OutL.flat rfl (flatM flat_vi) (by intro h; exact h.elim id fun h => absurd h.1 (by simp)) (OutL.flat rfl (by exact flatM flat_vi) (by intro h; exact h.elim id fun h => absurd h.1 (by simp)) (OutL.flat rfl (by exact flatM flat_vi) (by intro h; rfl) trivial))))) (by decide) rfl
set_option maxRecDepth 10000 in
theorem reduce_ctr {mw sq a : List Nat} {iv ns : Nat} (hM : MwOk mw) (ha : bd 18446744073709551616 a) (hla : a.length ≤ 1000) : GC Tryz.prog 151 [.pointer (some ⟨0, 0, none⟩), .slice (some ⟨3, 0, none⟩) a.length 0] [⟨[.slice (some ⟨1, 0, none⟩) mw.length 0, vi .u64 iv, .slice (some ⟨2, 0, none⟩) ns 0], false, 1⟩, ⟨(mw).map (vi .u64), false, 1⟩, ⟨(sq).map (vi .u64), false, 1⟩, ⟨a.map (vi .u64), false, 1⟩] [.slice (some ⟨4, 0, none⟩) mw.length 0] [⟨[.slice (some ⟨1, 0, none⟩) mw.length 0, vi .u64 iv, .slice (some ⟨2, 0, none⟩) ns 0], false, 1⟩, ⟨(mw).map (vi .u64), false, 1⟩, ⟨(sq).map (vi .u64), false, 1⟩, ⟨a.map (vi .u64), false, 1⟩, ⟨(digs 18446744073709551616 mw.length (num 18446744073709551616 a % num 18446744073709551616 mw)).map (vi .u64), true, 1⟩] := by
 refine gi Tryz.func151 ?_
 obtain ⟨hbm, hm0, hml, hN⟩ := hM
 have hA := num_lt_blen (num 18446744073709551616 a)
 have hbw := blen_words ha
 refine zS ?_
 refine yA ?_
 refine zN (zS ?_)
 refine yM ?_
 refine yP (PureOp.nilCheck rfl) ?_
 refine yP pF ?_
 refine yL1 ?_
 refine yP pL ?_
 refine AWo.makeI tbok 13000 rfl rfl rfl rfl rfl rfl (by omega) (by omega) rfl rfl rfl ?_
 refine yA ?_
 refine zN (zQ (zS ?_))
 refine yM ?_
 refine yC (lbits_ctr ha (by omega)) bd170 [(3, 0)] [] ?_
 refine yP ((PureOp.subP rfl rfl (by omega)).mono (v' := vp (blen (num 18446744073709551616 a))) (by rfl)) ?_
 refine yA ?_
 refine zN (zB ?_)
 refine AW.loopw (fun mm σ => ∃ r, (r ≤ blen (num 18446744073709551616 a)) ∧ mm = 1 * r ∧ σ = ⟨(upd (upd (upd (upd emp 0 (.pointer (some ⟨0, 0, none⟩))) 1 (.slice (some ⟨3, 0, none⟩) a.length 0)) 5 (.slice (some ⟨77000, 0, none⟩) mw.length 0)) 6 (vp r)), (upd (upd (upd (upd (upd emp 0 ⟨[.slice (some ⟨1, 0, none⟩) mw.length 0, vi .u64 iv, .slice (some ⟨2, 0, none⟩) ns 0], false, 1⟩) 1 ⟨mw.map (vi .u64), false, 1⟩) 2 ⟨sq.map (vi .u64), false, 1⟩) 3 ⟨a.map (vi .u64), false, 1⟩) 77000 ⟨(digs 18446744073709551616 mw.length (num 18446744073709551616 a / 2 ^ r % num 18446744073709551616 mw)).map (vi .u64), true, 1⟩)⟩) (fm := [(77000, 13000)]) ?_ ⟨blen (num 18446744073709551616 a), Nat.le_refl _, rfl, rfl⟩ ?_
 ·
  refine Wk.of [0, 1, 2, 3, 77000] ?_ ?_ ?_ (by decide) rfl
  ·
   refine WkE.upd rfl (by exact VR.flat _ rfl) ?_
   refine WkE.upd rfl (.slice (77000) 0 _ 0 ⟨_, rfl⟩ (by simp) (by simp)) ?_
   refine WkE.upd rfl (.slice (3) 0 _ 0 ⟨_, rfl⟩ (by simp) (by simp)) ?_
   refine WkE.upd rfl (.ptr (0) 0 ⟨_, rfl⟩) ?_
   exact WkE.emp
  ·
   refine WkM.flatM rfl (by exact red_init hN hA) flat_vi (fun h => h) ?_
   refine WkM.flatM rfl (by rfl) (fun _ => rfl) (fun h => h) ?_
   refine WkM.flatM rfl (by rfl) (fun _ => rfl) (fun h => h) ?_
   refine WkM.flatM rfl (by rfl) (fun _ => rfl) (fun h => h) ?_
   refine WkM.ren [1, 2] rfl rfl rfl (dom_all rfl) (fun h => h) ?_
   exact WkM.emp
  ·
   repeat (refine dom_upd_mem (by decide) ?_)
   exact dom_emp
 ·
  rintro mm σ ⟨r, hr, rfl, rfl⟩
  refine zQ (zS ?_)
  refine yM ?_
  refine yP (PureOp.geP rfl rfl) ?_
  refine zN ?_
  refine zA (fun hb0 => ?_) (fun hb0 => ?_)
  ·
   have hp0 : 0 < r := by simpa using hb0
   obtain ⟨r, rfl⟩ : ∃ q, r = q + 1 := ⟨r - 1, by omega⟩
   rw [vp_succ]
   have hal := bit_len ha (show r < blen (num 18446744073709551616 a) by omega)
   refine zK (zT (zQ (zB ?_)))
   have hal := bit_len ha (show r < blen (num 18446744073709551616 a) by omega)
   refine zR ?_
   refine yM ?_
   refine yM ?_
   refine yM ?_
   refine yM ?_
   refine yP ((PureOp.quoN (b := 64) 9223372036854775808 rfl rfl (by decide) (by decide) (by decide) (by omega)).mono (v' := vi .i64 (r / 64)) rfl) ?_
   refine yP pJ ?_
   refine yL 0 ?_
   refine yM ?_
   refine yP ((PureOp.remN (b := 64) rfl rfl (by decide)).mono (v' := vi .i64 (r % 64)) rfl) ?_
   refine yP (PureOp.shrN (b := r % 64) 64 rfl rfl rfl (by omega)) ?_
   refine yP ((PureOp.andN 18446744073709551616 rfl rfl (by decide) (by decide) (Nat.lt_of_le_of_lt (Nat.div_le_self _ _) (bd_getD ha (by decide) _)) (by decide)).mono (v' := vi .u64 (num 18446744073709551616 a / 2 ^ r % 2)) (congrArg (vi .u64) ((Nat.and_one_is_mod _).trans (bit64_at ha r)))) ?_
   refine AWo.callX (twice_ctr (a := digs 18446744073709551616 mw.length (num 18446744073709551616 a / 2 ^ (r + 1) % num 18446744073709551616 mw)) ⟨hbm, hm0, hml, hN⟩ (digs_bd (by decide) _ _) (digs_len _ _) (by rw [num_digs_lt (Nat.lt_trans (Nat.mod_lt _ hN) (num_lt hbm))]; exact Nat.mod_lt _ hN) (by omega)) bd171 [(0, 0), (1, 0), (2, 0), (77000, 0)] [32000] rfl (.cons rfl (.cons rfl (.cons rfl .nil))) rfl (.cons rfl rfl (.cons rfl rfl (.cons rfl rfl .nil))) (.whole rfl rfl (OkL.all rfl) (by intro h; exact h) (.flat rfl (flatM flat_vi) (by intro h; exact h) (.flat rfl (flatM flat_vi) (by intro h; exact h) (.flat rfl (by exact flatM flat_vi) (by intro h; rfl) .nil)))) rfl (.keep rfl (.keep rfl (.keep rfl (.keep rfl (.new (flat_map_ren (by exact flatM flat_vi)) (OkL.flat (by exact flatM flat_vi)) .nil))))) (frC rfl frN) (by decide) (.cons rfl rfl .nil) rfl rfl rfl rfl ?_
   refine yA ?_
   refine zN (zL (zT (zR ?_)))
   refine yM ?_
   refine yP (PureOp.subP rfl rfl (by omega)) ?_
   refine yA ?_
   refine zN (zT ?_)
   refine ⟨1 * r, [(77000, 32000)], _, by omega, ?_, r, by omega, rfl, rfl⟩
   refine Wk.of [0, 1, 2, 3, 77000] ?_ ?_ ?_ (by decide) rfl
   ·
    refine WkE.upd rfl (by exact VR.flat _ rfl) ?_
    refine WkE.upd rfl (.slice (77000) 0 _ 0 ⟨_, rfl⟩ (by simp) (by simp)) ?_
    refine WkE.upd rfl (.slice (3) 0 _ 0 ⟨_, rfl⟩ (by simp) (by simp)) ?_
    refine WkE.upd rfl (.ptr (0) 0 ⟨_, rfl⟩) ?_
    exact WkE.emp
   ·
    refine WkM.flatM rfl (by exact red_next hN (num_lt hbm)) flat_vi (fun h => h) ?_
    refine WkM.flatM rfl (by rfl) (fun _ => rfl) (fun h => h) ?_
    refine WkM.flatM rfl (by rfl) (fun _ => rfl) (fun h => h) ?_
    refine WkM.flatM rfl (by rfl) (fun _ => rfl) (fun h => h) ?_
    refine WkM.ren [1, 2] rfl rfl rfl (dom_all rfl) (fun h => h) ?_
    exact WkM.emp
   ·
    repeat (refine dom_upd_mem (by decide) ?_)
    exact dom_emp
  ·
   obtain rfl : r = 0 := by simpa using hb0
   rw [Nat.pow_zero, Nat.div_one]
   refine zX (zV (zV (zH (zT (zS ?_)))))
   refine yM ?_
   refine yA ?_
   refine zN (zE ?_)
   refine RetQ.gc [_] [77000] [.tmp 4] (.inl rfl) rfl (.tmp rfl .nil) rfl (.cons rfl rfl .nil) (OutL.whole rfl rfl (OkL.all rfl) (by intro h; exact h.elim id fun h => absurd h.1 (by simp)) (OutL.flat rfl (flatM flat_vi) (by intro h; exact h.elim id fun h => absurd h.1 (by simp)) (OutL.flat rfl (flatM flat_vi) (by intro h; exact h.elim id fun h => absurd h.1 (by simp)) (OutL.flat rfl (by exact flatM flat_vi) (by intro h; exact h.elim id fun h => absurd h.1 (by simp)) (OutL.flat rfl (by exact flatM flat_vi) (by intro h; rfl) trivial))))) (by decide) rfl
end Go.Proofs.YtlfadlfjjkppfaaGreatDoor
namespace Go.Proofs.YtlfadlfjjkppfaaGreatDoor
open Go Sim
theorem fitPre {h : Rho} {n : Nat} {M : Mem} {c c' : List Value} {rw : Bool} {es id : Nat} {r : List Blk} {g : List (Nat × Nat)} (h1 : M id = some ⟨c', true, es⟩) (h2 : c'.take c.length = c)
  (h3 : ∀ x ∈ c, flatV x = true) (h4 : c.length ≤ c'.length) (hr : FitL h n M r g) : FitL h n M (⟨c, rw, es⟩ :: r) ((id, 0) :: g) :=
 .cons h1 (by rw [flat_map_ren h3]; exact h2) (OkL.flat h3) (by simpa using h4) rfl (fun _ => ⟨rfl, rfl⟩) hr
section
variable {B : Nat}
theorem mad_stepT {l b : List Nat} {j c p x s m : Nat} (hj : j < m) (hm : m ≤ l.length) (h : num B (l.take m) + c * B ^ j = p + x * num B (b.take j)) (hs : s = l.getD j 0 + x * b.getD j 0 + c) :
  num B ((l.set j (s % B)).take m) + s / B * B ^ (j + 1) = p + x * num B (b.take (j + 1)) := by
 have e : (l.take m).getD j 0 = l.getD j 0 := by rw [List.getD_eq_getElem?_getD, List.getElem?_take, if_pos hj, ← List.getD_eq_getElem?_getD]
 rw [List.take_set]
 exact mad_step (by simp; omega) h (by rw [e]; exact hs)
theorem top_two {l : List Nat} {n c : Nat} (hl : l.length = n + 2) : num B ((l.set n ((l.getD n 0 + c) % B)).set (n + 1) ((l.getD n 0 + c) / B)) = num B (l.take (n + 1)) + c * B ^ n := by
 have hl2 : ((l.set n ((l.getD n 0 + c) % B)).set (n + 1) ((l.getD n 0 + c) / B)).length = n + 1 + 1 := by simp [hl]
 have e : (l.set n ((l.getD n 0 + c) % B)).set (n + 1) ((l.getD n 0 + c) / B) = l.take n ++ [(l.getD n 0 + c) % B, (l.getD n 0 + c) / B] := by
  rw [← List.take_of_length_le (Nat.le_of_eq hl2), take_set_succ (by simp [hl]), take_set_succ (by omega), List.append_assoc]
  rfl
 rw [e, num_append, List.length_take, Nat.min_eq_left (by omega), num_take_succ]
 simp only [num, Nat.mul_zero, Nat.add_zero]
 rw [Nat.mod_add_div]
 generalize l.getD n 0 = x
 generalize B ^ n = w
 grind
theorem red_end2 {u : List Nat} {n c k t N : Nat} (hu : u.length = n + 2) (hn : 0 < n) (h : B * num B (u.take (n - 1)) + c * B ^ n = t % B ^ n + k * N) (h1 : u.getD n 0 = t / B ^ n % B) (h2 : u.getD (n + 1) 0 = t / B ^ (n + 1) % B) (ht : t < B ^ (n + 2)) :
  B * num B (((u.set (n - 1) ((u.getD n 0 + c) % B)).set n (u.getD (n + 1) 0 + (u.getD n 0 + c) / B)).take (n + 1)) = t + k * N := by
 obtain ⟨m, rfl⟩ : ∃ m, n = m + 1 := ⟨n - 1, by omega⟩
 simp only [Nat.add_sub_cancel] at h ⊢
 rw [take_set_succ (by simp; omega), take_set_succ (by omega), List.append_assoc, num_append, List.length_take, Nat.min_eq_left (by omega)]
 simp only [List.singleton_append, num, Nat.mul_zero, Nat.add_zero]
 have hB : 0 < B := by
  rcases Nat.eq_zero_or_pos B with h0 | h0
  · subst h0; simp at ht
  · exact h0
 have e2 : t / B ^ (m + 1 + 1) < B := by
  rw [Nat.div_lt_iff_lt_mul (Nat.pow_pos hB), Nat.mul_comm, ← Nat.pow_succ]; exact ht
 rw [Nat.mod_eq_of_lt e2] at h2
 have e3 := Nat.mod_add_div t (B ^ (m + 1))
 have e4 : t / B ^ (m + 1) = u.getD (m + 1) 0 + B * u.getD (m + 1 + 1) 0 := by
  rw [h1, h2, Nat.pow_succ B (m + 1), ← Nat.div_div_eq_div_mul, Nat.mod_add_div]
 rw [e4] at e3
 have e5 := Nat.mod_add_div (u.getD (m + 1) 0 + c) B
 generalize (u.getD (m + 1) 0 + c) % B = r at *
 generalize (u.getD (m + 1) 0 + c) / B = q at *
 generalize u.getD (m + 1) 0 = x at *
 generalize u.getD (m + 1 + 1) 0 = y at *
 generalize t % B ^ (m + 1) = z at *
 generalize num B (u.take m) = a at *
 rw [Nat.pow_succ] at h e3
 generalize B ^ m = w at *
 have e6 : w * B * (r + B * q) = w * B * (x + c) := by rw [e5]
 grind
theorem top_small {l : List Nat} {n v N : Nat} (hl : n < l.length) (h : num B ((l.set n v).take (n + 1)) < 2 * N) (hN : N < B ^ n) : v < 2 := by
  rw [take_set_succ hl, num_append, List.length_take, Nat.min_eq_left (by omega)] at h
  simp only [num, Nat.mul_zero, Nat.add_zero] at h
  rcases Nat.lt_or_ge v 2 with h1 | h1
  · exact h1
  · have := Nat.mul_le_mul_left (B ^ n) h1
    omega
theorem cop_pow {N iv : Nat} (h : (N * iv + 1) % B = 0) (n : Nat) : Nat.Coprime (B ^ n) N := by
 apply Nat.Coprime.pow_left
 have h1 : B ∣ N * iv + 1 := Nat.dvd_of_mod_eq_zero h
 have h2 : Nat.gcd B N ∣ 1 := (Nat.dvd_add_right (Nat.dvd_trans (Nat.gcd_dvd_right B N) (Nat.dvd_mul_right N iv))).1 (Nat.dvd_trans (Nat.gcd_dvd_left B N) h1)
 exact Nat.dvd_one.1 h2
theorem mont_initG {l q : List Nat} {k iv : Nat} (hl : bd 18446744073709551616 l) (hq : bd 18446744073709551616 q) (hi : (num 18446744073709551616 q * iv + 1) % 18446744073709551616 = 0) (hk : k = l.getD 0 0 * iv % 18446744073709551616) :
  18446744073709551616 * num 18446744073709551616 (l.take (1 - 1)) + (l.getD 0 0 + k * q.getD 0 0 + 0) / 18446744073709551616 * 18446744073709551616 ^ 1 = num 18446744073709551616 l % 18446744073709551616 ^ 1 + k * num 18446744073709551616 (q.take 1) := by
 have e1 : l.getD 0 0 = num 18446744073709551616 l % 18446744073709551616 := by rw [num_getD hl (by decide)]; simp
 have e2 : q.getD 0 0 = num 18446744073709551616 q % 18446744073709551616 := by rw [num_getD hq (by decide)]; simp
 have e3 : num 18446744073709551616 (q.take 1) = num 18446744073709551616 q % 18446744073709551616 := by rw [num_take hq, Nat.pow_one]
 have h := mont_low (by decide) hi (t := num 18446744073709551616 l) (k := k) (by rw [hk, e1])
 rw [e3, e1, e2, Nat.pow_one, Nat.add_zero]
 have h2 := Nat.mod_add_div (num 18446744073709551616 l % 18446744073709551616 + k * (num 18446744073709551616 q % 18446744073709551616)) 18446744073709551616
 rw [h, Nat.zero_add] at h2
 simp only [Nat.sub_self, List.take_zero, num, Nat.mul_zero, Nat.zero_add]
 rw [Nat.mul_comm]
 exact h2
end
set_option maxRecDepth 10000 in
theorem shrink_ctr {mw sq a b : List Nat} {iv r ns : Nat} (hM : MwOk mw) (ha : bd 18446744073709551616 a) (hb : bd 18446744073709551616 b) (hla : a.length = mw.length) (hlb : b.length = mw.length) (hpb : num 18446744073709551616 b < num 18446744073709551616 mw) (hiv : (num 18446744073709551616 mw * iv + 1) % 18446744073709551616 = 0) (hr : r < num 18446744073709551616 mw)
  (h : r * 18446744073709551616 ^ mw.length % num 18446744073709551616 mw = num 18446744073709551616 a * num 18446744073709551616 b % num 18446744073709551616 mw) : GC Tryz.prog 169 [.pointer (some ⟨0, 0, none⟩), .slice (some ⟨3, 0, none⟩) mw.length 0, .slice (some ⟨4, 0, none⟩) mw.length 0] [⟨[.slice (some ⟨1, 0, none⟩) mw.length 0, vi .u64 iv, .slice (some ⟨2, 0, none⟩) ns 0], false, 1⟩, ⟨(mw).map (vi .u64), false, 1⟩, ⟨(sq).map (vi .u64), false, 1⟩, ⟨a.map (vi .u64), false, 1⟩, ⟨b.map (vi .u64), false, 1⟩] [.slice (some ⟨5, 0, none⟩) mw.length 0] [⟨[.slice (some ⟨1, 0, none⟩) mw.length 0, vi .u64 iv, .slice (some ⟨2, 0, none⟩) ns 0], false, 1⟩, ⟨(mw).map (vi .u64), false, 1⟩, ⟨(sq).map (vi .u64), false, 1⟩, ⟨a.map (vi .u64), false, 1⟩, ⟨b.map (vi .u64), false, 1⟩, ⟨(digs 18446744073709551616 mw.length (r)).map (vi .u64), true, 1⟩] := by
 refine gi Tryz.func169 ?_
 obtain ⟨hbm, hm0, hml, hN⟩ := hM
 have hNW := num_lt hbm
 have hcop := cop_pow hiv mw.length
 refine zS ?_
 refine yA ?_
 refine zN (zS ?_)
 refine yM ?_
 refine yP (PureOp.nilCheck rfl) ?_
 refine yP pF ?_
 refine yL1 ?_
 refine yP pL ?_
 refine yA ?_
 refine zN (zS ?_)
 refine yM ?_
 refine yP (pAdd (b := 2)) ?_
 refine AWo.makeI tbok 25000 rfl rfl rfl rfl rfl rfl (by omega) (by omega) rfl rfl rfl ?_
 refine yA ?_
 refine zN (zQ (zS ?_))
 refine yM ?_
 refine yP pL ?_
 refine yM ?_
 refine zN (zB ?_)
 refine AW.loopw (fun mm σ => ∃ i, ∃ (l : List Nat), (i ≤ mw.length ∧ l.length = mw.length + 2 ∧ bd 18446744073709551616 l ∧ num 18446744073709551616 (l.take (mw.length + 1)) < 2 * num 18446744073709551616 mw ∧ num 18446744073709551616 (l.take (mw.length + 1)) * 18446744073709551616 ^ i % num 18446744073709551616 mw = num 18446744073709551616 (a.take i) * num 18446744073709551616 b % num 18446744073709551616 mw) ∧ mm = mw.length - i ∧ σ = ⟨(upd (upd (upd (upd (upd (upd (upd emp 0 (.pointer (some ⟨0, 0, none⟩))) 2 (.slice (some ⟨4, 0, none⟩) mw.length 0)) 7 (vi .i64 mw.length)) 8 (.slice (some ⟨25000, 0, none⟩) (mw.length + 2) 0)) 25 (.slice (some ⟨3, 0, none⟩) mw.length 0)) 26 (vi .i64 mw.length)) 27 (vi .i64 i)), (upd (upd (upd (upd (upd (upd emp 0 ⟨[.slice (some ⟨1, 0, none⟩) mw.length 0, vi .u64 iv, .slice (some ⟨2, 0, none⟩) ns 0], false, 1⟩) 1 ⟨mw.map (vi .u64), false, 1⟩) 2 ⟨sq.map (vi .u64), false, 1⟩) 3 ⟨a.map (vi .u64), false, 1⟩) 4 ⟨b.map (vi .u64), false, 1⟩) 25000 ⟨l.map (vi .u64), true, 1⟩)⟩) (fm := []) (wk [0, 1, 2, 3, 4, 25000]) ⟨0, List.replicate (mw.length + 2) 0, ⟨Nat.zero_le _, by simp, bd_replicate (by decide) _, by rw [List.take_replicate, num_replicate]; omega, by simp [List.take_replicate, num, num_replicate]⟩, rfl, rfl⟩ ?_
 rintro mm σ ⟨i, l, ⟨hi0, hl2, hbl, hT, hTm⟩, rfl, rfl⟩
 refine zS ?_
 refine yP pLt ?_
 refine zN (zQ ?_)
 refine zA (fun hb0 => ?_) (fun hb0 => ?_)
 ·
  have hi : i < mw.length := by simpa using hb0
  have hxa := bd_getD ha (by decide) i
  refine zK (zT (zQ (zB (zS ?_))))
  refine yP pJ ?_
  refine yL 0 ?_
  refine yA ?_
  refine zN (zS ?_)
  refine yA ?_
  refine yA ?_
  refine zN (zQ (zS ?_))
  refine yM ?_
  refine yP pL ?_
  refine yM ?_
  refine zN (zB ?_)
  refine AW.loopw (fun mm σ => ∃ j, ∃ (l2 : List Nat), ∃ c, (j ≤ mw.length ∧ l2.length = mw.length + 2 ∧ bd 18446744073709551616 l2 ∧ c < 18446744073709551616 ∧ num 18446744073709551616 (l2.take (mw.length + 1)) + c * 18446744073709551616 ^ j = num 18446744073709551616 (l.take (mw.length + 1)) + a.getD i 0 * num 18446744073709551616 (b.take j)) ∧ mm = mw.length - j ∧ σ = ⟨(upd (upd (upd (upd (upd (upd (upd (upd (upd (upd (upd (upd emp 0 (.pointer (some ⟨0, 0, none⟩))) 2 (.slice (some ⟨4, 0, none⟩) mw.length 0)) 7 (vi .i64 mw.length)) 8 (.slice (some ⟨25000, 0, none⟩) (mw.length + 2) 0)) 25 (.slice (some ⟨3, 0, none⟩) mw.length 0)) 26 (vi .i64 mw.length)) 27 (vi .i64 i)) 10 (vi .u64 (a.getD i 0))) 11 (vi .u64 c)) 31 (.slice (some ⟨4, 0, none⟩) mw.length 0)) 32 (vi .i64 mw.length)) 33 (vi .i64 j)), (upd (upd (upd (upd (upd (upd emp 0 ⟨[.slice (some ⟨1, 0, none⟩) mw.length 0, vi .u64 iv, .slice (some ⟨2, 0, none⟩) ns 0], false, 1⟩) 1 ⟨mw.map (vi .u64), false, 1⟩) 2 ⟨sq.map (vi .u64), false, 1⟩) 3 ⟨a.map (vi .u64), false, 1⟩) 4 ⟨b.map (vi .u64), false, 1⟩) 25000 ⟨l2.map (vi .u64), true, 1⟩)⟩) (fm := []) (wk [0, 1, 2, 3, 4, 25000]) ⟨0, l, 0, ⟨by omega, hl2, hbl, by decide, by simp [num]⟩, rfl, rfl⟩ ?_
  rintro mm σ ⟨j, l2, c, ⟨hj0, hk2, hbk, hc, hnk⟩, rfl, rfl⟩
  have hx := bd_getD ha (by decide) i
  have hy := bd_getD hb (by decide) j
  have he := bd_getD hbk (by decide) j
  have hlt := mad_lt he hx hy hc
  refine zS ?_
  refine yP pLt ?_
  refine zN (zQ ?_)
  refine zA (fun hb1 => ?_) (fun hb1 => ?_)
  ·
   have hj : j < mw.length := by simpa using hb1
   refine zK (zT (zQ (zB (zS ?_))))
   refine yM ?_
   refine yP pJ ?_
   refine yL 0 ?_
   refine yA ?_
   refine yA ?_
   refine zN (zR ?_)
   refine yM ?_
   refine yM ?_
   refine yM ?_
   refine yM ?_
   refine yP pJ ?_
   refine yL 0 ?_
   refine yM ?_
   refine yM ?_
   refine yM ?_
   refine AWo.callX (step_ctr (by assumption) (by assumption) (by assumption) (by assumption)) bd178 [] [] rfl (.cons rfl (.cons rfl (.cons rfl (.cons rfl .nil)))) rfl (.cons rfl rfl (.cons rfl rfl (.cons rfl rfl (.cons rfl rfl .nil)))) .nil rfl .nil frN (by decide) (.cons rfl rfl (.cons rfl rfl .nil)) rfl rfl rfl rfl ?_
   refine yM ?_
   refine yP pX ?_
   refine yP pX ?_
   refine yP pJ ?_
   refine yS (vi .u64) ?_
   refine yA ?_
   refine zN (zL (zT (zR ?_)))
   refine yP (pAdd (b := 1)) ?_
   refine yM ?_
   refine zN (zT ?_)
   refine ⟨mw.length - (j + 1), [], _, by omega, ?_, j + 1, l2.set j ((l2.getD j 0 + a.getD i 0 * b.getD j 0 + c) % 18446744073709551616), (l2.getD j 0 + a.getD i 0 * b.getD j 0 + c) / 18446744073709551616, ⟨by omega, by simp [hk2], bd_set hbk (Nat.mod_lt _ (by decide)), Nat.div_lt_of_lt_mul hlt, mad_stepT (by omega) (by omega) hnk rfl⟩, rfl, rfl⟩
   exact wk [0, 1, 2, 3, 4, 25000]
  ·
   have hj : j = mw.length := by simp at hb1; omega
   subst hj
   rw [show b.take mw.length = b from List.take_of_length_le (by omega)] at hnk
   refine zX (zV (zV (zH (zT (zS ?_)))))
   refine yM ?_
   refine yM ?_
   refine yM ?_
   refine yM ?_
   refine yP pJ ?_
   refine yL 0 ?_
   refine yM ?_
   refine yP ((add64 (c := 0) rfl rfl (by decide)).mono (v' := .tuple #[vi .u64 ((l2.getD mw.length 0 + c) % 18446744073709551616), vi .u64 ((l2.getD mw.length 0 + c) / 18446744073709551616)]) rfl) ?_
   refine yM ?_
   refine yP pX ?_
   refine yP pX ?_
   refine yP pJ ?_
   refine yS (vi .u64) ?_
   refine yA ?_
   refine zN (zS ?_)
   refine yM ?_
   refine yM ?_
   refine yP (pAdd (b := 1)) ?_
   refine yM ?_
   refine yP pJ ?_
   refine AWo.storeM (f := (vi .u64)) tbok rfl rfl rfl rfl (by (simp; omega)) rfl rfl ?_
   refine zN ?_
   obtain ⟨l3, hl3⟩ : ∃ l3, l3 = (l2.set mw.length ((l2.getD mw.length 0 + c) % 18446744073709551616)).set (mw.length + 1) ((l2.getD mw.length 0 + c) / 18446744073709551616) := ⟨_, rfl⟩
   rw [← hl3]
   have hb3 : bd 18446744073709551616 l3 := by rw [hl3]; exact bd_set (bd_set hbk (Nat.mod_lt _ (by decide))) (Nat.div_lt_of_lt_mul (Nat.lt_of_lt_of_le (Nat.add_lt_add (bd_getD hbk (by decide) _) hc) (by decide)))
   have hk3 : l3.length = mw.length + 2 := by rw [hl3]; simp [hk2]
   have hS : num 18446744073709551616 l3 = num 18446744073709551616 (l.take (mw.length + 1)) + a.getD i 0 * num 18446744073709551616 b := by
    rw [hl3, top_two hk2]; exact hnk
   refine AW.seqD mixed ?_
   refine yM ?_
   refine yP (pJ (j := 0)) ?_
   refine yL 0 ?_
   refine yM ?_
   refine yP (PureOp.nilCheck rfl) ?_
   refine yP pF ?_
   refine yL1 ?_
   refine yP (PureOp.mulU 18446744073709551616 rfl rfl rfl rfl) ?_
   refine yA ?_
   refine zD ?_
   obtain ⟨k, hkk⟩ : ∃ k, k = l3.getD 0 0 * iv % 18446744073709551616 := ⟨_, rfl⟩
   rw [← hkk]
   have hk : k < 18446744073709551616 := by rw [hkk]; exact Nat.mod_lt _ (by decide)
   refine AW.seqD mixed ?_
   refine yM ?_
   refine yP (pJ (j := 0)) ?_
   refine yL 0 ?_
   refine yM ?_
   refine yM ?_
   refine yP (PureOp.nilCheck rfl) ?_
   refine yP pF ?_
   refine yL1 ?_
   refine yP (pJ (j := 0)) ?_
   refine yL 0 ?_
   refine yC (step_ctr (c := 0) (bd_getD hb3 (by decide) 0) hk (bd_getD hbm (by decide) 0) (by decide)) bd178 [] [] ?_
   refine yM ?_
   refine yP pX ?_
   refine yP pX ?_
   refine yA ?_
   refine zD (zQ (zS ?_))
   refine yA ?_
   refine zN (zB ?_)
   refine AW.loopw (fun mm σ => ∃ j, ∃ (u : List Nat), ∃ c, ((1 ≤ j ∧ j ≤ mw.length) ∧ u.length = mw.length + 2 ∧ bd 18446744073709551616 u ∧ c < 18446744073709551616 ∧ 18446744073709551616 * num 18446744073709551616 (u.take (j - 1)) + c * 18446744073709551616 ^ j = num 18446744073709551616 l3 % 18446744073709551616 ^ j + k * num 18446744073709551616 (mw.take j) ∧ (∀ m, j ≤ m → u.getD m 0 = num 18446744073709551616 l3 / 18446744073709551616 ^ m % 18446744073709551616)) ∧ mm = mw.length - j ∧ σ = ⟨(upd (upd (upd (upd (upd (upd (upd (upd (upd (upd emp 0 (.pointer (some ⟨0, 0, none⟩))) 2 (.slice (some ⟨4, 0, none⟩) mw.length 0)) 7 (vi .i64 mw.length)) 8 (.slice (some ⟨25000, 0, none⟩) (mw.length + 2) 0)) 25 (.slice (some ⟨3, 0, none⟩) mw.length 0)) 26 (vi .i64 mw.length)) 27 (vi .i64 i)) 11 (vi .u64 c)) 15 (vi .u64 k)) 16 (vi .i64 j)), (upd (upd (upd (upd (upd (upd emp 0 ⟨[.slice (some ⟨1, 0, none⟩) mw.length 0, vi .u64 iv, .slice (some ⟨2, 0, none⟩) ns 0], false, 1⟩) 1 ⟨mw.map (vi .u64), false, 1⟩) 2 ⟨sq.map (vi .u64), false, 1⟩) 3 ⟨a.map (vi .u64), false, 1⟩) 4 ⟨b.map (vi .u64), false, 1⟩) 25000 ⟨u.map (vi .u64), true, 1⟩)⟩) (fm := []) (wk [0, 1, 2, 3, 4, 25000]) ⟨1, l3, (l3.getD 0 0 + k * mw.getD 0 0 + 0) / 18446744073709551616, ⟨⟨by omega, by omega⟩, hk3, hb3, Nat.div_lt_of_lt_mul (mad_lt (bd_getD hb3 (by decide) 0) hk (bd_getD hbm (by decide) 0) (by decide)), mont_initG hb3 hbm hiv hkk, fun m _ => num_getD hb3 (by decide) m⟩, rfl, rfl⟩ ?_
   rintro mm σ ⟨j, u, c, ⟨⟨hj1, hj0⟩, hku, hbu, hc, hred, hum⟩, rfl, rfl⟩
   have he := bd_getD hbu (by decide) j
   have hq := bd_getD hbm (by decide) j
   have hlt2 := mad_lt he hk hq hc
   have hun := bd_getD hbu (by decide) mw.length
   refine zQ (zS ?_)
   refine yM ?_
   refine yM ?_
   refine yP pLt ?_
   refine zN ?_
   refine zA (fun hb2 => ?_) (fun hb2 => ?_)
   ·
    have hj : j < mw.length := by simpa using hb2
    refine zK (zT (zQ (zB ?_)))
    refine AW.draw mixed ?_
    refine yM ?_
    refine yM ?_
    refine yP (pSub (b := 1)) ?_
    refine yM ?_
    refine yM ?_
    refine yP pJ ?_
    refine yL 0 ?_
    refine yM ?_
    refine yM ?_
    refine yP (PureOp.nilCheck rfl) ?_
    refine yP pF ?_
    refine yL1 ?_
    refine yM ?_
    refine yP pJ ?_
    refine yL 0 ?_
    refine yM ?_
    refine AWo.callX (step_ctr (by assumption) (by assumption) (by assumption) (by assumption)) bd178 [] [] rfl (.cons rfl (.cons rfl (.cons rfl (.cons rfl .nil)))) rfl (.cons rfl rfl (.cons rfl rfl (.cons rfl rfl (.cons rfl rfl .nil)))) .nil rfl .nil frN (by decide) (.cons rfl rfl (.cons rfl rfl .nil)) rfl rfl rfl rfl ?_
    refine yM ?_
    refine yP pX ?_
    refine yP pX ?_
    refine yP pJ ?_
    refine yS (vi .u64) ?_
    refine yA ?_
    refine zD (zL (zT (zR ?_)))
    refine yM ?_
    refine yP (pAdd (b := 1)) ?_
    refine yA ?_
    refine zN (zT ?_)
    refine ⟨mw.length - (j + 1), [], _, by omega, ?_, j + 1, u.set (j - 1) ((u.getD j 0 + k * mw.getD j 0 + c) % 18446744073709551616), (u.getD j 0 + k * mw.getD j 0 + c) / 18446744073709551616, ⟨⟨by omega, by omega⟩, by simp [hku], bd_set hbu (Nat.mod_lt _ (by decide)), Nat.div_lt_of_lt_mul hlt2, red_step (by omega) (by omega) hred rfl (hum j (Nat.le_refl _)), fun m hm => by rw [getD_set (by omega)]; exact hum m (by omega)⟩, rfl, rfl⟩
    exact wk [0, 1, 2, 3, 4, 25000]
   ·
    have hj : j = mw.length := by simp at hb2; omega
    subst hj
    rw [take_all] at hred
    refine zX (zV (zV (zH (zT ?_))))
    have hfin := red_end2 hku hm0 hred (hum mw.length (Nat.le_refl _)) (hum (mw.length + 1) (by omega)) (by have := num_lt hb3; rwa [hk3] at this)
    rw [hS] at hfin
    have hT2 := mont_lt hfin hT hxa hpb hk
    have htop := top_small (by simp [hku]) hT2 hNW
    refine zS ?_
    refine yM ?_
    refine yM ?_
    refine yP (pSub (b := 1)) ?_
    refine yM ?_
    refine yM ?_
    refine yP pJ ?_
    refine yL 0 ?_
    refine yM ?_
    refine yP ((add64 (c := 0) rfl rfl (by decide)).mono (v' := .tuple #[vi .u64 ((u.getD mw.length 0 + c) % 18446744073709551616), vi .u64 ((u.getD mw.length 0 + c) / 18446744073709551616)]) rfl) ?_
    refine yM ?_
    refine yP pX ?_
    refine yP pX ?_
    refine yP pJ ?_
    refine yS (vi .u64) ?_
    refine yA ?_
    refine zN (zR ?_)
    refine yM ?_
    refine yM ?_
    refine yM ?_
    refine yM ?_
    refine yP (pAdd (b := 1)) ?_
    refine yP pJ ?_
    refine AWo.loadM tbok 0 rfl rfl rfl (by (simp; omega)) rfl rfl ?_
    refine yM ?_
    refine yP ((PureOp.addU 18446744073709551616 rfl rfl rfl rfl).mono (v' := vi .u64 (u.getD (mw.length + 1) 0 + (u.getD mw.length 0 + c) / 18446744073709551616)) (by rw [getD_set (by omega), Nat.mod_eq_of_lt (Nat.lt_of_lt_of_le htop (by decide))])) ?_
    refine yP pJ ?_
    refine AWo.storeM (f := (vi .u64)) (y := u.getD (mw.length + 1) 0 + (u.getD mw.length 0 + c) / 18446744073709551616) tbok rfl rfl rfl rfl (by simp; omega) rfl rfl ?_
    refine zN (zL (zT (zR ?_)))
    refine yP (pAdd (b := 1)) ?_
    refine yM ?_
    refine zN (zT ?_)
    exact ⟨mw.length - (i + 1), [], _, by omega, wk [0, 1, 2, 3, 4, 25000], i + 1, (u.set (mw.length - 1) ((u.getD mw.length 0 + c) % 18446744073709551616)).set mw.length (u.getD (mw.length + 1) 0 + (u.getD mw.length 0 + c) / 18446744073709551616), ⟨by omega, by simp [hku], bd_set (bd_set hbu (Nat.mod_lt _ (by decide))) (Nat.lt_of_lt_of_le htop (by decide)), hT2, by rw [num_take_succ a i]; exact mont_mod hfin hTm⟩, rfl, rfl⟩
 ·
  have hi : i = mw.length := by simp at hb0; omega
  subst hi
  refine zX (zV (zV (zH (zT ?_))))
  have hT4 : num 18446744073709551616 (l.take mw.length) + l.getD mw.length 0 * 18446744073709551616 ^ mw.length = num 18446744073709551616 (l.take (mw.length + 1)) := (num_take_succ _ _).symm
  have hres : (num 18446744073709551616 (l.take mw.length) + l.getD mw.length 0 * 18446744073709551616 ^ mw.length) % num 18446744073709551616 mw = r := by
   rw [hT4]
   refine mont_uniq (R := 18446744073709551616 ^ mw.length) hcop (Nat.mod_lt _ hN) hr ?_
   rw [Nat.mod_mul_mod, hTm, h, ← hla, take_all]
  refine AW.seqD mixed ?_
  refine yM ?_
  refine yM ?_
  refine yM ?_
  refine AWo.sliceS tbok rfl .none (.some rfl) rfl rfl rfl rfl (by omega) (by omega) (.inl rfl) rfl rfl rfl ?_
  refine yM ?_
  refine yM ?_
  refine yP pJ ?_
  refine yL 0 ?_
  refine yC (less_ctr (a := l.take mw.length) (c := l.getD mw.length 0) ⟨hbm, hm0, hml, hN⟩ (bd_take hbl _) (by rw [List.length_take]; omega) (by rw [hT4]; exact hT)) bd179 [(0, 0), (1, 0), (2, 0), (25000, 0)] [151000] ?_ (hfit := (.whole rfl rfl (OkL.all rfl) (by intro h; exact h) (.flat rfl (flatM flat_vi) (by intro h; exact h) (.flat rfl (flatM flat_vi) (by intro h; exact h) (fitPre rfl (by rw [List.length_map, List.length_take, ← List.map_take, Nat.min_eq_left (by omega)]) (flatM flat_vi) (by simp; omega) .nil)))))
  refine yA ?_
  refine zD (zE ?_)
  rw [hres]
  refine RetQ.gc [_] [151000] [.tmp 6] (.inl rfl) rfl (.tmp rfl .nil) rfl (.cons rfl rfl .nil) (OutL.whole rfl rfl (OkL.all rfl) (by intro h; exact h.elim id fun h => absurd h.1 (by simp)) (OutL.flat rfl (flatM flat_vi) (by intro h; exact h.elim id fun h => absurd h.1 (by simp)) (OutL.flat rfl (flatM flat_vi) (by intro h; exact h.elim id fun h => absurd h.1 (by simp)) (OutL.flat rfl (by exact flatM flat_vi) (by intro h; exact h.elim id fun h => absurd h.1 (by simp)) (OutL.flat rfl (by exact flatM flat_vi) (by intro h; exact h.elim id fun h => absurd h.1 (by simp)) (OutL.flat rfl (by exact flatM flat_vi) (by intro h; rfl) trivial)))))) (by decide) rfl
end Go.Proofs.YtlfadlfjjkppfaaGreatDoor
namespace Go.Proofs.YtlfadlfjjkppfaaGreatDoor
open Go Sim
theorem dnum {mw : List Nat} (hM : MwOk mw) {v : Nat} : num 18446744073709551616 (digs 18446744073709551616 mw.length (v % num 18446744073709551616 mw)) = v % num 18446744073709551616 mw := num_digs_lt (Nat.lt_trans (Nat.mod_lt _ hM.2.2.2) (num_lt hM.1))
theorem sh_in (a w N : Nat) : a * w % N * w % N = a % N * (w * w % N) % N := by
 rw [Nat.mod_mul_mod, Nat.mod_mul_mod, Nat.mul_mod_mod, Nat.mul_assoc]
theorem sh_sq (x y w N : Nat) : x * y * w % N * w % N = x * w % N * (y * w % N) % N := by
 rw [Nat.mod_mul_mod, ← Nat.mul_mod]
 congr 1
 grind
theorem one_digs {mw : List Nat} (hb : bd 18446744073709551616 mw) (h0 : 0 < mw.length) (h1 : 1 < num 18446744073709551616 mw) : (List.replicate mw.length 0).set 0 1 = digs 18446744073709551616 mw.length (1 % num 18446744073709551616 mw) := by
 rw [Nat.mod_eq_of_lt h1]
 refine num_inj (bd_set (bd_replicate (by decide) _) (by decide)) (digs_bd (by decide) _ _) (by simp [digs_len]) ?_
 have := num_set (B := 18446744073709551616) (l := List.replicate mw.length 0) (k := 0) (v := 1) (by simpa using h0)
 rw [rep_getD, num_replicate] at this
 rw [num_digs_lt (Nat.lt_trans h1 (num_lt hb))]
 simpa using this
theorem pow_odd {a b r : Nat} (h : b / 2 ^ r % 2 = 1) : a ^ (b / 2 ^ r) = a ^ (b / 2 ^ (r + 1)) * a ^ (b / 2 ^ (r + 1)) * a := by
 have e : b / 2 ^ r = b / 2 ^ (r + 1) + b / 2 ^ (r + 1) + 1 := by
  rw [Nat.pow_succ, ← Nat.div_div_eq_div_mul]; omega
 conv => lhs; rw [e]
 rw [Nat.pow_succ, Nat.pow_add]
theorem pow_even {a b r : Nat} (h : ¬ b / 2 ^ r % 2 = 1) : a ^ (b / 2 ^ r) = a ^ (b / 2 ^ (r + 1)) * a ^ (b / 2 ^ (r + 1)) := by
 have e : b / 2 ^ r = b / 2 ^ (r + 1) + b / 2 ^ (r + 1) := by
  rw [Nat.pow_succ, ← Nat.div_div_eq_div_mul]; omega
 conv => lhs; rw [e]
 rw [Nat.pow_add]
theorem exp_init {a b n N w : Nat} (h : b / 2 ^ blen b = 0) : digs 18446744073709551616 n (a ^ (b / 2 ^ blen b) * w % N) = digs 18446744073709551616 n (1 * w % N) := by rw [h, Nat.pow_zero]
set_option maxRecDepth 10000 in
theorem mexp_ctr {mw a b : List Nat} {iv : Nat} (hM : MwOk mw) (ha : bd 18446744073709551616 a) (hb : bd 18446744073709551616 b) (hla : a.length ≤ 1000) (hlb : b.length ≤ 1000) (hiv : (num 18446744073709551616 mw * iv + 1) % 18446744073709551616 = 0) (hN1 : 1 < num 18446744073709551616 mw) : GC Tryz.prog 149 [.pointer (some ⟨0, 0, none⟩), .slice (some ⟨3, 0, none⟩) a.length 0, .slice (some ⟨4, 0, none⟩) b.length 0] [⟨[.slice (some ⟨1, 0, none⟩) mw.length 0, vi .u64 iv, .slice (some ⟨2, 0, none⟩) mw.length 0], false, 1⟩, ⟨(mw).map (vi .u64), false, 1⟩, ⟨(digs 18446744073709551616 mw.length (18446744073709551616 ^ mw.length * 18446744073709551616 ^ mw.length % num 18446744073709551616 mw)).map (vi .u64), false, 1⟩, ⟨a.map (vi .u64), false, 1⟩, ⟨b.map (vi .u64), false, 1⟩] [.slice (some ⟨5, 0, none⟩) mw.length 0] [⟨[.slice (some ⟨1, 0, none⟩) mw.length 0, vi .u64 iv, .slice (some ⟨2, 0, none⟩) mw.length 0], false, 1⟩, ⟨(mw).map (vi .u64), false, 1⟩, ⟨(digs 18446744073709551616 mw.length (18446744073709551616 ^ mw.length * 18446744073709551616 ^ mw.length % num 18446744073709551616 mw)).map (vi .u64), false, 1⟩, ⟨a.map (vi .u64), false, 1⟩, ⟨b.map (vi .u64), false, 1⟩, ⟨(digs 18446744073709551616 mw.length (num 18446744073709551616 a ^ num 18446744073709551616 b % num 18446744073709551616 mw)).map (vi .u64), true, 1⟩] := by
 refine gi Tryz.func149 ?_
 have hM0 := hM
 obtain ⟨hbm, hm0, hml, hN⟩ := hM
 have hB := num_lt_blen (num 18446744073709551616 b)
 have hbw := blen_words hb
 have h1N : 1 % num 18446744073709551616 mw = 1 := Nat.mod_eq_of_lt hN1
 refine zS ?_
 refine yA ?_
 refine zN (zS ?_)
 refine yM ?_
 refine yP (PureOp.nilCheck rfl) ?_
 refine yP pF ?_
 refine yL1 ?_
 refine yP pL ?_
 refine AWo.makeI tbok 17000 rfl rfl rfl rfl rfl rfl (by omega) (by omega) rfl rfl rfl ?_
 refine yA ?_
 refine zN (zS ?_)
 refine yM ?_
 refine yP (pJ (j := 0)) ?_
 refine AWo.storeM (f := (vi .u64)) (y := 1) tbok rfl rfl rfl rfl (by simp; omega) rfl rfl ?_
 refine zN ?_
 rw [show (List.replicate mw.length 0).set 0 1 = digs 18446744073709551616 mw.length (1 % num 18446744073709551616 mw) from one_digs hbm hm0 hN1]
 refine AW.seqD mixed ?_
 refine yM ?_
 refine yM ?_
 refine yM ?_
 refine AWo.callX (reduce_ctr (a := a) ⟨hbm, hm0, hml, hN⟩ ha hla) bd151 [(0, 0), (1, 0), (2, 0), (3, 0)] [23000] rfl (.cons rfl (.cons rfl .nil)) rfl (.cons rfl rfl (.cons rfl rfl .nil)) (.whole rfl rfl (OkL.all rfl) (by intro h; exact h) (.flat rfl (flatM flat_vi) (by intro h; exact h) (.flat rfl (flatM flat_vi) (by intro h; exact h) (.flat rfl (by exact flatM flat_vi) (by intro h; exact h) .nil)))) rfl (.keep rfl (.keep rfl (.keep rfl (.keep rfl (.new (flat_map_ren (by exact flatM flat_vi)) (OkL.flat (by exact flatM flat_vi)) .nil))))) (frC rfl frN) (by decide) (.cons rfl rfl .nil) rfl rfl rfl rfl ?_
 refine yM ?_
 refine yP (PureOp.nilCheck rfl) ?_
 refine yP pF ?_
 refine yL1 ?_
 refine AWo.callX (shrink_ctr (a := digs 18446744073709551616 mw.length (num 18446744073709551616 a % num 18446744073709551616 mw)) (b := digs 18446744073709551616 mw.length (18446744073709551616 ^ mw.length * 18446744073709551616 ^ mw.length % num 18446744073709551616 mw)) (r := num 18446744073709551616 a * 18446744073709551616 ^ mw.length % num 18446744073709551616 mw) ⟨hbm, hm0, hml, hN⟩ (digs_bd (by decide) _ _) (digs_bd (by decide) _ _) (digs_len _ _) (digs_len _ _) (by rw [dnum hM0]; exact Nat.mod_lt _ hN) hiv (Nat.mod_lt _ hN) (by rw [dnum hM0, dnum hM0]; exact sh_in _ _ _)) bd169 [(0, 0), (1, 0), (2, 0), (23000, 0), (2, 0)] [28000] rfl (.cons rfl (.cons rfl (.cons rfl .nil))) rfl (.cons rfl rfl (.cons rfl rfl (.cons rfl rfl .nil))) (.whole rfl rfl (OkL.all rfl) (by intro h; exact h) (.flat rfl (flatM flat_vi) (by intro h; exact h) (.flat rfl (flatM flat_vi) (by intro h; exact h) (.flat rfl (by exact flatM flat_vi) (by intro h; rfl) (.flat rfl (by exact flatM flat_vi) (by intro h; exact h) .nil))))) rfl (.keep rfl (.keep rfl (.keep rfl (.keep rfl (.keep rfl (.new (flat_map_ren (by exact flatM flat_vi)) (OkL.flat (by exact flatM flat_vi)) .nil)))))) (frC rfl frN) (by decide) (.cons rfl rfl .nil) rfl rfl rfl rfl ?_
 refine yM ?_
 refine yM ?_
 refine yM ?_
 refine yP (PureOp.nilCheck rfl) ?_
 refine yP pF ?_
 refine yL1 ?_
 refine AWo.callX (shrink_ctr (a := digs 18446744073709551616 mw.length (1 % num 18446744073709551616 mw)) (b := digs 18446744073709551616 mw.length (18446744073709551616 ^ mw.length * 18446744073709551616 ^ mw.length % num 18446744073709551616 mw)) (r := 1 * 18446744073709551616 ^ mw.length % num 18446744073709551616 mw) ⟨hbm, hm0, hml, hN⟩ (digs_bd (by decide) _ _) (digs_bd (by decide) _ _) (digs_len _ _) (digs_len _ _) (by rw [dnum hM0]; exact Nat.mod_lt _ hN) hiv (Nat.mod_lt _ hN) (by rw [dnum hM0, dnum hM0]; exact sh_in _ _ _)) bd169 [(0, 0), (1, 0), (2, 0), (17000, 0), (2, 0)] [35000] rfl (.cons rfl (.cons rfl (.cons rfl .nil))) rfl (.cons rfl rfl (.cons rfl rfl (.cons rfl rfl .nil))) (.whole rfl rfl (OkL.all rfl) (by intro h; exact h) (.flat rfl (flatM flat_vi) (by intro h; exact h) (.flat rfl (flatM flat_vi) (by intro h; exact h) (.flat rfl (by exact flatM flat_vi) (by intro h; rfl) (.flat rfl (by exact flatM flat_vi) (by intro h; exact h) .nil))))) rfl (.keep rfl (.keep rfl (.keep rfl (.keep rfl (.keep rfl (.new (flat_map_ren (by exact flatM flat_vi)) (OkL.flat (by exact flatM flat_vi)) .nil)))))) (frC rfl frN) (by decide) (.cons rfl rfl .nil) rfl rfl rfl rfl ?_
 refine yA ?_
 refine yA ?_
 refine zD (zQ (zS ?_))
 refine yM ?_
 refine yC (lbits_ctr hb (by omega)) bd170 [(4, 0)] [] ?_
 refine yP ((PureOp.subP rfl rfl (by omega)).mono (v' := vp (blen (num 18446744073709551616 b))) (by rfl)) ?_
 refine yA ?_
 refine zN (zB ?_)
 refine AW.loopw (fun mm σ => ∃ r, (r ≤ blen (num 18446744073709551616 b)) ∧ mm = 1 * r ∧ σ = ⟨(upd (upd (upd (upd (upd (upd emp 0 (.pointer (some ⟨0, 0, none⟩))) 2 (.slice (some ⟨4, 0, none⟩) b.length 0)) 7 (.slice (some ⟨17000, 0, none⟩) mw.length 0)) 8 (.slice (some ⟨28000, 0, none⟩) mw.length 0)) 9 (.slice (some ⟨77000, 0, none⟩) mw.length 0)) 10 (vp r)), (upd (upd (upd (upd (upd (upd (upd (upd emp 0 ⟨[.slice (some ⟨1, 0, none⟩) mw.length 0, vi .u64 iv, .slice (some ⟨2, 0, none⟩) mw.length 0], false, 1⟩) 1 ⟨mw.map (vi .u64), false, 1⟩) 2 ⟨(digs 18446744073709551616 mw.length (18446744073709551616 ^ mw.length * 18446744073709551616 ^ mw.length % num 18446744073709551616 mw)).map (vi .u64), false, 1⟩) 3 ⟨a.map (vi .u64), false, 1⟩) 4 ⟨b.map (vi .u64), false, 1⟩) 17000 ⟨(digs 18446744073709551616 mw.length (1 % num 18446744073709551616 mw)).map (vi .u64), true, 1⟩) 28000 ⟨(digs 18446744073709551616 mw.length (num 18446744073709551616 a * 18446744073709551616 ^ mw.length % num 18446744073709551616 mw)).map (vi .u64), true, 1⟩) 77000 ⟨(digs 18446744073709551616 mw.length (num 18446744073709551616 a ^ (num 18446744073709551616 b / 2 ^ r) * 18446744073709551616 ^ mw.length % num 18446744073709551616 mw)).map (vi .u64), true, 1⟩)⟩) (fm := [(77000, 35000)]) ?_ ⟨blen (num 18446744073709551616 b), Nat.le_refl _, rfl, rfl⟩ ?_
 ·
  refine Wk.of [0, 1, 2, 3, 4, 17000, 28000, 77000] ?_ ?_ ?_ (by decide) rfl
  ·
   refine WkE.upd rfl (by exact VR.flat _ rfl) ?_
   refine WkE.upd rfl (.slice (77000) 0 _ 0 ⟨_, rfl⟩ (by simp) (by simp)) ?_
   refine WkE.upd rfl (.slice (28000) 0 _ 0 ⟨_, rfl⟩ (by simp) (by simp)) ?_
   refine WkE.upd rfl (.slice (17000) 0 _ 0 ⟨_, rfl⟩ (by simp) (by simp)) ?_
   refine WkE.upd rfl (.slice (4) 0 _ 0 ⟨_, rfl⟩ (by simp) (by simp)) ?_
   refine WkE.upd rfl (.ptr (0) 0 ⟨_, rfl⟩) ?_
   exact WkE.emp
  ·
   refine WkM.flatM rfl (by exact exp_init hB) flat_vi (fun h => h) ?_
   refine WkM.flatM rfl (by rfl) (fun _ => rfl) (fun h => h) ?_
   refine WkM.flatM rfl (by rfl) (fun _ => rfl) (fun h => h) ?_
   refine WkM.flatM rfl (by rfl) (fun _ => rfl) (fun h => h) ?_
   refine WkM.flatM rfl (by rfl) (fun _ => rfl) (fun h => h) ?_
   refine WkM.flatM rfl (by rfl) (fun _ => rfl) (fun h => h) ?_
   refine WkM.flatM rfl (by rfl) (fun _ => rfl) (fun h => h) ?_
   refine WkM.ren [1, 2] rfl rfl rfl (dom_all rfl) (fun h => h) ?_
   exact WkM.emp
  ·
   repeat (refine dom_upd_mem (by decide) ?_)
   exact dom_emp
 ·
  rintro mm σ ⟨r, hr, rfl, rfl⟩
  refine zQ (zS ?_)
  refine yM ?_
  refine yP (PureOp.geP rfl rfl) ?_
  refine zN ?_
  refine zA (fun hb0 => ?_) (fun hb0 => ?_)
  ·
   have hp0 : 0 < r := by simpa using hb0
   obtain ⟨r, rfl⟩ : ∃ q, r = q + 1 := ⟨r - 1, by omega⟩
   rw [vp_succ]
   have hal := bit_len hb (show r < blen (num 18446744073709551616 b) by omega)
   refine zK (zT (zQ (zB (zS ?_))))
   refine yM ?_
   refine yM ?_
   refine yM ?_
   refine AWo.callX (shrink_ctr (a := digs 18446744073709551616 mw.length (num 18446744073709551616 a ^ (num 18446744073709551616 b / 2 ^ (r + 1)) * 18446744073709551616 ^ mw.length % num 18446744073709551616 mw)) (b := digs 18446744073709551616 mw.length (num 18446744073709551616 a ^ (num 18446744073709551616 b / 2 ^ (r + 1)) * 18446744073709551616 ^ mw.length % num 18446744073709551616 mw)) (r := (num 18446744073709551616 a ^ (num 18446744073709551616 b / 2 ^ (r + 1)) * num 18446744073709551616 a ^ (num 18446744073709551616 b / 2 ^ (r + 1))) * 18446744073709551616 ^ mw.length % num 18446744073709551616 mw) ⟨hbm, hm0, hml, hN⟩ (digs_bd (by decide) _ _) (digs_bd (by decide) _ _) (digs_len _ _) (digs_len _ _) (by rw [dnum hM0]; exact Nat.mod_lt _ hN) hiv (Nat.mod_lt _ hN) (by rw [dnum hM0]; exact sh_sq _ _ _ _)) bd169 [(0, 0), (1, 0), (2, 0), (77000, 0), (77000, 0)] [46000] rfl (.cons rfl (.cons rfl (.cons rfl .nil))) rfl (.cons rfl rfl (.cons rfl rfl (.cons rfl rfl .nil))) (.whole rfl rfl (OkL.all rfl) (by intro h; exact h) (.flat rfl (flatM flat_vi) (by intro h; exact h) (.flat rfl (flatM flat_vi) (by intro h; exact h) (.flat rfl (by exact flatM flat_vi) (by intro h; rfl) (.flat rfl (by exact flatM flat_vi) (by intro h; rfl) .nil))))) rfl (.keep rfl (.keep rfl (.keep rfl (.keep rfl (.keep rfl (.new (flat_map_ren (by exact flatM flat_vi)) (OkL.flat (by exact flatM flat_vi)) .nil)))))) (frC rfl frN) (by decide) (.cons rfl rfl .nil) rfl rfl rfl rfl ?_
   refine yA ?_
   refine zN (zS ?_)
   refine yM ?_
   refine yM ?_
   refine yP ((PureOp.quoN (b := 64) 9223372036854775808 rfl rfl (by decide) (by decide) (by decide) (by omega)).mono (v' := vi .i64 (r / 64)) rfl) ?_
   refine yP pJ ?_
   refine yL 0 ?_
   refine yM ?_
   refine yP ((PureOp.remN (b := 64) rfl rfl (by decide)).mono (v' := vi .i64 (r % 64)) rfl) ?_
   refine yP (PureOp.shrN (b := r % 64) 64 rfl rfl rfl (by omega)) ?_
   refine yP ((PureOp.andN 18446744073709551616 rfl rfl (by decide) (by decide) (Nat.lt_of_le_of_lt (Nat.div_le_self _ _) (bd_getD hb (by decide) _)) (by decide)).mono (v' := vi .u64 (num 18446744073709551616 b / 2 ^ r % 2)) (congrArg (vi .u64) ((Nat.and_one_is_mod _).trans (bit64_at hb r)))) ?_
   refine yP (pEq (b := 1)) ?_
   refine zN ?_
   refine zA (fun hb1 => ?_) (fun hb1 => ?_)
   ·
    have hbit : num 18446744073709551616 b / 2 ^ r % 2 = 1 := by simpa using hb1
    refine zR ?_
    refine yM ?_
    refine yM ?_
    refine yM ?_
    refine AWo.callX (shrink_ctr (a := digs 18446744073709551616 mw.length ((num 18446744073709551616 a ^ (num 18446744073709551616 b / 2 ^ (r + 1)) * num 18446744073709551616 a ^ (num 18446744073709551616 b / 2 ^ (r + 1))) * 18446744073709551616 ^ mw.length % num 18446744073709551616 mw)) (b := digs 18446744073709551616 mw.length (num 18446744073709551616 a * 18446744073709551616 ^ mw.length % num 18446744073709551616 mw)) (r := ((num 18446744073709551616 a ^ (num 18446744073709551616 b / 2 ^ (r + 1)) * num 18446744073709551616 a ^ (num 18446744073709551616 b / 2 ^ (r + 1))) * num 18446744073709551616 a) * 18446744073709551616 ^ mw.length % num 18446744073709551616 mw) ⟨hbm, hm0, hml, hN⟩ (digs_bd (by decide) _ _) (digs_bd (by decide) _ _) (digs_len _ _) (digs_len _ _) (by rw [dnum hM0]; exact Nat.mod_lt _ hN) hiv (Nat.mod_lt _ hN) (by rw [dnum hM0, dnum hM0]; exact sh_sq _ _ _ _)) bd169 [(0, 0), (1, 0), (2, 0), (46000, 0), (28000, 0)] [60000] rfl (.cons rfl (.cons rfl (.cons rfl .nil))) rfl (.cons rfl rfl (.cons rfl rfl (.cons rfl rfl .nil))) (.whole rfl rfl (OkL.all rfl) (by intro h; exact h) (.flat rfl (flatM flat_vi) (by intro h; exact h) (.flat rfl (flatM flat_vi) (by intro h; exact h) (.flat rfl (by exact flatM flat_vi) (by intro h; rfl) (.flat rfl (by exact flatM flat_vi) (by intro h; rfl) .nil))))) rfl (.keep rfl (.keep rfl (.keep rfl (.keep rfl (.keep rfl (.new (flat_map_ren (by exact flatM flat_vi)) (OkL.flat (by exact flatM flat_vi)) .nil)))))) (frC rfl frN) (by decide) (.cons rfl rfl .nil) rfl rfl rfl rfl ?_
    refine yA ?_
    refine zN (zL (zT (zR ?_)))
    refine yM ?_
    refine yP (PureOp.subP rfl rfl (by omega)) ?_
    refine yA ?_
    refine zN (zT ?_)
    refine ⟨1 * r, [(77000, 60000)], _, by omega, ?_, r, by omega, rfl, rfl⟩
    refine Wk.of [0, 1, 2, 3, 4, 17000, 28000, 77000] ?_ ?_ ?_ (by decide) rfl
    ·
     refine WkE.upd rfl (by exact VR.flat _ rfl) ?_
     refine WkE.upd rfl (.slice (77000) 0 _ 0 ⟨_, rfl⟩ (by simp) (by simp)) ?_
     refine WkE.upd rfl (.slice (28000) 0 _ 0 ⟨_, rfl⟩ (by simp) (by simp)) ?_
     refine WkE.upd rfl (.slice (17000) 0 _ 0 ⟨_, rfl⟩ (by simp) (by simp)) ?_
     refine WkE.upd rfl (.slice (4) 0 _ 0 ⟨_, rfl⟩ (by simp) (by simp)) ?_
     refine WkE.upd rfl (.ptr (0) 0 ⟨_, rfl⟩) ?_
     exact WkE.emp
    ·
     refine WkM.flatM rfl (by exact congrArg (fun z => digs 18446744073709551616 mw.length (z * 18446744073709551616 ^ mw.length % num 18446744073709551616 mw)) (pow_odd hbit)) flat_vi (fun h => h) ?_
     refine WkM.flatM rfl (by rfl) (fun _ => rfl) (fun h => h) ?_
     refine WkM.flatM rfl (by rfl) (fun _ => rfl) (fun h => h) ?_
     refine WkM.flatM rfl (by rfl) (fun _ => rfl) (fun h => h) ?_
     refine WkM.flatM rfl (by rfl) (fun _ => rfl) (fun h => h) ?_
     refine WkM.flatM rfl (by rfl) (fun _ => rfl) (fun h => h) ?_
     refine WkM.flatM rfl (by rfl) (fun _ => rfl) (fun h => h) ?_
     refine WkM.ren [1, 2] rfl rfl rfl (dom_all rfl) (fun h => h) ?_
     exact WkM.emp
    ·
     repeat (refine dom_upd_mem (by decide) ?_)
     exact dom_emp
   ·
    have hbit : ¬ num 18446744073709551616 b / 2 ^ r % 2 = 1 := by simpa using hb1
    refine zK (zL (zT (zR ?_)))
    refine yM ?_
    refine yP (PureOp.subP rfl rfl (by omega)) ?_
    refine yA ?_
    refine zN (zT ?_)
    refine ⟨1 * r, [(77000, 46000)], _, by omega, ?_, r, by omega, rfl, rfl⟩
    refine Wk.of [0, 1, 2, 3, 4, 17000, 28000, 77000] ?_ ?_ ?_ (by decide) rfl
    ·
     refine WkE.upd rfl (by exact VR.flat _ rfl) ?_
     refine WkE.upd rfl (.slice (77000) 0 _ 0 ⟨_, rfl⟩ (by simp) (by simp)) ?_
     refine WkE.upd rfl (.slice (28000) 0 _ 0 ⟨_, rfl⟩ (by simp) (by simp)) ?_
     refine WkE.upd rfl (.slice (17000) 0 _ 0 ⟨_, rfl⟩ (by simp) (by simp)) ?_
     refine WkE.upd rfl (.slice (4) 0 _ 0 ⟨_, rfl⟩ (by simp) (by simp)) ?_
     refine WkE.upd rfl (.ptr (0) 0 ⟨_, rfl⟩) ?_
     exact WkE.emp
    ·
     refine WkM.flatM rfl (by exact congrArg (fun z => digs 18446744073709551616 mw.length (z * 18446744073709551616 ^ mw.length % num 18446744073709551616 mw)) (pow_even hbit)) flat_vi (fun h => h) ?_
     refine WkM.flatM rfl (by rfl) (fun _ => rfl) (fun h => h) ?_
     refine WkM.flatM rfl (by rfl) (fun _ => rfl) (fun h => h) ?_
     refine WkM.flatM rfl (by rfl) (fun _ => rfl) (fun h => h) ?_
     refine WkM.flatM rfl (by rfl) (fun _ => rfl) (fun h => h) ?_
     refine WkM.flatM rfl (by rfl) (fun _ => rfl) (fun h => h) ?_
     refine WkM.flatM rfl (by rfl) (fun _ => rfl) (fun h => h) ?_
     refine WkM.ren [1, 2] rfl rfl rfl (dom_all rfl) (fun h => h) ?_
     exact WkM.emp
    ·
     repeat (refine dom_upd_mem (by decide) ?_)
     exact dom_emp
  ·
   obtain rfl : r = 0 := by simpa using hb0
   refine zX (zV (zV (zH (zT ?_))))
   rw [Nat.pow_zero, Nat.div_one]
   refine zS ?_
   refine yM ?_
   refine yM ?_
   refine yM ?_
   refine AWo.callX (shrink_ctr (a := digs 18446744073709551616 mw.length (num 18446744073709551616 a ^ num 18446744073709551616 b * 18446744073709551616 ^ mw.length % num 18446744073709551616 mw)) (b := digs 18446744073709551616 mw.length (1 % num 18446744073709551616 mw)) (r := num 18446744073709551616 a ^ num 18446744073709551616 b % num 18446744073709551616 mw) ⟨hbm, hm0, hml, hN⟩ (digs_bd (by decide) _ _) (digs_bd (by decide) _ _) (digs_len _ _) (digs_len _ _) (by rw [dnum hM0]; exact Nat.mod_lt _ hN) hiv (Nat.mod_lt _ hN) (by rw [dnum hM0, dnum hM0, h1N, Nat.mul_one, Nat.mod_mod, Nat.mod_mul_mod])) bd169 [(0, 0), (1, 0), (2, 0), (77000, 0), (17000, 0)] [64000] rfl (.cons rfl (.cons rfl (.cons rfl .nil))) rfl (.cons rfl rfl (.cons rfl rfl (.cons rfl rfl .nil))) (.whole rfl rfl (OkL.all rfl) (by intro h; exact h) (.flat rfl (flatM flat_vi) (by intro h; exact h) (.flat rfl (flatM flat_vi) (by intro h; exact h) (.flat rfl (by exact flatM flat_vi) (by intro h; rfl) (.flat rfl (by exact flatM flat_vi) (by intro h; rfl) .nil))))) rfl (.keep rfl (.keep rfl (.keep rfl (.keep rfl (.keep rfl (.new (flat_map_ren (by exact flatM flat_vi)) (OkL.flat (by exact flatM flat_vi)) .nil)))))) (frC rfl frN) (by decide) (.cons rfl rfl .nil) rfl rfl rfl rfl ?_
   refine yA ?_
   refine zN (zE ?_)
   refine RetQ.gc [_] [64000] [.tmp 6] (.inl rfl) rfl (.tmp rfl .nil) rfl (.cons rfl rfl .nil) (OutL.whole rfl rfl (OkL.all rfl) (by intro h; exact h.elim id fun h => absurd h.1 (by simp)) (OutL.flat rfl (flatM flat_vi) (by intro h; exact h.elim id fun h => absurd h.1 (by simp)) (OutL.flat rfl (flatM flat_vi) (by intro h; exact h.elim id fun h => absurd h.1 (by simp)) (OutL.flat rfl (by exact flatM flat_vi) (by intro h; exact h.elim id fun h => absurd h.1 (by simp)) (OutL.flat rfl (by exact flatM flat_vi) (by intro h; exact h.elim id fun h => absurd h.1 (by simp)) (OutL.flat rfl (by exact flatM flat_vi) (by intro h; rfl) trivial)))))) (by decide) rfl
end Go.Proofs.YtlfadlfjjkppfaaGreatDoor
namespace Go.Proofs.YtlfadlfjjkppfaaGreatDoor
open Go Sim
def ninv (m : Nat) : Nat → Nat
 | 0 => 1
 | i + 1 => ninv m i * ((2 + (18446744073709551616 - m * ninv m i % 18446744073709551616)) % 18446744073709551616) % 18446744073709551616
def ninvR (m : Nat) : Nat := (18446744073709551616 - ninv m 6) % 18446744073709551616
theorem ninv_lt (m i : Nat) : ninv m i < 18446744073709551616 := by
 cases i with
 | zero => show 1 < 18446744073709551616; decide
 | succ i => exact Nat.mod_lt _ (by decide)
theorem cast3 {a b c d : Nat} (h : a * b + c = d) : (a : Int) * b + c = d := by rw [← Int.natCast_mul, ← Int.natCast_add, h]
theorem ninv_step (m x : Nat) : ∃ k : Int, ((x * ((2 + (18446744073709551616 - m * x % 18446744073709551616)) % 18446744073709551616) % 18446744073709551616 : Nat) : Int) = x * (2 - m * x) + 18446744073709551616 * k := by
 have h1 := Nat.div_add_mod (x * ((2 + (18446744073709551616 - m * x % 18446744073709551616)) % 18446744073709551616)) 18446744073709551616
 have h2 := Nat.div_add_mod (2 + (18446744073709551616 - m * x % 18446744073709551616)) 18446744073709551616
 have h3 := Nat.div_add_mod (m * x) 18446744073709551616
 have h4 := Nat.mod_lt (m * x) (show 0 < 18446744073709551616 by decide)
 generalize x * ((2 + (18446744073709551616 - m * x % 18446744073709551616)) % 18446744073709551616) % 18446744073709551616 = x' at *
 generalize x * ((2 + (18446744073709551616 - m * x % 18446744073709551616)) % 18446744073709551616) / 18446744073709551616 = q1 at *
 generalize (2 + (18446744073709551616 - m * x % 18446744073709551616)) % 18446744073709551616 = t at *
 generalize (2 + (18446744073709551616 - m * x % 18446744073709551616)) / 18446744073709551616 = q2 at *
 generalize m * x % 18446744073709551616 = r at *
 generalize m * x / 18446744073709551616 = q3 at *
 refine ⟨x * (q3 + 1 - q2) - q1, ?_⟩
 have e1 : (18446744073709551616 * q1 + x' : Int) = x * t := (cast3 h1).trans (Int.natCast_mul _ _)
 have e2 : (18446744073709551616 * q2 + t : Int) = 2 + (18446744073709551616 - r) := by omega
 have e3 : (18446744073709551616 * q3 + r : Int) = m * x := (cast3 h3).trans (Int.natCast_mul _ _)
 grind
theorem ninv_ok {m : Nat} (h : m % 2 = 1) : ∀ k, k ≤ 6 → ∃ z : Int, (m : Int) * ninv m k = 1 + (2 : Int) ^ (2 ^ k) * z := by
 intro k
 induction k with
 | zero =>
  intro _
  refine ⟨((m / 2 : Nat) : Int), ?_⟩
  simp only [ninv]
  omega
 | succ k ih =>
  intro hk
  obtain ⟨z, hz⟩ := ih (by omega)
  obtain ⟨j, hj⟩ := ninv_step m (ninv m k)
  have e : (ninv m (k + 1) : Int) = ninv m k * (2 - m * ninv m k) + 18446744073709551616 * j := hj
  have hd : ∃ d : Int, (18446744073709551616 : Int) = (2 : Int) ^ (2 ^ (k + 1)) * d := by
   refine ⟨(2 : Int) ^ (64 - 2 ^ (k + 1)), ?_⟩
   have h6 : 2 ^ (k + 1) ≤ 64 := by
    have : 2 ^ (k + 1) ≤ 2 ^ 6 := Nat.pow_le_pow_right (by decide) hk
    omega
   rw [← Int.pow_add, show 2 ^ (k + 1) + (64 - 2 ^ (k + 1)) = 64 by omega]
   rfl
  obtain ⟨d, hd⟩ := hd
  have hs : (2 : Int) ^ (2 ^ (k + 1)) = (2 : Int) ^ (2 ^ k) * (2 : Int) ^ (2 ^ k) := by rw [← Int.pow_add]; congr 1; omega
  refine ⟨m * d * j - z * z, ?_⟩
  rw [e, hd, hs]
  generalize (2 : Int) ^ (2 ^ k) = p at *
  generalize (ninv m k : Int) = x at *
  grind
theorem ninvR_ok {l : List Nat} (hb : bd 18446744073709551616 l) (h : l.getD 0 0 % 2 = 1) : (num 18446744073709551616 l * ninvR (l.getD 0 0) + 1) % 18446744073709551616 = 0 := by
  obtain ⟨z, hz⟩ := ninv_ok h 6 (Nat.le_refl _)
  have hx := ninv_lt (l.getD 0 0) 6
  have hm : l.getD 0 0 = num 18446744073709551616 l % 18446744073709551616 := by rw [num_getD hb (by decide)]; simp
  have h3 := Nat.div_add_mod (num 18446744073709551616 l) 18446744073709551616
  rw [← hm] at h3
  have hx0 : 0 < ninv (l.getD 0 0) 6 := by
    rcases Nat.eq_zero_or_pos (ninv (l.getD 0 0) 6) with h0 | h0
    · rw [h0] at hz
      have : (2 : Int) ^ (2 ^ 6) = 18446744073709551616 := by decide
      rw [this] at hz
      omega
    · exact h0
  have e : ninvR (l.getD 0 0) = 18446744073709551616 - ninv (l.getD 0 0) 6 := by rw [ninvR, Nat.mod_eq_of_lt (by omega)]
  rw [e]
  generalize ninv (l.getD 0 0) 6 = x at *
  generalize l.getD 0 0 = m at *
  generalize num 18446744073709551616 l = N at *
  generalize N / 18446744073709551616 = q at *
  have e2 : (2 : Int) ^ (2 ^ 6) = 18446744073709551616 := by decide
  rw [e2] at hz
  have e4 : ((N * (18446744073709551616 - x) + 1 : Nat) : Int) = 18446744073709551616 * ((N : Int) - q * x - z) := by
    have h5 : ((18446744073709551616 - x : Nat) : Int) = 18446744073709551616 - x := by omega
    have h6 : (N : Int) = 18446744073709551616 * q + m := (cast3 h3).symm
    rw [Int.natCast_add, Int.natCast_mul, h5]
    grind
  omega
theorem right_gt {l : List Nat} (hb : bd 18446744073709551616 l) (h1 : 1 ≤ l.length) (ht : l.getD (l.length - 1) 0 ≠ 0) (hn : ¬ (l.length = 1 ∧ l.getD 0 0 = 1)) : 1 < num 18446744073709551616 l := by
  obtain ⟨x, r, rfl⟩ : ∃ x r, l = x :: r := by cases l with
    | nil => simp at h1
    | cons x r => exact ⟨x, r, rfl⟩
  cases r with
  | nil => simp [num] at *; omega
  | cons y s =>
    have h2 : (x :: y :: s).getD ((x :: y :: s).length - 1) 0 = num 18446744073709551616 (x :: y :: s) / 18446744073709551616 ^ ((x :: y :: s).length - 1) % 18446744073709551616 := num_getD hb (by decide) _
    rw [h2] at ht
    rcases Nat.lt_or_ge 1 (num 18446744073709551616 (x :: y :: s)) with h | h
    · exact h
    · exfalso
      apply ht
      rw [Nat.div_eq_of_lt, Nat.zero_mod]
      refine Nat.lt_of_le_of_lt h ?_
      have : 18446744073709551616 ^ 1 ≤ 18446744073709551616 ^ ((x :: y :: s).length - 1) := Nat.pow_le_pow_right (by decide) (by simp)
      omega
theorem two_next {mw : List Nat} {i : Nat} (hM : MwOk mw) : digs 18446744073709551616 mw.length (2 ^ (i + 1) % num 18446744073709551616 mw) = digs 18446744073709551616 mw.length ((2 * num 18446744073709551616 (digs 18446744073709551616 mw.length (2 ^ i % num 18446744073709551616 mw)) + 0) % num 18446744073709551616 mw) := by
 rw [dnum hM]
 show _ = digs 18446744073709551616 mw.length (2 * (2 ^ i % num 18446744073709551616 mw) % num 18446744073709551616 mw)
 rw [Nat.mul_mod_mod, Nat.pow_succ, Nat.mul_comm]
theorem two_pow {n : Nat} : 2 ^ (128 * n) = 18446744073709551616 ^ n * 18446744073709551616 ^ n := by
 rw [show (18446744073709551616 : Nat) = 2 ^ 64 from by decide, ← Nat.pow_mul, ← Nat.pow_add]
 congr 1
 omega
set_option maxRecDepth 10000 in
theorem lnew_ctr {mw : List Nat} (hbm : bd 18446744073709551616 mw) (h1 : 1 ≤ mw.length) (h16 : mw.length ≤ 16) (hodd : mw.getD 0 0 % 2 = 1) (htop : mw.getD (mw.length - 1) 0 ≠ 0) (hnot : ¬ (mw.length = 1 ∧ mw.getD 0 0 = 1)) : GC Tryz.prog 162 [.slice (some ⟨0, 0, none⟩) mw.length 0] [⟨mw.map (vi .u64), false, 1⟩] [.pointer (some ⟨1, 0, none⟩), .int .i64 0] [⟨mw.map (vi .u64), false, 1⟩, ⟨[.slice (some ⟨2, 0, none⟩) mw.length 0, vi .u64 (ninvR (mw.getD 0 0)), .slice (some ⟨3, 0, none⟩) mw.length 0], true, 1⟩, ⟨(mw).map (vi .u64), true, 1⟩, ⟨(digs 18446744073709551616 mw.length (18446744073709551616 ^ mw.length * 18446744073709551616 ^ mw.length % num 18446744073709551616 mw)).map (vi .u64), true, 1⟩] := by
 refine gi Tryz.func162 ?_
 have hm0 : 0 < mw.length := h1
 have hx0 := bd_getD hbm (by decide) 0
 have hml : mw.length ≤ 1000 := by omega
 have hN1 := right_gt hbm h1 htop hnot
 have hN : 0 < num 18446744073709551616 mw := by omega
 refine zS ?_
 refine yA ?_
 refine yA ?_
 refine zN (zQ (zS ?_))
 refine yM ?_
 refine yP pL ?_
 refine yP ((PureOp.ltN (b := 1) rfl rfl).mono (v' := .bool false) (congrArg Value.bool (decide_eq_false (by omega)))) ?_
 refine yM ?_
 refine yM ?_
 refine yP pL ?_
 refine yP ((PureOp.gtN (b := 16) rfl rfl).mono (v' := .bool false) (congrArg Value.bool (decide_eq_false (by omega)))) ?_
 refine yP pE ?_
 refine yM ?_
 refine yM ?_
 refine yP (pJ (j := 0)) ?_
 refine yL 0 ?_
 refine yP ((PureOp.andN 18446744073709551616 rfl rfl (by decide) (by decide) hx0 (by decide)).mono (v' := vi .u64 (mw.getD 0 0 % 2)) (congrArg (vi .u64) (Nat.and_one_is_mod _))) ?_
 refine yP ((PureOp.eqN (b := 0) rfl rfl).mono (v' := .bool false) (by rw [hodd]; rfl)) ?_
 refine yP pE ?_
 refine yM ?_
 refine yM ?_
 refine yM ?_
 refine yP pL ?_
 refine yP (pSub (b := 1)) ?_
 refine yP pJ ?_
 refine yL 0 ?_
 refine yP ((PureOp.eqN (b := 0) rfl rfl).mono (v' := .bool false) (congrArg Value.bool (beq_eq_false_iff_ne.2 htop))) ?_
 refine yP pE ?_
 refine yM ?_
 refine yM ?_
 refine yP pL ?_
 refine yB (pEq (b := 1)) (fun hb0 => ?_) (fun hb0 => ?_)
 ·
  have hl1 : mw.length = 1 := by simpa using hb0
  refine yM ?_
  refine yM ?_
  refine yP (pJ (j := 0)) ?_
  refine yL 0 ?_
  refine yP ((PureOp.eqN (b := 1) rfl rfl).mono (v' := .bool false) (congrArg Value.bool (beq_eq_false_iff_ne.2 (fun e => hnot ⟨by assumption, e⟩)))) ?_
  refine yP pT ?_
  refine yP pE ?_
  refine zN (zF (zK (zT (zS ?_))))
  refine yM ?_
  refine yC (clone_ctr (by omega) (by omega)) bd168 [(0, 0)] [43000] ?_
  refine yP ((PureOp.buildStruct [(0, .slice (some ⟨43000, 0, none⟩) mw.length 0)] pl279.choose_spec.1 zr279 (by decide) pl279.choose_spec.2 rfl rfl).mono (v' := .agg #[.slice (some ⟨43000, 0, none⟩) mw.length 0, vi .u64 0, .slice none 0 0]) rfl) ?_
  refine AWo.box 45000 1 [.slice (some ⟨43000, 0, none⟩) mw.length 0, vi .u64 0, .slice none 0 0] rfl rfl rfl rfl rfl ?_
  refine yA ?_
  refine zN (zS ?_)
  refine yA ?_
  refine zN (zQ (zS ?_))
  refine yM ?_
  refine zN (zB ?_)
  refine AW.loopw (fun mm σ => ∃ i, (i ≤ 6) ∧ mm = 6 - i ∧ σ = ⟨(upd (upd (upd (upd emp 0 (.slice (some ⟨0, 0, none⟩) mw.length 0)) 4 (.pointer (some ⟨45000, 0, none⟩))) 5 (vi .u64 (ninv (mw.getD 0 0) i))) 45 (vi .i64 i)), (upd (upd (upd emp 0 ⟨mw.map (vi .u64), false, 1⟩) 43000 ⟨mw.map (vi .u64), true, 1⟩) 45000 ⟨[.slice (some ⟨43000, 0, none⟩) mw.length 0, vi .u64 0, .slice none 0 0], true, 1⟩)⟩) (fm := []) (wk [0, 43000, 45000]) ⟨0, by decide, rfl, rfl⟩ ?_
  rintro mm σ ⟨i, hinv, rfl, rfl⟩
  have hnv := ninv_lt (mw.getD 0 0) i
  refine zS ?_
  refine yP (pLt (b := 6)) ?_
  refine zN (zQ ?_)
  refine zA (fun hb1 => ?_) (fun hb1 => ?_)
  ·
   have hi : i < 6 := by simpa using hb1
   refine zK (zT (zQ (zB (zR ?_))))
   refine yM ?_
   refine yM ?_
   refine yP (pJ (j := 0)) ?_
   refine yL 0 ?_
   refine yM ?_
   refine yP (PureOp.mulU 18446744073709551616 rfl rfl rfl rfl) ?_
   refine yP ((PureOp.subU (a := 2) 18446744073709551616 rfl rfl rfl rfl (by omega)).mono (v' := vi .u64 ((2 + (18446744073709551616 - mw.getD 0 0 * ninv (mw.getD 0 0) i % 18446744073709551616)) % 18446744073709551616)) rfl) ?_
   refine yP (PureOp.mulU 18446744073709551616 rfl rfl rfl rfl) ?_
   refine yA ?_
   refine zN (zL (zT (zR ?_)))
   refine yP (pAdd (b := 1)) ?_
   refine yM ?_
   refine zN (zT ?_)
   exact ⟨6 - (i + 1), [], _, by omega, wk [0, 43000, 45000], i + 1, by omega, rfl, rfl⟩
  ·
   obtain rfl : i = 6 := by simp at hb1; omega
   have hnv := ninv_lt (mw.getD 0 0) 6
   refine zX (zV (zV (zH (zT (zS ?_)))))
   refine yM ?_
   refine yM ?_
   first | refine AWo.pure ((PureOp.negU 18446744073709551616 rfl rfl rfl (by omega)).mono (v' := vi .u64 (ninvR (mw.getD 0 0))) rfl) rfl rfl ?_
   refine yP (PureOp.nilCheck rfl) ?_
   refine yP pF ?_
   refine AWo.store1 tbok rfl rfl rfl rfl rfl (by simp) rfl rfl ?_
   refine zN (zS ?_)
   refine yM ?_
   refine yM ?_
   refine yP pL ?_
   refine AWo.makeI tbok 65000 rfl rfl rfl rfl rfl rfl (by omega) (by omega) rfl rfl rfl ?_
   refine yP (PureOp.nilCheck rfl) ?_
   refine yP pF ?_
   refine AWo.store1 tbok rfl rfl rfl rfl rfl (by simp) rfl rfl ?_
   refine zN (zS ?_)
   refine yM ?_
   refine yP (PureOp.nilCheck rfl) ?_
   refine yP pF ?_
   refine yL1 ?_
   refine yP (pJ (j := 0)) ?_
   refine AWo.storeM (f := (vi .u64)) (y := 1) tbok rfl rfl rfl rfl (by simp; omega) rfl rfl ?_
   refine zN (zQ ?_)
   rw [show (List.replicate mw.length 0).set 0 1 = digs 18446744073709551616 mw.length (2 ^ 0 % num 18446744073709551616 mw) from one_digs hbm (by omega) hN1]
   refine zS ?_
   refine yM ?_
   refine yP pL ?_
   refine yP (PureOp.mulI (a := 128) rfl rfl (by omega)) ?_
   refine yM ?_
   refine zN (zB ?_)
   refine AW.loopw (fun mm σ => ∃ i, (i ≤ 128 * mw.length) ∧ mm = 128 * mw.length - i ∧ σ = ⟨(upd (upd (upd (upd emp 0 (.slice (some ⟨0, 0, none⟩) mw.length 0)) 4 (.pointer (some ⟨45000, 0, none⟩))) 74 (vi .i64 (128 * mw.length))) 75 (vi .i64 i)), (upd (upd (upd (upd emp 0 ⟨mw.map (vi .u64), false, 1⟩) 43000 ⟨mw.map (vi .u64), true, 1⟩) 45000 ⟨[.slice (some ⟨43000, 0, none⟩) mw.length 0, vi .u64 (ninvR (mw.getD 0 0)), .slice (some ⟨77000, 0, none⟩) mw.length 0], true, 1⟩) 77000 ⟨(digs 18446744073709551616 mw.length (2 ^ i % num 18446744073709551616 mw)).map (vi .u64), true, 1⟩)⟩) (fm := [(77000, 65000)]) (wk [0, 43000, 45000, 77000]) ⟨0, Nat.zero_le _, rfl, rfl⟩ ?_
   rintro mm σ ⟨i, hinv, rfl, rfl⟩
   refine zS ?_
   refine yP pLt ?_
   refine zN (zQ ?_)
   refine zA (fun hb2 => ?_) (fun hb2 => ?_)
   ·
    have hi : i < 128 * mw.length := by simpa using hb2
    refine zK (zT (zQ (zB (zR ?_))))
    refine yM ?_
    refine yM ?_
    refine yM ?_
    refine yP (PureOp.nilCheck rfl) ?_
    refine yP pF ?_
    refine yL1 ?_
    refine yC (twice_ctr (a := digs 18446744073709551616 mw.length (2 ^ i % num 18446744073709551616 mw)) (c := 0) ⟨hbm, hm0, hml, hN⟩ (digs_bd (by decide) _ _) (digs_len _ _) (by rw [dnum ⟨hbm, hm0, hml, hN⟩]; exact Nat.mod_lt _ hN) (by decide)) bd171 [(45000, 0), (43000, 0), (77000, 0), (77000, 0)] [84000] ?_
    refine yP (PureOp.nilCheck rfl) ?_
    refine yP pF ?_
    refine AWo.store1 tbok rfl rfl rfl rfl rfl (by simp) rfl rfl ?_
    refine zN (zL (zT (zR ?_)))
    refine yP (pAdd (b := 1)) ?_
    refine yM ?_
    refine zN (zT ?_)
    refine ⟨128 * mw.length - (i + 1), [(77000, 84000)], _, by omega, ?_, i + 1, by omega, rfl, rfl⟩
    refine Wk.of [0, 43000, 45000, 77000] ?_ ?_ ?_ (by decide) rfl
    ·
     refine WkE.upd rfl (by exact VR.flat _ rfl) ?_
     refine WkE.upd rfl (by exact VR.flat _ rfl) ?_
     refine WkE.upd rfl (.ptr (45000) 0 ⟨_, rfl⟩) ?_
     refine WkE.upd rfl (.slice (0) 0 _ 0 ⟨_, rfl⟩ (by simp) (by simp)) ?_
     exact WkE.emp
    ·
     refine WkM.flatM rfl (by exact two_next ⟨hbm, hm0, hml, hN⟩) flat_vi (fun h => h) ?_
     refine WkM.ren [43000, 77000] rfl rfl rfl (dom_all rfl) (fun h => h) ?_
     refine WkM.flatM rfl (by rfl) (fun _ => rfl) (fun h => h) ?_
     refine WkM.flatM rfl (by rfl) (fun _ => rfl) (fun h => h) ?_
     exact WkM.emp
    ·
     repeat (refine dom_upd_mem (by decide) ?_)
     exact dom_emp
   ·
    have hi : i = 128 * mw.length := by simp at hb2; omega
    rw [show digs 18446744073709551616 mw.length (2 ^ i % num 18446744073709551616 mw) = digs 18446744073709551616 mw.length (18446744073709551616 ^ mw.length * 18446744073709551616 ^ mw.length % num 18446744073709551616 mw) from by rw [hi, two_pow]]
    refine zX (zV (zV (zH (zT (zS ?_)))))
    refine yM ?_
    refine yA ?_
    refine yA ?_
    refine zN (zE ?_)
    exact rq [45000, 43000, 77000] [.tmp 2, .tmp 3]
 ·
  refine yM ?_
  refine yK ?_
  refine yK ?_
  refine yK ?_
  refine yK ?_
  refine yP pE ?_
  refine yP pE ?_
  refine zN (zF (zK (zT (zS ?_))))
  refine yM ?_
  refine yC (clone_ctr (by omega) (by omega)) bd168 [(0, 0)] [43000] ?_
  refine yP ((PureOp.buildStruct [(0, .slice (some ⟨43000, 0, none⟩) mw.length 0)] pl279.choose_spec.1 zr279 (by decide) pl279.choose_spec.2 rfl rfl).mono (v' := .agg #[.slice (some ⟨43000, 0, none⟩) mw.length 0, vi .u64 0, .slice none 0 0]) rfl) ?_
  refine AWo.box 45000 1 [.slice (some ⟨43000, 0, none⟩) mw.length 0, vi .u64 0, .slice none 0 0] rfl rfl rfl rfl rfl ?_
  refine yA ?_
  refine zN (zS ?_)
  refine yA ?_
  refine zN (zQ (zS ?_))
  refine yM ?_
  refine zN (zB ?_)
  refine AW.loopw (fun mm σ => ∃ i, (i ≤ 6) ∧ mm = 6 - i ∧ σ = ⟨(upd (upd (upd (upd emp 0 (.slice (some ⟨0, 0, none⟩) mw.length 0)) 4 (.pointer (some ⟨45000, 0, none⟩))) 5 (vi .u64 (ninv (mw.getD 0 0) i))) 45 (vi .i64 i)), (upd (upd (upd emp 0 ⟨mw.map (vi .u64), false, 1⟩) 43000 ⟨mw.map (vi .u64), true, 1⟩) 45000 ⟨[.slice (some ⟨43000, 0, none⟩) mw.length 0, vi .u64 0, .slice none 0 0], true, 1⟩)⟩) (fm := []) (wk [0, 43000, 45000]) ⟨0, by decide, rfl, rfl⟩ ?_
  rintro mm σ ⟨i, hinv, rfl, rfl⟩
  have hnv := ninv_lt (mw.getD 0 0) i
  refine zS ?_
  refine yP (pLt (b := 6)) ?_
  refine zN (zQ ?_)
  refine zA (fun hb3 => ?_) (fun hb3 => ?_)
  ·
   have hi : i < 6 := by simpa using hb3
   refine zK (zT (zQ (zB (zR ?_))))
   refine yM ?_
   refine yM ?_
   refine yP (pJ (j := 0)) ?_
   refine yL 0 ?_
   refine yM ?_
   refine yP (PureOp.mulU 18446744073709551616 rfl rfl rfl rfl) ?_
   refine yP ((PureOp.subU (a := 2) 18446744073709551616 rfl rfl rfl rfl (by omega)).mono (v' := vi .u64 ((2 + (18446744073709551616 - mw.getD 0 0 * ninv (mw.getD 0 0) i % 18446744073709551616)) % 18446744073709551616)) rfl) ?_
   refine yP (PureOp.mulU 18446744073709551616 rfl rfl rfl rfl) ?_
   refine yA ?_
   refine zN (zL (zT (zR ?_)))
   refine yP (pAdd (b := 1)) ?_
   refine yM ?_
   refine zN (zT ?_)
   exact ⟨6 - (i + 1), [], _, by omega, wk [0, 43000, 45000], i + 1, by omega, rfl, rfl⟩
  ·
   obtain rfl : i = 6 := by simp at hb3; omega
   have hnv := ninv_lt (mw.getD 0 0) 6
   refine zX (zV (zV (zH (zT (zS ?_)))))
   refine yM ?_
   refine yM ?_
   first | refine AWo.pure ((PureOp.negU 18446744073709551616 rfl rfl rfl (by omega)).mono (v' := vi .u64 (ninvR (mw.getD 0 0))) rfl) rfl rfl ?_
   refine yP (PureOp.nilCheck rfl) ?_
   refine yP pF ?_
   refine AWo.store1 tbok rfl rfl rfl rfl rfl (by simp) rfl rfl ?_
   refine zN (zS ?_)
   refine yM ?_
   refine yM ?_
   refine yP pL ?_
   refine AWo.makeI tbok 65000 rfl rfl rfl rfl rfl rfl (by omega) (by omega) rfl rfl rfl ?_
   refine yP (PureOp.nilCheck rfl) ?_
   refine yP pF ?_
   refine AWo.store1 tbok rfl rfl rfl rfl rfl (by simp) rfl rfl ?_
   refine zN (zS ?_)
   refine yM ?_
   refine yP (PureOp.nilCheck rfl) ?_
   refine yP pF ?_
   refine yL1 ?_
   refine yP (pJ (j := 0)) ?_
   refine AWo.storeM (f := (vi .u64)) (y := 1) tbok rfl rfl rfl rfl (by simp; omega) rfl rfl ?_
   refine zN (zQ ?_)
   rw [show (List.replicate mw.length 0).set 0 1 = digs 18446744073709551616 mw.length (2 ^ 0 % num 18446744073709551616 mw) from one_digs hbm (by omega) hN1]
   refine zS ?_
   refine yM ?_
   refine yP pL ?_
   refine yP (PureOp.mulI (a := 128) rfl rfl (by omega)) ?_
   refine yM ?_
   refine zN (zB ?_)
   refine AW.loopw (fun mm σ => ∃ i, (i ≤ 128 * mw.length) ∧ mm = 128 * mw.length - i ∧ σ = ⟨(upd (upd (upd (upd emp 0 (.slice (some ⟨0, 0, none⟩) mw.length 0)) 4 (.pointer (some ⟨45000, 0, none⟩))) 74 (vi .i64 (128 * mw.length))) 75 (vi .i64 i)), (upd (upd (upd (upd emp 0 ⟨mw.map (vi .u64), false, 1⟩) 43000 ⟨mw.map (vi .u64), true, 1⟩) 45000 ⟨[.slice (some ⟨43000, 0, none⟩) mw.length 0, vi .u64 (ninvR (mw.getD 0 0)), .slice (some ⟨77000, 0, none⟩) mw.length 0], true, 1⟩) 77000 ⟨(digs 18446744073709551616 mw.length (2 ^ i % num 18446744073709551616 mw)).map (vi .u64), true, 1⟩)⟩) (fm := [(77000, 65000)]) (wk [0, 43000, 45000, 77000]) ⟨0, Nat.zero_le _, rfl, rfl⟩ ?_
   rintro mm σ ⟨i, hinv, rfl, rfl⟩
   refine zS ?_
   refine yP pLt ?_
   refine zN (zQ ?_)
   refine zA (fun hb4 => ?_) (fun hb4 => ?_)
   ·
    have hi : i < 128 * mw.length := by simpa using hb4
    refine zK (zT (zQ (zB (zR ?_))))
    refine yM ?_
    refine yM ?_
    refine yM ?_
    refine yP (PureOp.nilCheck rfl) ?_
    refine yP pF ?_
    refine yL1 ?_
    refine yC (twice_ctr (a := digs 18446744073709551616 mw.length (2 ^ i % num 18446744073709551616 mw)) (c := 0) ⟨hbm, hm0, hml, hN⟩ (digs_bd (by decide) _ _) (digs_len _ _) (by rw [dnum ⟨hbm, hm0, hml, hN⟩]; exact Nat.mod_lt _ hN) (by decide)) bd171 [(45000, 0), (43000, 0), (77000, 0), (77000, 0)] [84000] ?_
    refine yP (PureOp.nilCheck rfl) ?_
    refine yP pF ?_
    refine AWo.store1 tbok rfl rfl rfl rfl rfl (by simp) rfl rfl ?_
    refine zN (zL (zT (zR ?_)))
    refine yP (pAdd (b := 1)) ?_
    refine yM ?_
    refine zN (zT ?_)
    refine ⟨128 * mw.length - (i + 1), [(77000, 84000)], _, by omega, ?_, i + 1, by omega, rfl, rfl⟩
    refine Wk.of [0, 43000, 45000, 77000] ?_ ?_ ?_ (by decide) rfl
    ·
     refine WkE.upd rfl (by exact VR.flat _ rfl) ?_
     refine WkE.upd rfl (by exact VR.flat _ rfl) ?_
     refine WkE.upd rfl (.ptr (45000) 0 ⟨_, rfl⟩) ?_
     refine WkE.upd rfl (.slice (0) 0 _ 0 ⟨_, rfl⟩ (by simp) (by simp)) ?_
     exact WkE.emp
    ·
     refine WkM.flatM rfl (by exact two_next ⟨hbm, hm0, hml, hN⟩) flat_vi (fun h => h) ?_
     refine WkM.ren [43000, 77000] rfl rfl rfl (dom_all rfl) (fun h => h) ?_
     refine WkM.flatM rfl (by rfl) (fun _ => rfl) (fun h => h) ?_
     refine WkM.flatM rfl (by rfl) (fun _ => rfl) (fun h => h) ?_
     exact WkM.emp
    ·
     repeat (refine dom_upd_mem (by decide) ?_)
     exact dom_emp
   ·
    have hi : i = 128 * mw.length := by simp at hb4; omega
    rw [show digs 18446744073709551616 mw.length (2 ^ i % num 18446744073709551616 mw) = digs 18446744073709551616 mw.length (18446744073709551616 ^ mw.length * 18446744073709551616 ^ mw.length % num 18446744073709551616 mw) from by rw [hi, two_pow]]
    refine zX (zV (zV (zH (zT (zS ?_)))))
    refine yM ?_
    refine yA ?_
    refine yA ?_
    refine zN (zE ?_)
    exact rq [45000, 43000, 77000] [.tmp 2, .tmp 3]
set_option maxRecDepth 10000 in
theorem mwords_ctr {mw sq : List Nat} {iv ns : Nat} (h0 : 0 < mw.length) (hl : mw.length ≤ 1000) : GC Tryz.prog 147 [.pointer (some ⟨0, 0, none⟩)] [⟨[.slice (some ⟨1, 0, none⟩) mw.length 0, vi .u64 iv, .slice (some ⟨2, 0, none⟩) ns 0], false, 1⟩, ⟨(mw).map (vi .u64), false, 1⟩, ⟨(sq).map (vi .u64), false, 1⟩] [.slice (some ⟨3, 0, none⟩) mw.length 0] [⟨[.slice (some ⟨1, 0, none⟩) mw.length 0, vi .u64 iv, .slice (some ⟨2, 0, none⟩) ns 0], false, 1⟩, ⟨(mw).map (vi .u64), false, 1⟩, ⟨(sq).map (vi .u64), false, 1⟩, ⟨mw.map (vi .u64), true, 1⟩] := by
 refine gi Tryz.func147 ?_
 refine zS ?_
 refine yA ?_
 refine zN (zS ?_)
 refine yM ?_
 refine yP (PureOp.nilCheck rfl) ?_
 refine yP pF ?_
 refine yL1 ?_
 refine yC (clone_ctr h0 (by omega)) bd168 [(1, 0)] [8000] ?_
 refine yA ?_
 refine zN (zE ?_)
 refine RetQ.gc [_] [8000] [.tmp 2] (.inl rfl) rfl (.tmp rfl .nil) rfl (.cons rfl rfl .nil) (OutL.whole rfl rfl (OkL.all rfl) (by intro h; exact h.elim id fun h => absurd h.1 (by simp)) (OutL.flat rfl (flatM flat_vi) (by intro h; exact h.elim id fun h => absurd h.1 (by simp)) (OutL.flat rfl (flatM flat_vi) (by intro h; exact h.elim id fun h => absurd h.1 (by simp)) (OutL.flat rfl (by exact flatM flat_vi) (by intro h; rfl) trivial)))) (by decide) rfl
end Go.Proofs.YtlfadlfjjkppfaaGreatDoor
namespace Go.Proofs.YtlfadlfjjkppfaaGreatDoor
open Go Sim
theorem lcmp_ctrV {a b : List Nat} {na xa nb xb : Nat} (hna : a.length = na) (hxa : num 18446744073709551616 a = xa) (hnb : b.length = nb) (hxb : num 18446744073709551616 b = xb) (ha : bd 18446744073709551616 a) (hb : bd 18446744073709551616 b) (hla : a.length < 100000000) (hlb : b.length < 100000000) : GC Tryz.prog 146 [.slice (some ⟨0, 0, none⟩) na 0, .slice (some ⟨1, 0, none⟩) nb 0] [⟨a.map (vi .u64), false, 1⟩, ⟨b.map (vi .u64), false, 1⟩] [.int .i64 (cmpI (xa) (xb))] [⟨a.map (vi .u64), false, 1⟩, ⟨b.map (vi .u64), false, 1⟩] := by
 subst hna hxa; subst hnb hxb
 exact lcmp_ctr ha hb hla hlb
end Go.Proofs.YtlfadlfjjkppfaaGreatDoor
namespace Go.Proofs.YtlfadlfjjkppfaaGreatDoor
open Go Sim
def pinv : Nat → Nat
 | 0 => 1
 | i + 1 => pinv i * ((2 + (18446744073709551616 - 4891460686036598785 * pinv i % 18446744073709551616)) % 18446744073709551616) % 18446744073709551616
theorem pinv_lt (i : Nat) : pinv i < 18446744073709551616 := by
 cases i with
 | zero => decide
 | succ i => exact Nat.mod_lt _ (by decide)
theorem below_ge {a : List Nat} (_ : bd 18446744073709551616 a) (_ : a.length = 4) (h : 21888242871839275222246405745257275088548364400416034343698204186575808495617 ≤ num 18446744073709551616 a) (h2 : num 18446744073709551616 a < 2 * 21888242871839275222246405745257275088548364400416034343698204186575808495617) : digs 18446744073709551616 4 (num 18446744073709551616 a % 21888242871839275222246405745257275088548364400416034343698204186575808495617) = digs 18446744073709551616 4 (num 18446744073709551616 a + 18446744073709551616 ^ 4 - 21888242871839275222246405745257275088548364400416034343698204186575808495617) := by
 refine num_inj (digs_bd (by decide) _ _) (digs_bd (by decide) _ _) (by simp [digs_len]) ?_
 rw [num_digs, num_digs]
 omega
theorem below_lt {a : List Nat} (ha : bd 18446744073709551616 a) (hl : a.length = 4) (h : num 18446744073709551616 a < 21888242871839275222246405745257275088548364400416034343698204186575808495617) : digs 18446744073709551616 4 (num 18446744073709551616 a % 21888242871839275222246405745257275088548364400416034343698204186575808495617) = a := by
 rw [Nat.mod_eq_of_lt h, ← hl, digs_num ha]
set_option maxRecDepth 10000 in
theorem prime_ctr : GC Tryz.prog 136 [] [] [.agg ((digs 18446744073709551616 4 21888242871839275222246405745257275088548364400416034343698204186575808495617).map (vi .u64)).toArray] [] := by
 refine gi Tryz.func136 ?_
 refine zS ?_
 refine yN 1000 1 ((List.replicate 4 0).map (vi .u64)) ?_
 refine zN (zS ?_)
 refine yP ((PureOp.buildArr tbok [(0, .int .u64 4891460686036598785), (1, .int .u64 2896914383306846353), (2, .int .u64 13281191951274694749), (3, .int .u64 3486998266802970665)] rfl rfl rfl (by decide) rfl rfl).mono (v' := .agg ((digs 18446744073709551616 4 21888242871839275222246405745257275088548364400416034343698204186575808495617).map (vi .u64)).toArray) (by kernel_rfl)) ?_
 refine ySA ?_
 refine zN (zE ?_)
 exact rq [] [.cell 0 52]
set_option maxRecDepth 10000 in
theorem inverse_ctr : GC Tryz.prog 137 [] [] [vi .u64 (14042775128853446655)] [] := by
 refine gi Tryz.func137 ?_
 refine zS ?_
 refine yA ?_
 refine zN (zS ?_)
 refine yC (prime_ctr) bd136 [] [] ?_
 refine yP ((PureOp.idxVM (j := 0) tbok 0 rfl rfl rfl rfl rfl (by decide) (digs_len _ _)).mono (v' := vi .u64 4891460686036598785) (by kernel_rfl)) ?_
 refine yA ?_
 refine yA ?_
 refine zN (zQ (zS ?_))
 refine yM ?_
 refine zN (zB ?_)
 refine AW.loopw (fun mm σ => ∃ i, (i ≤ 6) ∧ mm = 6 - i ∧ σ = ⟨(upd (upd (upd emp 1 (vi .u64 4891460686036598785)) 2 (vi .u64 (pinv i))) 5 (vi .i64 i)), emp⟩) (fm := []) (wk []) ⟨0, by decide, rfl, rfl⟩ ?_
 rintro mm σ ⟨i, hinv, rfl, rfl⟩
 have hpv := pinv_lt i
 refine zS ?_
 refine yP (pLt (b := 6)) ?_
 refine zN (zQ ?_)
 refine zA (fun hb0 => ?_) (fun hb0 => ?_)
 ·
  have hi : i < 6 := by simpa using hb0
  refine zK (zT (zQ (zB (zR ?_))))
  refine yM ?_
  refine yM ?_
  refine yM ?_
  refine yP (PureOp.mulU 18446744073709551616 rfl rfl rfl rfl) ?_
  refine yP (PureOp.subU (a := 2) 18446744073709551616 rfl rfl rfl rfl (by omega)) ?_
  refine yP (PureOp.mulU 18446744073709551616 rfl rfl rfl rfl) ?_
  refine yA ?_
  refine zN (zL (zT (zR ?_)))
  refine yP (pAdd (b := 1)) ?_
  refine yM ?_
  refine zN (zT ?_)
  exact ⟨6 - (i + 1), [], _, by omega, wk [], i + 1, by omega, rfl, rfl⟩
 ·
  obtain rfl : i = 6 := by simp at hb0; omega
  refine zX (zV (zV (zH (zT (zS ?_)))))
  refine yM ?_
  first | refine AWo.pure ((PureOp.negU 18446744073709551616 rfl rfl rfl (by decide)).mono (v' := vi .u64 14042775128853446655) (by kernel_rfl)) rfl rfl ?_
  refine yA ?_
  refine zN (zE ?_)
  exact rq [] [.tmp 0]
set_option maxRecDepth 10000 in
theorem plus_ctr {a b : List Nat} (ha : bd 18446744073709551616 a) (hb : bd 18446744073709551616 b) (hla : a.length = 4) (hlb : b.length = 4) : GC Tryz.prog 175 [.agg ((a).map (vi .u64)).toArray, .agg ((b).map (vi .u64)).toArray] [] [.agg ((digs 18446744073709551616 4 (num 18446744073709551616 a + num 18446744073709551616 b)).map (vi .u64)).toArray] [] := by
 refine gi Tryz.func175 ?_
 have hpa := num_lt ha
 rw [hla] at hpa
 have hpb := num_lt hb
 rw [hlb] at hpb
 refine zS ?_
 refine yO 3000 1 (a.map (vi .u64)) ?_
 refine yO 4000 1 (b.map (vi .u64)) ?_
 refine yN 5000 1 ((List.replicate 4 0).map (vi .u64)) ?_
 refine zN (zS ?_)
 refine yA ?_
 refine zN (zQ (zS ?_))
 refine yM ?_
 refine zN (zB ?_)
 refine AW.loopw (fun mm σ => ∃ i, ∃ (l : List Nat), ∃ c, (i ≤ 4 ∧ l.length = 4 ∧ bd 18446744073709551616 l ∧ c ≤ 1 ∧ num 18446744073709551616 (l.take i) + 18446744073709551616 ^ i * c = num 18446744073709551616 a % 18446744073709551616 ^ i + num 18446744073709551616 b % 18446744073709551616 ^ i) ∧ mm = 4 - i ∧ σ = ⟨(upd (upd (upd (upd (upd emp 2 (.pointer (some ⟨3000, 0, none⟩))) 3 (.pointer (some ⟨4000, 0, none⟩))) 4 (.pointer (some ⟨5000, 0, none⟩))) 5 (vi .u64 c)) 7 (vi .i64 i)), (upd (upd (upd emp 3000 ⟨a.map (vi .u64), true, 1⟩) 4000 ⟨b.map (vi .u64), true, 1⟩) 5000 ⟨l.map (vi .u64), true, 1⟩)⟩) (fm := []) (wk [3000, 4000, 5000]) ⟨0, List.replicate 4 0, 0, ⟨Nat.zero_le _, by simp, bd_replicate (by decide) _, by omega, by simp [num, Nat.mod_one]⟩, rfl, rfl⟩ ?_
 rintro mm σ ⟨i, l, c, ⟨hi0, hl2, hbl, hc, hnl⟩, rfl, rfl⟩
 have hx := bd_getD ha (by decide) i
 have hy := bd_getD hb (by decide) i
 refine zS ?_
 refine yP (pLt (b := 4)) ?_
 refine zN (zQ ?_)
 refine zA (fun hb0 => ?_) (fun hb0 => ?_)
 ·
  have hi : i < 4 := by simpa using hb0
  refine zK (zT (zQ (zB (zS ?_))))
  refine yM ?_
  refine yA ?_
  refine zN ?_
  refine AW.draw mixed ?_
  refine yM ?_
  refine yM ?_
  refine yP pA ?_
  refine yL 0 ?_
  refine yM ?_
  refine yP pA ?_
  refine yL 0 ?_
  refine yM ?_
  refine yP (add64 rfl rfl (by omega)) ?_
  refine yM ?_
  refine yP pX ?_
  refine yP pX ?_
  refine yP pA ?_
  refine yS (vi .u64) ?_
  refine yA ?_
  refine zD (zL (zT (zR ?_)))
  refine yP (pAdd (b := 1)) ?_
  refine yM ?_
  refine zN (zT ?_)
  exact ⟨4 - (i + 1), [], _, by omega, wk [3000, 4000, 5000], i + 1, l.set i ((a.getD i 0 + b.getD i 0 + c) % 18446744073709551616), (a.getD i 0 + b.getD i 0 + c) / 18446744073709551616, ⟨by omega, by simp [hl2], bd_set hbl (Nat.mod_lt _ (by decide)), by omega, by rw [take_set_succ (by omega)]; exact add_step (by simp [hl2]; omega) hnl (num_getD ha (by decide) i) (num_getD hb (by decide) i)⟩, rfl, rfl⟩
 ·
  obtain rfl : i = 4 := by simp at hb0; omega
  obtain ⟨e1, e2⟩ := sumL_end (by decide) hbl hl2 hnl hpa hpb
  subst e1
  have hd4 := digs_len (B := 18446744073709551616) 4 (num 18446744073709551616 a + num 18446744073709551616 b)
  refine zX (zV (zV (zH (zT (zS ?_)))))
  refine yLA ?_
  refine ySA ?_
  refine zN (zE ?_)
  exact rq [] [.cell 4 52]
set_option maxRecDepth 10000 in
theorem borrow_ctr {a b : List Nat} (ha : bd 18446744073709551616 a) (hb : bd 18446744073709551616 b) (hla : a.length = 4) (hlb : b.length = 4) : GC Tryz.prog 164 [.agg ((a).map (vi .u64)).toArray, .agg ((b).map (vi .u64)).toArray] [] [.agg ((digs 18446744073709551616 4 (num 18446744073709551616 a + 18446744073709551616 ^ 4 - num 18446744073709551616 b)).map (vi .u64)).toArray, vi .u64 (if num 18446744073709551616 a < num 18446744073709551616 b then 1 else 0)] [] := by
 refine gi Tryz.func164 ?_
 have hpa := num_lt ha
 rw [hla] at hpa
 have hpb := num_lt hb
 rw [hlb] at hpb
 refine zS ?_
 refine yO 3000 1 (a.map (vi .u64)) ?_
 refine yO 4000 1 (b.map (vi .u64)) ?_
 refine yN 5000 1 ((List.replicate 4 0).map (vi .u64)) ?_
 refine yA ?_
 refine zN (zQ (zS ?_))
 refine yM ?_
 refine zN (zB ?_)
 refine AW.loopw (fun mm σ => ∃ i, ∃ (l : List Nat), ∃ c, (i ≤ 4 ∧ l.length = 4 ∧ bd 18446744073709551616 l ∧ c ≤ 1 ∧ num 18446744073709551616 (l.take i) + num 18446744073709551616 b % 18446744073709551616 ^ i = num 18446744073709551616 a % 18446744073709551616 ^ i + 18446744073709551616 ^ i * c) ∧ mm = 4 - i ∧ σ = ⟨(upd (upd (upd (upd (upd emp 2 (.pointer (some ⟨3000, 0, none⟩))) 3 (.pointer (some ⟨4000, 0, none⟩))) 4 (.pointer (some ⟨5000, 0, none⟩))) 5 (vi .u64 c)) 7 (vi .i64 i)), (upd (upd (upd emp 3000 ⟨a.map (vi .u64), true, 1⟩) 4000 ⟨b.map (vi .u64), true, 1⟩) 5000 ⟨l.map (vi .u64), true, 1⟩)⟩) (fm := []) (wk [3000, 4000, 5000]) ⟨0, List.replicate 4 0, 0, ⟨Nat.zero_le _, by simp, bd_replicate (by decide) _, by omega, by simp [num, Nat.mod_one]⟩, rfl, rfl⟩ ?_
 rintro mm σ ⟨i, l, c, ⟨hi0, hl2, hbl, hc, hnl⟩, rfl, rfl⟩
 have hx := bd_getD ha (by decide) i
 have hy := bd_getD hb (by decide) i
 refine zS ?_
 refine yP (pLt (b := 4)) ?_
 refine zN (zQ ?_)
 refine zA (fun hb0 => ?_) (fun hb0 => ?_)
 ·
  have hi : i < 4 := by simpa using hb0
  refine zK (zT (zQ (zB (zS ?_))))
  refine yM ?_
  refine yA ?_
  refine zN ?_
  refine AW.draw mixed ?_
  refine yM ?_
  refine yM ?_
  refine yP pA ?_
  refine yL 0 ?_
  refine yM ?_
  refine yP pA ?_
  refine yL 0 ?_
  refine yM ?_
  refine yP (sub64 rfl rfl (by omega)) ?_
  refine yM ?_
  refine yP pX ?_
  refine yP pX ?_
  refine yP pA ?_
  refine yS (vi .u64) ?_
  refine yA ?_
  refine zD (zL (zT (zR ?_)))
  refine yP (pAdd (b := 1)) ?_
  refine yM ?_
  refine zN (zT ?_)
  exact ⟨4 - (i + 1), [], _, by omega, wk [3000, 4000, 5000], i + 1, l.set i ((a.getD i 0 + 18446744073709551616 - b.getD i 0 - c) % 18446744073709551616), (if a.getD i 0 < b.getD i 0 + c then 1 else 0), ⟨by omega, by simp [hl2], bd_set hbl (Nat.mod_lt _ (by decide)), by split <;> omega, by rw [take_set_succ (by omega)]; exact dif_step (by simp [hl2]; omega) hnl (num_getD ha (by decide) i) (num_getD hb (by decide) i) hx hy hc⟩, rfl, rfl⟩
 ·
  obtain rfl : i = 4 := by simp at hb0; omega
  obtain ⟨e1, e2⟩ := difL_end (by decide) hbl hl2 hnl hpa hpb hc
  subst e1; subst e2
  have hd4 := digs_len (B := 18446744073709551616) 4 (num 18446744073709551616 a + 18446744073709551616 ^ 4 - num 18446744073709551616 b)
  refine zX (zV (zV (zH (zT (zS ?_)))))
  refine yLA ?_
  refine yM ?_
  refine ySA ?_
  refine yA ?_
  refine zN (zE ?_)
  exact rq [] [.cell 4 52, .tmp 5]
set_option maxRecDepth 10000 in
theorem below_ctr {a : List Nat} (ha : bd 18446744073709551616 a) (hla : a.length = 4) (hlt2 : num 18446744073709551616 a < 2 * 21888242871839275222246405745257275088548364400416034343698204186575808495617) : GC Tryz.prog 140 [.agg ((a).map (vi .u64)).toArray] [] [.agg ((digs 18446744073709551616 4 (num 18446744073709551616 a % 21888242871839275222246405745257275088548364400416034343698204186575808495617)).map (vi .u64)).toArray] [] := by
 refine gi Tryz.func140 ?_
 have hpa := num_lt ha
 rw [hla] at hpa
 have hnp : num 18446744073709551616 (digs 18446744073709551616 4 21888242871839275222246405745257275088548364400416034343698204186575808495617) = 21888242871839275222246405745257275088548364400416034343698204186575808495617 := num_digs_lt (by decide)
 have hbp := digs_bd (B := 18446744073709551616) (by decide) 4 21888242871839275222246405745257275088548364400416034343698204186575808495617
 have hlp := digs_len (B := 18446744073709551616) 4 21888242871839275222246405745257275088548364400416034343698204186575808495617
 have hd4 := digs_len (B := 18446744073709551616) 4 (num 18446744073709551616 a + 18446744073709551616 ^ 4 - 21888242871839275222246405745257275088548364400416034343698204186575808495617)
 refine zS ?_
 refine yO 2000 1 (a.map (vi .u64)) ?_
 refine yN 3000 1 ((List.replicate 4 0).map (vi .u64)) ?_
 refine zN (zQ ?_)
 refine AW.seqD mixed ?_
 refine yLA ?_
 refine yC (prime_ctr) bd136 [] [] ?_
 refine yC (borrow_ctr (b := digs 18446744073709551616 4 21888242871839275222246405745257275088548364400416034343698204186575808495617) ha hbp hla hlp) bd164 [] [] ?_
 refine yM ?_
 first | refine AWo.pure ((PureOp.extract rfl rfl).mono (v' := .agg ((digs 18446744073709551616 4 (num 18446744073709551616 a + 18446744073709551616 ^ 4 - 21888242871839275222246405745257275088548364400416034343698204186575808495617)).map (vi .u64)).toArray) (by rw [hnp]; rfl)) rfl rfl ?_
 first | refine AWo.pure ((PureOp.extract rfl rfl).mono (v' := vi .u64 (if num 18446744073709551616 a < 21888242871839275222246405745257275088548364400416034343698204186575808495617 then 1 else 0)) (by rw [hnp]; rfl)) rfl rfl ?_
 refine yN 4000 1 ((List.replicate 4 0).map (vi .u64)) ?_
 refine ySA ?_
 refine yA ?_
 refine zD (zS ?_)
 refine yM ?_
 refine yP (pEq (b := 0)) ?_
 refine zN ?_
 refine zA (fun hb0 => ?_) (fun hb0 => ?_)
 ·
  have hge : 21888242871839275222246405745257275088548364400416034343698204186575808495617 ≤ num 18446744073709551616 a := by
   rcases Nat.lt_or_ge (num 18446744073709551616 a) 21888242871839275222246405745257275088548364400416034343698204186575808495617 with h | h
   · rw [if_pos h] at hb0; simp at hb0
   · exact h
  refine zS ?_
  refine yLA ?_
  refine ySA ?_
  refine zN (zE (zU ?_))
  rw [below_ge ha hla hge hlt2]
  exact rq [] [.cell 2 52]
 ·
  have hlt : num 18446744073709551616 a < 21888242871839275222246405745257275088548364400416034343698204186575808495617 := by
   rcases Nat.lt_or_ge (num 18446744073709551616 a) 21888242871839275222246405745257275088548364400416034343698204186575808495617 with h | h
   · exact h
   · rw [if_neg (by omega)] at hb0; simp at hb0
  refine zK (zT (zS ?_))
  refine yLA ?_
  refine ySA ?_
  refine zN (zE ?_)
  rw [below_lt ha hla hlt]
  exact rq [] [.cell 2 52]
end Go.Proofs.YtlfadlfjjkppfaaGreatDoor
namespace Go.Proofs.YtlfadlfjjkppfaaGreatDoor
open Go Sim
theorem mont_init {l q : List Nat} {k : Nat} (hl : bd 18446744073709551616 l) (hq : bd 18446744073709551616 q) (hi : (num 18446744073709551616 q * 14042775128853446655 + 1) % 18446744073709551616 = 0) (hk : k = l.getD 0 0 * 14042775128853446655 % 18446744073709551616) :
  18446744073709551616 * num 18446744073709551616 (l.take (1 - 1)) + (l.getD 0 0 + k * q.getD 0 0 + 0) / 18446744073709551616 * 18446744073709551616 ^ 1 = num 18446744073709551616 l % 18446744073709551616 ^ 1 + k * num 18446744073709551616 (q.take 1) := by
 have e1 : l.getD 0 0 = num 18446744073709551616 l % 18446744073709551616 := by rw [num_getD hl (by decide)]; simp
 have e2 : q.getD 0 0 = num 18446744073709551616 q % 18446744073709551616 := by rw [num_getD hq (by decide)]; simp
 have e3 : num 18446744073709551616 (q.take 1) = num 18446744073709551616 q % 18446744073709551616 := by rw [num_take hq, Nat.pow_one]
 have h := mont_low (by decide) hi (t := num 18446744073709551616 l) (k := k) (by rw [hk, e1])
 rw [e3, e1, e2, Nat.pow_one, Nat.add_zero]
 have h2 := Nat.mod_add_div (num 18446744073709551616 l % 18446744073709551616 + k * (num 18446744073709551616 q % 18446744073709551616)) 18446744073709551616
 rw [h, Nat.zero_add] at h2
 simp only [Nat.sub_self, List.take_zero, num, Nat.mul_zero, Nat.zero_add]
 rw [Nat.mul_comm]
 exact h2
set_option maxRecDepth 10000 in
theorem product_ctr {a b : List Nat} {r : Nat} (ha : bd 18446744073709551616 a) (hb : bd 18446744073709551616 b) (hla : a.length = 4) (hlb : b.length = 4) (hpb : num 18446744073709551616 b < 21888242871839275222246405745257275088548364400416034343698204186575808495617) (hr : r < 21888242871839275222246405745257275088548364400416034343698204186575808495617) (h : r * 18446744073709551616 ^ 4 % 21888242871839275222246405745257275088548364400416034343698204186575808495617 = num 18446744073709551616 a * num 18446744073709551616 b % 21888242871839275222246405745257275088548364400416034343698204186575808495617) : GC Tryz.prog 107 [.agg ((a).map (vi .u64)).toArray, .agg ((b).map (vi .u64)).toArray] [] [.agg ((digs 18446744073709551616 4 r).map (vi .u64)).toArray] [] := by
 refine gi Tryz.func107 ?_
 have hbp := digs_bd (B := 18446744073709551616) (by decide) 4 21888242871839275222246405745257275088548364400416034343698204186575808495617
 have hlp := digs_len (B := 18446744073709551616) 4 21888242871839275222246405745257275088548364400416034343698204186575808495617
 have hnp : num 18446744073709551616 (digs 18446744073709551616 4 21888242871839275222246405745257275088548364400416034343698204186575808495617) = 21888242871839275222246405745257275088548364400416034343698204186575808495617 := num_digs_lt (by decide)
 have hd4 := digs_len (B := 18446744073709551616) 4 r
 have hq4 : (digs 18446744073709551616 4 21888242871839275222246405745257275088548364400416034343698204186575808495617).take 4 = digs 18446744073709551616 4 21888242871839275222246405745257275088548364400416034343698204186575808495617 := List.take_of_length_le (by rw [digs_len]; exact Nat.le_refl _)
 have hb4 : b.take 4 = b := List.take_of_length_le (by rw [hlb]; exact Nat.le_refl _)
 refine zS ?_
 refine yO 3000 1 (a.map (vi .u64)) ?_
 refine yO 4000 1 (b.map (vi .u64)) ?_
 refine yN 5000 1 ((List.replicate 4 0).map (vi .u64)) ?_
 refine zN (zS ?_)
 refine yC (prime_ctr) bd136 [] [] ?_
 refine yC (inverse_ctr) bd137 [] [] ?_
 refine yN 6000 1 ((List.replicate 4 0).map (vi .u64)) ?_
 refine ySA ?_
 refine yA ?_
 refine zN (zS ?_)
 refine yN 8000 1 ((List.replicate 5 0).map (vi .u64)) ?_
 refine zN (zQ (zS ?_))
 refine yLA ?_
 refine yM ?_
 refine zN (zB ?_)
 refine AW.loopw (fun mm σ => ∃ i, ∃ (l : List Nat), (i ≤ 4 ∧ l.length = 5 ∧ bd 18446744073709551616 l ∧ num 18446744073709551616 l < 2 * 21888242871839275222246405745257275088548364400416034343698204186575808495617 ∧ num 18446744073709551616 l * 18446744073709551616 ^ i % 21888242871839275222246405745257275088548364400416034343698204186575808495617 = num 18446744073709551616 (a.take i) * num 18446744073709551616 b % 21888242871839275222246405745257275088548364400416034343698204186575808495617) ∧ mm = 4 - i ∧ σ = ⟨(upd (upd (upd (upd (upd (upd (upd (upd emp 2 (.pointer (some ⟨3000, 0, none⟩))) 3 (.pointer (some ⟨4000, 0, none⟩))) 4 (.pointer (some ⟨5000, 0, none⟩))) 5 (.pointer (some ⟨6000, 0, none⟩))) 6 (vi .u64 14042775128853446655)) 7 (.pointer (some ⟨8000, 0, none⟩))) 17 (.agg (a.map (vi .u64)).toArray)) 18 (vi .i64 i)), (upd (upd (upd (upd (upd emp 3000 ⟨a.map (vi .u64), true, 1⟩) 4000 ⟨b.map (vi .u64), true, 1⟩) 5000 ⟨(List.replicate 4 0).map (vi .u64), true, 1⟩) 6000 ⟨(digs 18446744073709551616 4 21888242871839275222246405745257275088548364400416034343698204186575808495617).map (vi .u64), true, 1⟩) 8000 ⟨l.map (vi .u64), true, 1⟩)⟩) (fm := []) (wk [3000, 4000, 5000, 6000, 8000]) ⟨0, List.replicate 5 0, ⟨Nat.zero_le _, by simp, bd_replicate (by decide) _, by rw [num_replicate]; decide, by simp [num, num_replicate]⟩, rfl, rfl⟩ ?_
 rintro mm σ ⟨i, l, ⟨hi0, hl2, hbl, hT, hTm⟩, rfl, rfl⟩
 refine zS ?_
 refine yP (pLt (b := 4)) ?_
 refine zN (zQ ?_)
 refine zA (fun hb0 => ?_) (fun hb0 => ?_)
 ·
  have hi : i < 4 := by simpa using hb0
  have hxa := bd_getD ha (by decide) i
  refine zK (zT (zQ (zB (zS ?_))))
  refine yP (PureOp.idxVM tbok 0 rfl rfl rfl rfl rfl (by omega) (by (simp [*]; done))) ?_
  refine yA ?_
  refine zN (zS ?_)
  refine yA ?_
  refine zN (zQ (zS ?_))
  refine yLA ?_
  refine yM ?_
  refine zN (zB ?_)
  refine AW.loopw (fun mm σ => ∃ j, ∃ (l2 : List Nat), ∃ c, (j ≤ 4 ∧ l2.length = 5 ∧ bd 18446744073709551616 l2 ∧ c < 18446744073709551616 ∧ num 18446744073709551616 l2 + c * 18446744073709551616 ^ j = num 18446744073709551616 l + a.getD i 0 * num 18446744073709551616 (b.take j) ∧ (∀ k, j ≤ k → l2.getD k 0 = l.getD k 0)) ∧ mm = 4 - j ∧ σ = ⟨(upd (upd (upd (upd (upd (upd (upd (upd (upd (upd (upd (upd emp 2 (.pointer (some ⟨3000, 0, none⟩))) 3 (.pointer (some ⟨4000, 0, none⟩))) 4 (.pointer (some ⟨5000, 0, none⟩))) 5 (.pointer (some ⟨6000, 0, none⟩))) 6 (vi .u64 14042775128853446655)) 7 (.pointer (some ⟨8000, 0, none⟩))) 17 (.agg (a.map (vi .u64)).toArray)) 18 (vi .i64 i)) 9 (vi .u64 (a.getD i 0))) 10 (vi .u64 c)) 21 (.agg (b.map (vi .u64)).toArray)) 22 (vi .i64 j)), (upd (upd (upd (upd (upd emp 3000 ⟨a.map (vi .u64), true, 1⟩) 4000 ⟨b.map (vi .u64), true, 1⟩) 5000 ⟨(List.replicate 4 0).map (vi .u64), true, 1⟩) 6000 ⟨(digs 18446744073709551616 4 21888242871839275222246405745257275088548364400416034343698204186575808495617).map (vi .u64), true, 1⟩) 8000 ⟨l2.map (vi .u64), true, 1⟩)⟩) (fm := []) (wk [3000, 4000, 5000, 6000, 8000]) ⟨0, l, 0, ⟨by omega, hl2, hbl, by decide, by simp [num], fun _ _ => rfl⟩, rfl, rfl⟩ ?_
  rintro mm σ ⟨j, l2, c, ⟨hj0, hk2, hbk, hc, hnk, hzk⟩, rfl, rfl⟩
  have hx := bd_getD ha (by decide) i
  have hy := bd_getD hb (by decide) j
  have he := bd_getD hbk (by decide) j
  have hlt := mad_lt he hx hy hc
  refine zS ?_
  refine yP (pLt (b := 4)) ?_
  refine zN (zQ ?_)
  refine zA (fun hb1 => ?_) (fun hb1 => ?_)
  ·
   have hj : j < 4 := by simpa using hb1
   refine zK (zT (zQ (zB (zS ?_))))
   refine yM ?_
   refine yP (PureOp.idxVM tbok 0 rfl rfl rfl rfl rfl (by omega) (by (simp [*]; done))) ?_
   refine yA ?_
   refine yA ?_
   refine zN (zR ?_)
   refine yM ?_
   refine yM ?_
   refine yP pA ?_
   refine yL 0 ?_
   refine yM ?_
   refine yM ?_
   refine yM ?_
   refine AWo.callX (line_ctr (by assumption) (by assumption) (by assumption) (by assumption)) bd138 [] [] rfl (.cons rfl (.cons rfl (.cons rfl (.cons rfl .nil)))) rfl (.cons rfl rfl (.cons rfl rfl (.cons rfl rfl (.cons rfl rfl .nil)))) .nil rfl .nil frN (by decide) (.cons rfl rfl (.cons rfl rfl .nil)) rfl rfl rfl rfl ?_
   refine yM ?_
   refine yP pX ?_
   refine yP pX ?_
   refine yP pA ?_
   refine yS (vi .u64) ?_
   refine yA ?_
   refine zN (zL (zT (zR ?_)))
   refine yP (pAdd (b := 1)) ?_
   refine yM ?_
   refine zN (zT ?_)
   refine ⟨4 - (j + 1), [], _, by omega, ?_, j + 1, l2.set j ((l2.getD j 0 + a.getD i 0 * b.getD j 0 + c) % 18446744073709551616), (l2.getD j 0 + a.getD i 0 * b.getD j 0 + c) / 18446744073709551616, ⟨by omega, by simp [hk2], bd_set hbk (Nat.mod_lt _ (by decide)), Nat.div_lt_of_lt_mul hlt, mad_step (by omega) hnk rfl, fun k hk => by rw [getD_set (by omega)]; exact hzk k (by omega)⟩, rfl, rfl⟩
   exact wk [3000, 4000, 5000, 6000, 8000]
  ·
   obtain rfl : j = 4 := by simp at hb1; omega
   rw [hb4] at hnk
   have h40 : l2.getD 4 0 = 0 := by
    rw [hzk 4 (Nat.le_refl _), num_getD hbl (by decide), Nat.div_eq_of_lt (by omega)]
   refine zX (zV (zV (zH (zT (zS ?_)))))
   refine yP (pA (j := 4)) ?_
   refine yL 0 ?_
   refine yM ?_
   refine yP ((PureOp.addU 18446744073709551616 rfl rfl rfl rfl).mono (v' := vi .u64 c) (congrArg (vi .u64) (by rw [h40, Nat.zero_add, Nat.mod_eq_of_lt hc]))) ?_
   refine yP (pA (j := 4)) ?_
   refine yS (vi .u64) ?_
   refine zN ?_
   obtain ⟨l3, hl3⟩ : ∃ l3, l3 = l2.set 4 c := ⟨_, rfl⟩
   rw [← hl3]
   have hb3 : bd 18446744073709551616 l3 := by rw [hl3]; exact bd_set hbk hc
   have hk3 : l3.length = 5 := by rw [hl3]; simp [hk2]
   have hS : num 18446744073709551616 l3 = num 18446744073709551616 l + a.getD i 0 * num 18446744073709551616 b := by
    have := num_set (B := 18446744073709551616) (l := l2) (k := 4) (v := c) (by omega)
    rw [h40, Nat.zero_mul, Nat.add_zero] at this
    rw [hl3, this, hnk]
   refine zS ?_
   refine yP (pA (j := 0)) ?_
   refine yL 0 ?_
   refine yM ?_
   refine yP (PureOp.mulU 18446744073709551616 rfl rfl rfl rfl) ?_
   refine yA ?_
   refine zN ?_
   obtain ⟨k, hkk⟩ : ∃ k, k = l3.getD 0 0 * 14042775128853446655 % 18446744073709551616 := ⟨_, rfl⟩
   rw [← hkk]
   have hk : k < 18446744073709551616 := by rw [hkk]; exact Nat.mod_lt _ (by decide)
   refine zS ?_
   refine yP (pA (j := 0)) ?_
   refine yL 0 ?_
   refine yM ?_
   refine yP (pA (j := 0)) ?_
   refine yL 0 ?_
   refine yC (line_ctr (c := 0) (bd_getD hb3 (by decide) 0) hk (bd_getD hbp (by decide) 0) (by decide)) bd138 [] [] ?_
   refine yM ?_
   refine yP pX ?_
   refine yP pX ?_
   refine yA ?_
   refine zN (zQ (zS ?_))
   refine yA ?_
   refine zN (zB ?_)
   refine AW.loopw (fun mm σ => ∃ j, ∃ (u : List Nat), ∃ c, ((1 ≤ j ∧ j ≤ 4) ∧ u.length = 5 ∧ bd 18446744073709551616 u ∧ c < 18446744073709551616 ∧ 18446744073709551616 * num 18446744073709551616 (u.take (j - 1)) + c * 18446744073709551616 ^ j = num 18446744073709551616 l3 % 18446744073709551616 ^ j + k * num 18446744073709551616 ((digs 18446744073709551616 4 21888242871839275222246405745257275088548364400416034343698204186575808495617).take j) ∧ (∀ m, j ≤ m → u.getD m 0 = num 18446744073709551616 l3 / 18446744073709551616 ^ m % 18446744073709551616)) ∧ mm = 4 - j ∧ σ = ⟨(upd (upd (upd (upd (upd (upd (upd (upd (upd (upd (upd emp 2 (.pointer (some ⟨3000, 0, none⟩))) 3 (.pointer (some ⟨4000, 0, none⟩))) 4 (.pointer (some ⟨5000, 0, none⟩))) 5 (.pointer (some ⟨6000, 0, none⟩))) 6 (vi .u64 14042775128853446655)) 7 (.pointer (some ⟨8000, 0, none⟩))) 17 (.agg (a.map (vi .u64)).toArray)) 18 (vi .i64 i)) 10 (vi .u64 c)) 13 (vi .u64 k)) 14 (vi .i64 j)), (upd (upd (upd (upd (upd emp 3000 ⟨a.map (vi .u64), true, 1⟩) 4000 ⟨b.map (vi .u64), true, 1⟩) 5000 ⟨(List.replicate 4 0).map (vi .u64), true, 1⟩) 6000 ⟨(digs 18446744073709551616 4 21888242871839275222246405745257275088548364400416034343698204186575808495617).map (vi .u64), true, 1⟩) 8000 ⟨u.map (vi .u64), true, 1⟩)⟩) (fm := []) (wk [3000, 4000, 5000, 6000, 8000]) ⟨1, l3, (l3.getD 0 0 + k * (digs 18446744073709551616 4 21888242871839275222246405745257275088548364400416034343698204186575808495617).getD 0 0 + 0) / 18446744073709551616, ⟨⟨by omega, by omega⟩, hk3, hb3, Nat.div_lt_of_lt_mul (mad_lt (bd_getD hb3 (by decide) 0) hk (bd_getD hbp (by decide) 0) (by decide)), mont_init hb3 hbp (by rw [hnp]) hkk, fun m _ => num_getD hb3 (by decide) m⟩, rfl, rfl⟩ ?_
   rintro mm σ ⟨j, u, c, ⟨⟨hj1, hj0⟩, hku, hbu, hc, hred, hum⟩, rfl, rfl⟩
   have he := bd_getD hbu (by decide) j
   have hq := bd_getD hbp (by decide) j
   have hlt2 := mad_lt he hk hq hc
   have hu4 := bd_getD hbu (by decide) 4
   refine zQ (zS ?_)
   refine yM ?_
   refine yP (pLt (b := 4)) ?_
   refine zN ?_
   refine zA (fun hb2 => ?_) (fun hb2 => ?_)
   ·
    have hj : j < 4 := by simpa using hb2
    refine zK (zT (zQ (zB ?_)))
    refine AW.draw mixed ?_
    refine yM ?_
    refine yP (pSub (b := 1)) ?_
    refine yM ?_
    refine yP pA ?_
    refine yL 0 ?_
    refine yM ?_
    refine yM ?_
    refine yP pA ?_
    refine yL 0 ?_
    refine yM ?_
    refine AWo.callX (line_ctr (by assumption) (by assumption) (by assumption) (by assumption)) bd138 [] [] rfl (.cons rfl (.cons rfl (.cons rfl (.cons rfl .nil)))) rfl (.cons rfl rfl (.cons rfl rfl (.cons rfl rfl (.cons rfl rfl .nil)))) .nil rfl .nil frN (by decide) (.cons rfl rfl (.cons rfl rfl .nil)) rfl rfl rfl rfl ?_
    refine yM ?_
    refine yP pX ?_
    refine yP pX ?_
    refine yP pA ?_
    refine yS (vi .u64) ?_
    refine yA ?_
    refine zD (zL (zT (zR ?_)))
    refine yM ?_
    refine yP (pAdd (b := 1)) ?_
    refine yA ?_
    refine zN (zT ?_)
    refine ⟨4 - (j + 1), [], _, by omega, ?_, j + 1, u.set (j - 1) ((u.getD j 0 + k * (digs 18446744073709551616 4 21888242871839275222246405745257275088548364400416034343698204186575808495617).getD j 0 + c) % 18446744073709551616), (u.getD j 0 + k * (digs 18446744073709551616 4 21888242871839275222246405745257275088548364400416034343698204186575808495617).getD j 0 + c) / 18446744073709551616, ⟨⟨by omega, by omega⟩, by simp [hku], bd_set hbu (Nat.mod_lt _ (by decide)), Nat.div_lt_of_lt_mul hlt2, red_step (by omega) (by omega) hred rfl (hum j (Nat.le_refl _)), fun m hm => by rw [getD_set (by omega)]; exact hum m (by omega)⟩, rfl, rfl⟩
    exact wk [3000, 4000, 5000, 6000, 8000]
   ·
    obtain rfl : j = 4 := by simp at hb2; omega
    rw [hq4, hnp] at hred
    have hfin := red_end (n := 3) hku hred (by
     rw [hum 4 (Nat.le_refl _), Nat.mod_eq_of_lt]
     have := num_lt hb3
     rw [hk3] at this
     omega)
    rw [hS] at hfin
    have hdv : (u.getD 4 0 + c) / 18446744073709551616 < 18446744073709551616 := Nat.div_lt_of_lt_mul (Nat.lt_of_lt_of_le (Nat.add_lt_add hu4 hc) (by decide))
    refine zX (zV (zV (zH (zT (zS ?_)))))
    refine yP (pA (j := 4)) ?_
    refine yL 0 ?_
    refine yM ?_
    refine yP (add64 (c := 0) rfl rfl (by decide)) ?_
    refine yM ?_
    refine yP pX ?_
    refine yP pX ?_
    refine yP (pA (j := 3)) ?_
    refine yS (vi .u64) ?_
    refine yA ?_
    refine zN (zR ?_)
    refine yM ?_
    refine yP (pA (j := 4)) ?_
    refine AWo.storeM (f := (vi .u64)) tbok rfl rfl rfl rfl (by simp [hku]) rfl rfl ?_
    refine zN (zL (zT (zR ?_)))
    refine yP (pAdd (b := 1)) ?_
    refine yM ?_
    refine zN (zT ?_)
    exact ⟨4 - (i + 1), [], _, by omega, wk [3000, 4000, 5000, 6000, 8000], i + 1, (u.set 3 ((u.getD 4 0 + c) % 18446744073709551616)).set 4 ((u.getD 4 0 + c) / 18446744073709551616), ⟨by omega, by simp [hku], bd_set (bd_set hbu (Nat.mod_lt _ (by decide))) hdv, mont_lt hfin hT hxa hpb hk, by rw [num_take_succ]; exact mont_mod hfin hTm⟩, rfl, rfl⟩
 ·
  obtain rfl : i = 4 := by simp at hb0; omega
  refine zX (zV (zV (zH (zT ?_))))
  have hT4 : num 18446744073709551616 (l.take 4) = num 18446744073709551616 l := by rw [num_take hbl, Nat.mod_eq_of_lt (by omega)]
  have hres : num 18446744073709551616 (l.take 4) % 21888242871839275222246405745257275088548364400416034343698204186575808495617 = r := by
   rw [hT4]
   refine mont_uniq (R := 18446744073709551616 ^ 4) (by decide) (Nat.mod_lt _ (by decide)) hr ?_
   rw [Nat.mod_mul_mod, hTm, h, ← hla, take_all]
  refine zS ?_
  refine AWo.sliceA tbok rfl .none (.some rfl) rfl rfl rfl rfl (by decide) (by decide) (.inl rfl) (by (simp; omega)) rfl rfl rfl ?_
  refine yP (PureOp.toArrT tbok rfl rfl (by decide) (by decide)) ?_
  refine AWo.loadAgg tbok (vs := (l.take 4).map (vi .u64)) rfl rfl rfl rfl (by simp [hl2]) (by simp [List.map_take]) rfl rfl ?_
  refine yC (below_ctr (a := l.take 4) (bd_take hbl 4) (by simp [hl2]) (by rw [hT4]; exact hT)) bd140 [] [] ?_
  refine ySA ?_
  refine zN (zE ?_)
  rw [hres]
  exact rq [] [.cell 4 52]
end Go.Proofs.YtlfadlfjjkppfaaGreatDoor
