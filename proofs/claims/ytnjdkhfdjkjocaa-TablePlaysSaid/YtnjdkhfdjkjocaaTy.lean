import Derived.Test.YtnjdkhfdjkjocaaA3
import Derived.Test.YtnjdkhfdjkjocaaProg
set_option linter.unusedVariables false
set_option maxRecDepth 20000
namespace Go.Proofs.Ytnjdkhfdjkjocaa
namespace Abs
/-! What the program has for types, and that its functions have bodies: written by a program of this session (wip/prelude.py) off the translation. -/
def ttab : TT := {
  size := [(1, 1, false), (2, 1, false), (3, 1, false), (4, 1, false), (5, 1, false), (6, 1, false), (7, 4, true), (8, 4, true), (9, 1, false), (10, 1, false), (11, 1, false), (12, 1, false), (13, 2, true), (14, 2, true), (15, 1, false), (16, 1, false), (17, 1, false), (18, 1, true), (19, 1, true), (20, 1, false), (21, 1, false), (22, 1, false), (23, 1, false), (24, 1, false), (25, 1, false), (26, 1, false), (27, 1, false), (28, 1, false), (29, 1, false), (30, 7, true), (31, 7, true), (32, 9, true), (33, 9, true), (34, 1, false), (36, 1, false), (37, 1, false), (38, 1, false), (39, 1, false), (40, 1, false), (42, 1, false), (43, 2, true), (44, 2, true), (45, 1, false), (46, 1, false), (47, 1, false), (48, 1, false), (49, 1, false), (50, 1, true), (51, 1, true), (52, 1, false), (53, 1, false), (54, 1, false), (55, 8, true), (56, 8, true), (57, 1, false), (59, 1, false), (60, 1, false), (62, 1, false), (64, 1, false), (65, 1, false), (66, 1, false), (67, 1, false), (68, 1, false), (69, 1, false), (70, 1, false), (71, 1, false), (72, 1, false), (73, 1, false), (74, 1, false), (75, 1, false), (76, 1, false), (77, 1, false), (78, 1, false), (79, 3, true), (80, 3, true), (82, 1, false), (83, 1, false), (84, 1, false), (85, 1, false), (86, 1, false), (87, 1, false), (88, 1, false), (89, 3, true), (90, 8, true), (91, 8, true), (92, 1, false), (93, 7, true), (94, 7, true), (95, 9, true), (96, 9, true), (98, 1, false), (100, 1, false), (101, 1, false), (102, 1, false), (103, 1, false), (104, 1, false), (105, 1, false), (106, 1, false), (107, 2, true), (108, 2, true), (109, 1, false), (110, 2, true), (111, 2, true), (112, 1, false), (113, 1, false), (114, 1, false), (115, 1, false), (116, 1, false), (117, 1, false), (118, 168, true), (119, 169, true), (120, 169, true), (121, 1, false), (122, 1, false), (123, 1, false), (124, 1, false), (125, 1, false), (126, 1, false), (127, 1, false), (128, 1, false), (129, 1, false), (130, 1, false), (131, 1, false), (132, 1, false), (133, 1, false), (134, 8, true), (135, 8, true), (136, 1, false), (137, 1, false), (138, 1, false), (139, 1, false), (140, 1, false), (141, 1, false), (142, 1, false), (143, 1, false), (144, 1, false), (145, 1, false), (146, 1, false), (147, 1, false), (148, 1, false), (149, 1, false), (150, 1, false), (151, 1, false), (152, 1, false), (153, 1, false), (154, 1, false), (155, 1, false), (156, 1, false), (157, 1, false), (158, 1, false), (159, 1, false), (160, 1, false), (162, 1, false), (163, 1, false), (164, 1, false), (166, 1, false), (167, 1, false), (168, 1, false), (169, 1, false), (170, 1, false), (171, 1, false), (172, 1, false), (173, 1, false), (174, 1, false), (175, 1, false), (176, 1, false), (177, 1, false), (178, 1, false), (179, 256, true), (180, 256, true), (182, 1, false), (183, 1, false), (184, 1, false), (186, 1, false), (187, 1, false), (188, 1, false), (189, 1, false), (190, 4, true), (191, 4, true), (192, 0, true), (193, 0, true), (194, 0, true), (195, 1, false), (196, 1, false), (197, 1, false), (198, 1, false), (199, 1, false), (200, 1, false), (201, 11, true), (202, 11, true), (203, 1, false)]
  flds := [(7, [(2, 0), (3, 1), (4, 2), (6, 3)]), (8, [(2, 0), (3, 1), (4, 2), (6, 3)]), (13, [(9, 0), (12, 1)]), (14, [(9, 0), (12, 1)]), (18, [(17, 0)]), (19, [(17, 0)]), (30, [(3, 0), (3, 1), (3, 2), (3, 3), (28, 4), (29, 5), (9, 6)]), (31, [(3, 0), (3, 1), (3, 2), (3, 3), (28, 4), (29, 5), (9, 6)]), (32, [(5, 0), (3, 1), (31, 2)]), (33, [(5, 0), (3, 1), (31, 2)]), (43, [(9, 0), (3, 1)]), (44, [(9, 0), (3, 1)]), (50, [(49, 0)]), (51, [(49, 0)]), (55, [(3, 0), (3, 1), (3, 2), (3, 3), (9, 4), (53, 5), (54, 6), (9, 7)]), (56, [(3, 0), (3, 1), (3, 2), (3, 3), (9, 4), (53, 5), (54, 6), (9, 7)]), (79, [(9, 0), (4, 1), (4, 2)]), (80, [(9, 0), (4, 1), (4, 2)]), (89, [(9, 0), (4, 1), (4, 2)]), (90, [(5, 0), (4, 1), (88, 2), (89, 3), (4, 6), (54, 7)]), (91, [(5, 0), (4, 1), (88, 2), (89, 3), (4, 6), (54, 7)]), (93, [(3, 0), (3, 1), (3, 2), (3, 3), (3, 4), (3, 5), (3, 6)]), (94, [(3, 0), (3, 1), (3, 2), (3, 3), (3, 4), (3, 5), (3, 6)]), (95, [(5, 0), (94, 1), (53, 8)]), (96, [(5, 0), (94, 1), (53, 8)]), (107, [(105, 0), (53, 1)]), (108, [(105, 0), (53, 1)]), (110, [(9, 0), (34, 1)]), (111, [(9, 0), (34, 1)]), (119, [(3, 0), (118, 1)]), (120, [(3, 0), (118, 1)]), (134, [(4, 0), (132, 1), (133, 2), (80, 3), (4, 6), (131, 7)]), (135, [(4, 0), (132, 1), (133, 2), (80, 3), (4, 6), (131, 7)]), (190, [(17, 0), (17, 1), (17, 2), (9, 3)]), (191, [(17, 0), (17, 1), (17, 2), (9, 3)]), (201, [(12, 0), (12, 1), (168, 2), (195, 3), (5, 4), (5, 5), (196, 6), (197, 7), (198, 8), (199, 9), (200, 10)]), (202, [(12, 0), (12, 1), (168, 2), (195, 3), (5, 4), (5, 5), (196, 6), (197, 7), (198, 8), (199, 9), (200, 10)])]
  arr := [(118, 24, 31), (179, 256, 4), (180, 256, 4), (192, 0, 16)]
  slc := [(22, 33, 9, 112), (27, 4, 1, 1), (28, 5, 1, 1), (29, 44, 2, 24), (49, 56, 8, 112), (53, 9, 1, 16), (54, 3, 1, 8), (86, 96, 9, 88), (88, 89, 3, 24), (105, 111, 2, 24), (133, 80, 3, 24)]
  zero := [(1, [.nilFunc]), (2, [.int .i64 0]), (3, [.int .i64 0]), (4, [.bool false]), (5, [.int .u8 0]), (6, [.int .u8 0]), (7, [.int .i64 0, .int .i64 0, .bool false, .int .u8 0]), (8, [.int .i64 0, .int .i64 0, .bool false, .int .u8 0]), (9, [.string ⟨#[]⟩]), (10, [.string ⟨#[]⟩]), (11, [.string ⟨#[]⟩]), (12, [.int .u64 0]), (13, [.string ⟨#[]⟩, .int .u64 0]), (14, [.string ⟨#[]⟩, .int .u64 0]), (15, [.pointer none]), (16, [.pointer none]), (17, [.pointer none]), (18, [.pointer none]), (19, [.pointer none]), (20, [.nilIface]), (21, [.int .i32 0]), (22, [.slice none 0 0]), (23, [.nilFunc]), (24, [.nilFunc]), (25, [.pointer none]), (26, [.nilFunc]), (27, [.slice none 0 0]), (28, [.slice none 0 0]), (29, [.slice none 0 0]), (30, [.int .i64 0, .int .i64 0, .int .i64 0, .int .i64 0, .slice none 0 0, .slice none 0 0, .string ⟨#[]⟩]), (31, [.int .i64 0, .int .i64 0, .int .i64 0, .int .i64 0, .slice none 0 0, .slice none 0 0, .string ⟨#[]⟩]), (32, [.int .u8 0, .int .i64 0, .int .i64 0, .int .i64 0, .int .i64 0, .int .i64 0, .slice none 0 0, .slice none 0 0, .string ⟨#[]⟩]), (33, [.int .u8 0, .int .i64 0, .int .i64 0, .int .i64 0, .int .i64 0, .int .i64 0, .slice none 0 0, .slice none 0 0, .string ⟨#[]⟩]), (34, [.int .i64 0]), (36, [.nilFunc]), (37, [.nilFunc]), (38, [.nilFunc]), (39, [.nilFunc]), (40, [.nilFunc]), (42, [.nilFunc]), (43, [.string ⟨#[]⟩, .int .i64 0]), (44, [.string ⟨#[]⟩, .int .i64 0]), (45, [.nilFunc]), (46, [.nilFunc]), (47, [.nilFunc]), (48, [.nilFunc]), (49, [.slice none 0 0]), (50, [.slice none 0 0]), (51, [.slice none 0 0]), (52, [.nilFunc]), (53, [.slice none 0 0]), (54, [.slice none 0 0]), (55, [.int .i64 0, .int .i64 0, .int .i64 0, .int .i64 0, .string ⟨#[]⟩, .slice none 0 0, .slice none 0 0, .string ⟨#[]⟩]), (56, [.int .i64 0, .int .i64 0, .int .i64 0, .int .i64 0, .string ⟨#[]⟩, .slice none 0 0, .slice none 0 0, .string ⟨#[]⟩]), (57, [.nilFunc]), (59, [.nilFunc]), (60, [.nilFunc]), (62, [.nilFunc]), (64, [.nilFunc]), (65, [.nilFunc]), (66, [.nilFunc]), (67, [.nilFunc]), (68, [.nilFunc]), (69, [.nilFunc]), (70, [.nilFunc]), (71, [.nilFunc]), (72, [.nilFunc]), (73, [.nilFunc]), (74, [.nilFunc]), (75, [.nilFunc]), (76, [.nilFunc]), (77, [.pointer none]), (78, [.nilFunc]), (79, [.string ⟨#[]⟩, .bool false, .bool false]), (80, [.string ⟨#[]⟩, .bool false, .bool false]), (82, [.nilFunc]), (83, [.nilFunc]), (84, [.nilFunc]), (85, [.nilFunc]), (86, [.slice none 0 0]), (87, [.nilFunc]), (88, [.slice none 0 0]), (89, [.string ⟨#[]⟩, .bool false, .bool false]), (90, [.int .u8 0, .bool false, .slice none 0 0, .string ⟨#[]⟩, .bool false, .bool false, .bool false, .slice none 0 0]), (91, [.int .u8 0, .bool false, .slice none 0 0, .string ⟨#[]⟩, .bool false, .bool false, .bool false, .slice none 0 0]), (92, [.nilFunc]), (93, [.int .i64 0, .int .i64 0, .int .i64 0, .int .i64 0, .int .i64 0, .int .i64 0, .int .i64 0]), (94, [.int .i64 0, .int .i64 0, .int .i64 0, .int .i64 0, .int .i64 0, .int .i64 0, .int .i64 0]), (95, [.int .u8 0, .int .i64 0, .int .i64 0, .int .i64 0, .int .i64 0, .int .i64 0, .int .i64 0, .int .i64 0, .slice none 0 0]), (96, [.int .u8 0, .int .i64 0, .int .i64 0, .int .i64 0, .int .i64 0, .int .i64 0, .int .i64 0, .int .i64 0, .slice none 0 0]), (98, [.nilFunc]), (100, [.nilFunc]), (101, [.nilFunc]), (102, [.nilFunc]), (103, [.nilFunc]), (104, [.nilFunc]), (105, [.slice none 0 0]), (106, [.pointer none]), (107, [.slice none 0 0, .slice none 0 0]), (108, [.slice none 0 0, .slice none 0 0]), (109, [.nilFunc]), (110, [.string ⟨#[]⟩, .int .i64 0]), (111, [.string ⟨#[]⟩, .int .i64 0]), (112, [.nilFunc]), (113, [.nilFunc]), (114, [.nilFunc]), (115, [.nilFunc]), (116, [.nilFunc]), (117, [.nilFunc]), (118, [.int .i64 0, .int .i64 0, .int .i64 0, .int .i64 0, .slice none 0 0, .slice none 0 0, .string ⟨#[]⟩, .int .i64 0, .int .i64 0, .int .i64 0, .int .i64 0, .slice none 0 0, .slice none 0 0, .string ⟨#[]⟩, .int .i64 0, .int .i64 0, .int .i64 0, .int .i64 0, .slice none 0 0, .slice none 0 0, .string ⟨#[]⟩, .int .i64 0, .int .i64 0, .int .i64 0, .int .i64 0, .slice none 0 0, .slice none 0 0, .string ⟨#[]⟩, .int .i64 0, .int .i64 0, .int .i64 0, .int .i64 0, .slice none 0 0, .slice none 0 0, .string ⟨#[]⟩, .int .i64 0, .int .i64 0, .int .i64 0, .int .i64 0, .slice none 0 0, .slice none 0 0, .string ⟨#[]⟩, .int .i64 0, .int .i64 0, .int .i64 0, .int .i64 0, .slice none 0 0, .slice none 0 0, .string ⟨#[]⟩, .int .i64 0, .int .i64 0, .int .i64 0, .int .i64 0, .slice none 0 0, .slice none 0 0, .string ⟨#[]⟩, .int .i64 0, .int .i64 0, .int .i64 0, .int .i64 0, .slice none 0 0, .slice none 0 0, .string ⟨#[]⟩, .int .i64 0, .int .i64 0, .int .i64 0, .int .i64 0, .slice none 0 0, .slice none 0 0, .string ⟨#[]⟩, .int .i64 0, .int .i64 0, .int .i64 0, .int .i64 0, .slice none 0 0, .slice none 0 0, .string ⟨#[]⟩, .int .i64 0, .int .i64 0, .int .i64 0, .int .i64 0, .slice none 0 0, .slice none 0 0, .string ⟨#[]⟩, .int .i64 0, .int .i64 0, .int .i64 0, .int .i64 0, .slice none 0 0, .slice none 0 0, .string ⟨#[]⟩, .int .i64 0, .int .i64 0, .int .i64 0, .int .i64 0, .slice none 0 0, .slice none 0 0, .string ⟨#[]⟩, .int .i64 0, .int .i64 0, .int .i64 0, .int .i64 0, .slice none 0 0, .slice none 0 0, .string ⟨#[]⟩, .int .i64 0, .int .i64 0, .int .i64 0, .int .i64 0, .slice none 0 0, .slice none 0 0, .string ⟨#[]⟩, .int .i64 0, .int .i64 0, .int .i64 0, .int .i64 0, .slice none 0 0, .slice none 0 0, .string ⟨#[]⟩, .int .i64 0, .int .i64 0, .int .i64 0, .int .i64 0, .slice none 0 0, .slice none 0 0, .string ⟨#[]⟩, .int .i64 0, .int .i64 0, .int .i64 0, .int .i64 0, .slice none 0 0, .slice none 0 0, .string ⟨#[]⟩, .int .i64 0, .int .i64 0, .int .i64 0, .int .i64 0, .slice none 0 0, .slice none 0 0, .string ⟨#[]⟩, .int .i64 0, .int .i64 0, .int .i64 0, .int .i64 0, .slice none 0 0, .slice none 0 0, .string ⟨#[]⟩, .int .i64 0, .int .i64 0, .int .i64 0, .int .i64 0, .slice none 0 0, .slice none 0 0, .string ⟨#[]⟩, .int .i64 0, .int .i64 0, .int .i64 0, .int .i64 0, .slice none 0 0, .slice none 0 0, .string ⟨#[]⟩, .int .i64 0, .int .i64 0, .int .i64 0, .int .i64 0, .slice none 0 0, .slice none 0 0, .string ⟨#[]⟩]), (119, [.int .i64 0, .int .i64 0, .int .i64 0, .int .i64 0, .int .i64 0, .slice none 0 0, .slice none 0 0, .string ⟨#[]⟩, .int .i64 0, .int .i64 0, .int .i64 0, .int .i64 0, .slice none 0 0, .slice none 0 0, .string ⟨#[]⟩, .int .i64 0, .int .i64 0, .int .i64 0, .int .i64 0, .slice none 0 0, .slice none 0 0, .string ⟨#[]⟩, .int .i64 0, .int .i64 0, .int .i64 0, .int .i64 0, .slice none 0 0, .slice none 0 0, .string ⟨#[]⟩, .int .i64 0, .int .i64 0, .int .i64 0, .int .i64 0, .slice none 0 0, .slice none 0 0, .string ⟨#[]⟩, .int .i64 0, .int .i64 0, .int .i64 0, .int .i64 0, .slice none 0 0, .slice none 0 0, .string ⟨#[]⟩, .int .i64 0, .int .i64 0, .int .i64 0, .int .i64 0, .slice none 0 0, .slice none 0 0, .string ⟨#[]⟩, .int .i64 0, .int .i64 0, .int .i64 0, .int .i64 0, .slice none 0 0, .slice none 0 0, .string ⟨#[]⟩, .int .i64 0, .int .i64 0, .int .i64 0, .int .i64 0, .slice none 0 0, .slice none 0 0, .string ⟨#[]⟩, .int .i64 0, .int .i64 0, .int .i64 0, .int .i64 0, .slice none 0 0, .slice none 0 0, .string ⟨#[]⟩, .int .i64 0, .int .i64 0, .int .i64 0, .int .i64 0, .slice none 0 0, .slice none 0 0, .string ⟨#[]⟩, .int .i64 0, .int .i64 0, .int .i64 0, .int .i64 0, .slice none 0 0, .slice none 0 0, .string ⟨#[]⟩, .int .i64 0, .int .i64 0, .int .i64 0, .int .i64 0, .slice none 0 0, .slice none 0 0, .string ⟨#[]⟩, .int .i64 0, .int .i64 0, .int .i64 0, .int .i64 0, .slice none 0 0, .slice none 0 0, .string ⟨#[]⟩, .int .i64 0, .int .i64 0, .int .i64 0, .int .i64 0, .slice none 0 0, .slice none 0 0, .string ⟨#[]⟩, .int .i64 0, .int .i64 0, .int .i64 0, .int .i64 0, .slice none 0 0, .slice none 0 0, .string ⟨#[]⟩, .int .i64 0, .int .i64 0, .int .i64 0, .int .i64 0, .slice none 0 0, .slice none 0 0, .string ⟨#[]⟩, .int .i64 0, .int .i64 0, .int .i64 0, .int .i64 0, .slice none 0 0, .slice none 0 0, .string ⟨#[]⟩, .int .i64 0, .int .i64 0, .int .i64 0, .int .i64 0, .slice none 0 0, .slice none 0 0, .string ⟨#[]⟩, .int .i64 0, .int .i64 0, .int .i64 0, .int .i64 0, .slice none 0 0, .slice none 0 0, .string ⟨#[]⟩, .int .i64 0, .int .i64 0, .int .i64 0, .int .i64 0, .slice none 0 0, .slice none 0 0, .string ⟨#[]⟩, .int .i64 0, .int .i64 0, .int .i64 0, .int .i64 0, .slice none 0 0, .slice none 0 0, .string ⟨#[]⟩, .int .i64 0, .int .i64 0, .int .i64 0, .int .i64 0, .slice none 0 0, .slice none 0 0, .string ⟨#[]⟩, .int .i64 0, .int .i64 0, .int .i64 0, .int .i64 0, .slice none 0 0, .slice none 0 0, .string ⟨#[]⟩]), (120, [.int .i64 0, .int .i64 0, .int .i64 0, .int .i64 0, .int .i64 0, .slice none 0 0, .slice none 0 0, .string ⟨#[]⟩, .int .i64 0, .int .i64 0, .int .i64 0, .int .i64 0, .slice none 0 0, .slice none 0 0, .string ⟨#[]⟩, .int .i64 0, .int .i64 0, .int .i64 0, .int .i64 0, .slice none 0 0, .slice none 0 0, .string ⟨#[]⟩, .int .i64 0, .int .i64 0, .int .i64 0, .int .i64 0, .slice none 0 0, .slice none 0 0, .string ⟨#[]⟩, .int .i64 0, .int .i64 0, .int .i64 0, .int .i64 0, .slice none 0 0, .slice none 0 0, .string ⟨#[]⟩, .int .i64 0, .int .i64 0, .int .i64 0, .int .i64 0, .slice none 0 0, .slice none 0 0, .string ⟨#[]⟩, .int .i64 0, .int .i64 0, .int .i64 0, .int .i64 0, .slice none 0 0, .slice none 0 0, .string ⟨#[]⟩, .int .i64 0, .int .i64 0, .int .i64 0, .int .i64 0, .slice none 0 0, .slice none 0 0, .string ⟨#[]⟩, .int .i64 0, .int .i64 0, .int .i64 0, .int .i64 0, .slice none 0 0, .slice none 0 0, .string ⟨#[]⟩, .int .i64 0, .int .i64 0, .int .i64 0, .int .i64 0, .slice none 0 0, .slice none 0 0, .string ⟨#[]⟩, .int .i64 0, .int .i64 0, .int .i64 0, .int .i64 0, .slice none 0 0, .slice none 0 0, .string ⟨#[]⟩, .int .i64 0, .int .i64 0, .int .i64 0, .int .i64 0, .slice none 0 0, .slice none 0 0, .string ⟨#[]⟩, .int .i64 0, .int .i64 0, .int .i64 0, .int .i64 0, .slice none 0 0, .slice none 0 0, .string ⟨#[]⟩, .int .i64 0, .int .i64 0, .int .i64 0, .int .i64 0, .slice none 0 0, .slice none 0 0, .string ⟨#[]⟩, .int .i64 0, .int .i64 0, .int .i64 0, .int .i64 0, .slice none 0 0, .slice none 0 0, .string ⟨#[]⟩, .int .i64 0, .int .i64 0, .int .i64 0, .int .i64 0, .slice none 0 0, .slice none 0 0, .string ⟨#[]⟩, .int .i64 0, .int .i64 0, .int .i64 0, .int .i64 0, .slice none 0 0, .slice none 0 0, .string ⟨#[]⟩, .int .i64 0, .int .i64 0, .int .i64 0, .int .i64 0, .slice none 0 0, .slice none 0 0, .string ⟨#[]⟩, .int .i64 0, .int .i64 0, .int .i64 0, .int .i64 0, .slice none 0 0, .slice none 0 0, .string ⟨#[]⟩, .int .i64 0, .int .i64 0, .int .i64 0, .int .i64 0, .slice none 0 0, .slice none 0 0, .string ⟨#[]⟩, .int .i64 0, .int .i64 0, .int .i64 0, .int .i64 0, .slice none 0 0, .slice none 0 0, .string ⟨#[]⟩, .int .i64 0, .int .i64 0, .int .i64 0, .int .i64 0, .slice none 0 0, .slice none 0 0, .string ⟨#[]⟩, .int .i64 0, .int .i64 0, .int .i64 0, .int .i64 0, .slice none 0 0, .slice none 0 0, .string ⟨#[]⟩, .int .i64 0, .int .i64 0, .int .i64 0, .int .i64 0, .slice none 0 0, .slice none 0 0, .string ⟨#[]⟩]), (121, [.pointer none]), (122, [.nilFunc]), (123, [.nilFunc]), (124, [.nilFunc]), (125, [.nilFunc]), (126, [.nilFunc]), (127, [.nilFunc]), (128, [.nilFunc]), (129, [.nilFunc]), (130, [.nilFunc]), (131, [.map none]), (132, [.nilFunc]), (133, [.slice none 0 0]), (134, [.bool false, .nilFunc, .slice none 0 0, .string ⟨#[]⟩, .bool false, .bool false, .bool false, .map none]), (135, [.bool false, .nilFunc, .slice none 0 0, .string ⟨#[]⟩, .bool false, .bool false, .bool false, .map none]), (136, [.nilFunc]), (137, [.nilFunc]), (138, [.nilFunc]), (139, [.nilFunc]), (140, [.nilFunc]), (141, [.nilFunc]), (142, [.nilFunc]), (143, [.nilFunc]), (144, [.nilFunc]), (145, [.nilFunc]), (146, [.nilFunc]), (147, [.nilFunc]), (148, [.nilFunc]), (149, [.nilFunc]), (150, [.nilFunc]), (151, [.nilFunc]), (152, [.nilFunc]), (153, [.nilFunc]), (154, [.nilFunc]), (155, [.nilFunc]), (156, [.nilFunc]), (157, [.nilFunc]), (158, [.int .u64 0]), (159, [.nilFunc]), (160, [.int .i64 0]), (162, [.nilFunc]), (163, [.nilFunc]), (164, [.nilFunc]), (166, [.nilFunc]), (167, [.nilFunc]), (168, [.int .u32 0]), (169, [.nilFunc]), (170, [.int .u64 0]), (171, [.nilFunc]), (172, [.int .u64 0]), (173, [.nilFunc]), (174, [.nilFunc]), (175, [.nilFunc]), (176, [.pointer none]), (177, [.nilFunc]), (178, [.nilFunc]), (182, [.nilFunc]), (183, [.nilFunc]), (184, [.pointer none]), (186, [.nilFunc]), (187, [.nilFunc]), (188, [.pointer none]), (189, [.nilFunc]), (190, [.pointer none, .pointer none, .pointer none, .string ⟨#[]⟩]), (191, [.pointer none, .pointer none, .pointer none, .string ⟨#[]⟩]), (192, []), (193, []), (194, []), (195, [.int .u8 0]), (196, [.int .u8 0]), (197, [.nilFunc]), (198, [.pointer none]), (199, [.int .i32 0]), (200, [.int .i32 0]), (201, [.int .u64 0, .int .u64 0, .int .u32 0, .int .u8 0, .int .u8 0, .int .u8 0, .int .u8 0, .nilFunc, .pointer none, .int .i32 0, .int .i32 0]), (202, [.int .u64 0, .int .u64 0, .int .u32 0, .int .u8 0, .int .u8 0, .int .u8 0, .int .u8 0, .nilFunc, .pointer none, .int .i32 0, .int .i32 0]), (203, [.pointer none])]
  ints := [(2, .i64), (3, .i64), (5, .u8), (6, .u8), (12, .u64), (21, .i32), (34, .i64), (158, .u64), (160, .i64), (168, .u32), (170, .u64), (172, .u64), (195, .u8), (196, .u8), (199, .i32), (200, .i32)]
  ptrs := [(15, ()), (16, ()), (17, ()), (25, ()), (77, ()), (106, ()), (121, ()), (176, ()), (184, ()), (188, ()), (198, ())]
  fns := [(1, ()), (23, ()), (24, ()), (26, ()), (36, ()), (37, ()), (38, ()), (39, ()), (40, ()), (42, ()), (45, ()), (46, ()), (47, ()), (48, ()), (52, ()), (57, ()), (59, ()), (60, ()), (62, ()), (64, ()), (65, ()), (66, ()), (67, ()), (68, ()), (69, ()), (70, ()), (71, ()), (72, ()), (73, ()), (74, ()), (75, ()), (76, ()), (78, ()), (82, ()), (83, ()), (84, ()), (85, ()), (87, ()), (92, ()), (98, ()), (100, ()), (101, ()), (102, ()), (103, ()), (104, ()), (109, ()), (112, ()), (113, ()), (114, ()), (115, ()), (116, ()), (117, ()), (122, ()), (123, ()), (124, ()), (125, ()), (126, ()), (127, ()), (128, ()), (129, ()), (130, ()), (132, ()), (136, ()), (137, ()), (138, ()), (139, ()), (140, ()), (141, ()), (142, ()), (143, ()), (144, ()), (145, ()), (146, ()), (147, ()), (148, ()), (149, ()), (150, ()), (151, ()), (152, ()), (153, ()), (154, ()), (155, ()), (156, ()), (157, ()), (159, ()), (162, ()), (163, ()), (164, ()), (166, ()), (167, ()), (169, ()), (171, ()), (173, ()), (174, ()), (175, ()), (177, ()), (178, ()), (182, ()), (183, ()), (186, ()), (187, ()), (189, ()), (197, ())]
  strs := [(9, ()), (10, ()), (11, ())]
  bools := [(4, ())]
  maps := [(131, 3, 4)] }
theorem ttab_chk : ttCheck ttab Go.Proofs.Try.prog = true := by kernel_rfl
theorem ttab_zero : zerosOk Go.Proofs.Try.prog ttab.zero := by
  simp only [ttab, zerosOk]
  exact ⟨by kernel_rfl, by kernel_rfl, by kernel_rfl, by kernel_rfl, by kernel_rfl, by kernel_rfl, by kernel_rfl, by kernel_rfl, by kernel_rfl, by kernel_rfl, by kernel_rfl, by kernel_rfl, by kernel_rfl, by kernel_rfl, by kernel_rfl, by kernel_rfl, by kernel_rfl, by kernel_rfl, by kernel_rfl, by kernel_rfl, by kernel_rfl, by kernel_rfl, by kernel_rfl, by kernel_rfl, by kernel_rfl, by kernel_rfl, by kernel_rfl, by kernel_rfl, by kernel_rfl, by kernel_rfl, by kernel_rfl, by kernel_rfl, by kernel_rfl, by kernel_rfl, by kernel_rfl, by kernel_rfl, by kernel_rfl, by kernel_rfl, by kernel_rfl, by kernel_rfl, by kernel_rfl, by kernel_rfl, by kernel_rfl, by kernel_rfl, by kernel_rfl, by kernel_rfl, by kernel_rfl, by kernel_rfl, by kernel_rfl, by kernel_rfl, by kernel_rfl, by kernel_rfl, by kernel_rfl, by kernel_rfl, by kernel_rfl, by kernel_rfl, by kernel_rfl, by kernel_rfl, by kernel_rfl, by kernel_rfl, by kernel_rfl, by kernel_rfl, by kernel_rfl, by kernel_rfl, by kernel_rfl, by kernel_rfl, by kernel_rfl, by kernel_rfl, by kernel_rfl, by kernel_rfl, by kernel_rfl, by kernel_rfl, by kernel_rfl, by kernel_rfl, by kernel_rfl, by kernel_rfl, by kernel_rfl, by kernel_rfl, by kernel_rfl, by kernel_rfl, by kernel_rfl, by kernel_rfl, by kernel_rfl, by kernel_rfl, by kernel_rfl, by kernel_rfl, by kernel_rfl, by kernel_rfl, by kernel_rfl, by kernel_rfl, by kernel_rfl, by kernel_rfl, by kernel_rfl, by kernel_rfl, by kernel_rfl, by kernel_rfl, by kernel_rfl, by kernel_rfl, by kernel_rfl, by kernel_rfl, by kernel_rfl, by kernel_rfl, by kernel_rfl, by kernel_rfl, by kernel_rfl, by kernel_rfl, by kernel_rfl, by kernel_rfl, by kernel_rfl, by kernel_rfl, by kernel_rfl, by kernel_rfl, by kernel_rfl, by kernel_rfl, by kernel_rfl, by kernel_rfl, by kernel_rfl, by kernel_rfl, by kernel_rfl, by kernel_rfl, by kernel_rfl, by kernel_rfl, by kernel_rfl, by kernel_rfl, by kernel_rfl, by kernel_rfl, by kernel_rfl, by kernel_rfl, by kernel_rfl, by kernel_rfl, by kernel_rfl, by kernel_rfl, by kernel_rfl, by kernel_rfl, by kernel_rfl, by kernel_rfl, by kernel_rfl, by kernel_rfl, by kernel_rfl, by kernel_rfl, by kernel_rfl, by kernel_rfl, by kernel_rfl, by kernel_rfl, by kernel_rfl, by kernel_rfl, by kernel_rfl, by kernel_rfl, by kernel_rfl, by kernel_rfl, by kernel_rfl, by kernel_rfl, by kernel_rfl, by kernel_rfl, by kernel_rfl, by kernel_rfl, by kernel_rfl, by kernel_rfl, by kernel_rfl, by kernel_rfl, by kernel_rfl, by kernel_rfl, by kernel_rfl, by kernel_rfl, by kernel_rfl, by kernel_rfl, by kernel_rfl, by kernel_rfl, by kernel_rfl, by kernel_rfl, by kernel_rfl, by kernel_rfl, by kernel_rfl, by kernel_rfl, by kernel_rfl, by kernel_rfl, by kernel_rfl, by kernel_rfl, by kernel_rfl, by kernel_rfl, by kernel_rfl, by kernel_rfl, by kernel_rfl, by kernel_rfl, by kernel_rfl, by kernel_rfl, by kernel_rfl, by kernel_rfl, by kernel_rfl, trivial⟩
theorem tk : TTok ttab Go.Proofs.Try.prog := ⟨ttab_chk, ttab_zero⟩
theorem fk2 : fnOk Go.Proofs.Try.prog 2 = true := by kernel_rfl
theorem fk3 : fnOk Go.Proofs.Try.prog 3 = true := by kernel_rfl
theorem fk4 : fnOk Go.Proofs.Try.prog 4 = true := by kernel_rfl
theorem fk5 : fnOk Go.Proofs.Try.prog 5 = true := by kernel_rfl
theorem fk6 : fnOk Go.Proofs.Try.prog 6 = true := by kernel_rfl
theorem fk7 : fnOk Go.Proofs.Try.prog 7 = true := by kernel_rfl
theorem fk8 : fnOk Go.Proofs.Try.prog 8 = true := by kernel_rfl
theorem fk9 : fnOk Go.Proofs.Try.prog 9 = true := by kernel_rfl
theorem fk10 : fnOk Go.Proofs.Try.prog 10 = true := by kernel_rfl
theorem fk11 : fnOk Go.Proofs.Try.prog 11 = true := by kernel_rfl
theorem fk12 : fnOk Go.Proofs.Try.prog 12 = true := by kernel_rfl
theorem fk13 : fnOk Go.Proofs.Try.prog 13 = true := by kernel_rfl
theorem fk14 : fnOk Go.Proofs.Try.prog 14 = true := by kernel_rfl
theorem fk15 : fnOk Go.Proofs.Try.prog 15 = true := by kernel_rfl
theorem fk16 : fnOk Go.Proofs.Try.prog 16 = true := by kernel_rfl
theorem fk17 : fnOk Go.Proofs.Try.prog 17 = true := by kernel_rfl
theorem fk18 : fnOk Go.Proofs.Try.prog 18 = true := by kernel_rfl
theorem fk19 : fnOk Go.Proofs.Try.prog 19 = true := by kernel_rfl
theorem fk20 : fnOk Go.Proofs.Try.prog 20 = true := by kernel_rfl
theorem fk21 : fnOk Go.Proofs.Try.prog 21 = true := by kernel_rfl
theorem fk22 : fnOk Go.Proofs.Try.prog 22 = true := by kernel_rfl
theorem fk23 : fnOk Go.Proofs.Try.prog 23 = true := by kernel_rfl
theorem fk24 : fnOk Go.Proofs.Try.prog 24 = true := by kernel_rfl
theorem fk25 : fnOk Go.Proofs.Try.prog 25 = true := by kernel_rfl
theorem fk26 : fnOk Go.Proofs.Try.prog 26 = true := by kernel_rfl
theorem fk27 : fnOk Go.Proofs.Try.prog 27 = true := by kernel_rfl
theorem fk28 : fnOk Go.Proofs.Try.prog 28 = true := by kernel_rfl
theorem fk29 : fnOk Go.Proofs.Try.prog 29 = true := by kernel_rfl
theorem fk30 : fnOk Go.Proofs.Try.prog 30 = true := by kernel_rfl
theorem fk31 : fnOk Go.Proofs.Try.prog 31 = true := by kernel_rfl
theorem fk32 : fnOk Go.Proofs.Try.prog 32 = true := by kernel_rfl
theorem fk33 : fnOk Go.Proofs.Try.prog 33 = true := by kernel_rfl
theorem fk34 : fnOk Go.Proofs.Try.prog 34 = true := by kernel_rfl
theorem fk35 : fnOk Go.Proofs.Try.prog 35 = true := by kernel_rfl
theorem fk36 : fnOk Go.Proofs.Try.prog 36 = true := by kernel_rfl
theorem fk37 : fnOk Go.Proofs.Try.prog 37 = true := by kernel_rfl
theorem fk38 : fnOk Go.Proofs.Try.prog 38 = true := by kernel_rfl
theorem fk39 : fnOk Go.Proofs.Try.prog 39 = true := by kernel_rfl
theorem fk40 : fnOk Go.Proofs.Try.prog 40 = true := by kernel_rfl
theorem fk41 : fnOk Go.Proofs.Try.prog 41 = true := by kernel_rfl
theorem fk42 : fnOk Go.Proofs.Try.prog 42 = true := by kernel_rfl
theorem fk43 : fnOk Go.Proofs.Try.prog 43 = true := by kernel_rfl
theorem fk44 : fnOk Go.Proofs.Try.prog 44 = true := by kernel_rfl
theorem fk45 : fnOk Go.Proofs.Try.prog 45 = true := by kernel_rfl
theorem fk46 : fnOk Go.Proofs.Try.prog 46 = true := by kernel_rfl
theorem fk47 : fnOk Go.Proofs.Try.prog 47 = true := by kernel_rfl
theorem fk48 : fnOk Go.Proofs.Try.prog 48 = true := by kernel_rfl
theorem fk49 : fnOk Go.Proofs.Try.prog 49 = true := by kernel_rfl
theorem fk50 : fnOk Go.Proofs.Try.prog 50 = true := by kernel_rfl
theorem fk51 : fnOk Go.Proofs.Try.prog 51 = true := by kernel_rfl
theorem fk52 : fnOk Go.Proofs.Try.prog 52 = true := by kernel_rfl
theorem fk53 : fnOk Go.Proofs.Try.prog 53 = true := by kernel_rfl
theorem fk54 : fnOk Go.Proofs.Try.prog 54 = true := by kernel_rfl
theorem fk55 : fnOk Go.Proofs.Try.prog 55 = true := by kernel_rfl
theorem fk56 : fnOk Go.Proofs.Try.prog 56 = true := by kernel_rfl
theorem fk57 : fnOk Go.Proofs.Try.prog 57 = true := by kernel_rfl
theorem fk58 : fnOk Go.Proofs.Try.prog 58 = true := by kernel_rfl
theorem fk59 : fnOk Go.Proofs.Try.prog 59 = true := by kernel_rfl
theorem fk60 : fnOk Go.Proofs.Try.prog 60 = true := by kernel_rfl
theorem fk61 : fnOk Go.Proofs.Try.prog 61 = true := by kernel_rfl
theorem fk62 : fnOk Go.Proofs.Try.prog 62 = true := by kernel_rfl
theorem fk63 : fnOk Go.Proofs.Try.prog 63 = true := by kernel_rfl
theorem fk64 : fnOk Go.Proofs.Try.prog 64 = true := by kernel_rfl
theorem fk65 : fnOk Go.Proofs.Try.prog 65 = true := by kernel_rfl
theorem fk66 : fnOk Go.Proofs.Try.prog 66 = true := by kernel_rfl
theorem fk67 : fnOk Go.Proofs.Try.prog 67 = true := by kernel_rfl
theorem fk68 : fnOk Go.Proofs.Try.prog 68 = true := by kernel_rfl
theorem fk69 : fnOk Go.Proofs.Try.prog 69 = true := by kernel_rfl
theorem fk70 : fnOk Go.Proofs.Try.prog 70 = true := by kernel_rfl
theorem fk71 : fnOk Go.Proofs.Try.prog 71 = true := by kernel_rfl
theorem fk72 : fnOk Go.Proofs.Try.prog 72 = true := by kernel_rfl
theorem fk73 : fnOk Go.Proofs.Try.prog 73 = true := by kernel_rfl
theorem fk74 : fnOk Go.Proofs.Try.prog 74 = true := by kernel_rfl
theorem fk75 : fnOk Go.Proofs.Try.prog 75 = true := by kernel_rfl
theorem fk76 : fnOk Go.Proofs.Try.prog 76 = true := by kernel_rfl
theorem fk77 : fnOk Go.Proofs.Try.prog 77 = true := by kernel_rfl
theorem fk78 : fnOk Go.Proofs.Try.prog 78 = true := by kernel_rfl
theorem fk79 : fnOk Go.Proofs.Try.prog 79 = true := by kernel_rfl
theorem fk80 : fnOk Go.Proofs.Try.prog 80 = true := by kernel_rfl
theorem fk81 : fnOk Go.Proofs.Try.prog 81 = true := by kernel_rfl
theorem fk82 : fnOk Go.Proofs.Try.prog 82 = true := by kernel_rfl
theorem fk83 : fnOk Go.Proofs.Try.prog 83 = true := by kernel_rfl
theorem fk84 : fnOk Go.Proofs.Try.prog 84 = true := by kernel_rfl
theorem fk85 : fnOk Go.Proofs.Try.prog 85 = true := by kernel_rfl
theorem fk86 : fnOk Go.Proofs.Try.prog 86 = true := by kernel_rfl
theorem fk87 : fnOk Go.Proofs.Try.prog 87 = true := by kernel_rfl
theorem fk88 : fnOk Go.Proofs.Try.prog 88 = true := by kernel_rfl
theorem fk89 : fnOk Go.Proofs.Try.prog 89 = true := by kernel_rfl
theorem fk90 : fnOk Go.Proofs.Try.prog 90 = true := by kernel_rfl
theorem fk91 : fnOk Go.Proofs.Try.prog 91 = true := by kernel_rfl
theorem fk92 : fnOk Go.Proofs.Try.prog 92 = true := by kernel_rfl
theorem fk93 : fnOk Go.Proofs.Try.prog 93 = true := by kernel_rfl
theorem fk94 : fnOk Go.Proofs.Try.prog 94 = true := by kernel_rfl
theorem fk95 : fnOk Go.Proofs.Try.prog 95 = true := by kernel_rfl
theorem fk96 : fnOk Go.Proofs.Try.prog 96 = true := by kernel_rfl
theorem fk97 : fnOk Go.Proofs.Try.prog 97 = true := by kernel_rfl
theorem fk98 : fnOk Go.Proofs.Try.prog 98 = true := by kernel_rfl
theorem fk99 : fnOk Go.Proofs.Try.prog 99 = true := by kernel_rfl
theorem fk100 : fnOk Go.Proofs.Try.prog 100 = true := by kernel_rfl
theorem fk101 : fnOk Go.Proofs.Try.prog 101 = true := by kernel_rfl
theorem fk102 : fnOk Go.Proofs.Try.prog 102 = true := by kernel_rfl
theorem fk103 : fnOk Go.Proofs.Try.prog 103 = true := by kernel_rfl
theorem fk104 : fnOk Go.Proofs.Try.prog 104 = true := by kernel_rfl
theorem fk105 : fnOk Go.Proofs.Try.prog 105 = true := by kernel_rfl
theorem fk106 : fnOk Go.Proofs.Try.prog 106 = true := by kernel_rfl
theorem fk107 : fnOk Go.Proofs.Try.prog 107 = true := by kernel_rfl
theorem fk108 : fnOk Go.Proofs.Try.prog 108 = true := by kernel_rfl
theorem fk109 : fnOk Go.Proofs.Try.prog 109 = true := by kernel_rfl
theorem fk110 : fnOk Go.Proofs.Try.prog 110 = true := by kernel_rfl
theorem fk111 : fnOk Go.Proofs.Try.prog 111 = true := by kernel_rfl
theorem fk112 : fnOk Go.Proofs.Try.prog 112 = true := by kernel_rfl
theorem fk113 : fnOk Go.Proofs.Try.prog 113 = true := by kernel_rfl
theorem fk114 : fnOk Go.Proofs.Try.prog 114 = true := by kernel_rfl
theorem fk115 : fnOk Go.Proofs.Try.prog 115 = true := by kernel_rfl
theorem fk116 : fnOk Go.Proofs.Try.prog 116 = true := by kernel_rfl
theorem fk117 : fnOk Go.Proofs.Try.prog 117 = true := by kernel_rfl
theorem fk118 : fnOk Go.Proofs.Try.prog 118 = true := by kernel_rfl
theorem fk119 : fnOk Go.Proofs.Try.prog 119 = true := by kernel_rfl
theorem fk120 : fnOk Go.Proofs.Try.prog 120 = true := by kernel_rfl
theorem fk121 : fnOk Go.Proofs.Try.prog 121 = true := by kernel_rfl
theorem fk122 : fnOk Go.Proofs.Try.prog 122 = true := by kernel_rfl
theorem fk123 : fnOk Go.Proofs.Try.prog 123 = true := by kernel_rfl
theorem fk125 : fnOk Go.Proofs.Try.prog 125 = true := by kernel_rfl
theorem fk126 : fnOk Go.Proofs.Try.prog 126 = true := by kernel_rfl
theorem fk127 : fnOk Go.Proofs.Try.prog 127 = true := by kernel_rfl
theorem fk128 : fnOk Go.Proofs.Try.prog 128 = true := by kernel_rfl
theorem fk129 : fnOk Go.Proofs.Try.prog 129 = true := by kernel_rfl
theorem fk130 : fnOk Go.Proofs.Try.prog 130 = true := by kernel_rfl
theorem fk131 : fnOk Go.Proofs.Try.prog 131 = true := by kernel_rfl
theorem fk132 : fnOk Go.Proofs.Try.prog 132 = true := by kernel_rfl
theorem fk133 : fnOk Go.Proofs.Try.prog 133 = true := by kernel_rfl
theorem fk134 : fnOk Go.Proofs.Try.prog 134 = true := by kernel_rfl
theorem fk135 : fnOk Go.Proofs.Try.prog 135 = true := by kernel_rfl
theorem fk136 : fnOk Go.Proofs.Try.prog 136 = true := by kernel_rfl
theorem fk137 : fnOk Go.Proofs.Try.prog 137 = true := by kernel_rfl
theorem mixed : Go.Proofs.Try.prog.follows .mixedOrders = true := by kernel_rfl
end Abs
end Go.Proofs.Ytnjdkhfdjkjocaa
