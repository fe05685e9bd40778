import Derived.Test.YtmokoofibnoojaaA3
import Derived.Test.YtmokoofibnoojaaProg
set_option linter.unusedVariables false
set_option maxRecDepth 20000
namespace Go.Proofs.Ytmokoofibnoojaa
namespace Abs
/-! What the program has for types, and that its functions have bodies: written by a program of this session (wip/prelude.py) off the translation. -/
def ttab : TT := {
  size := [(1, 1, false), (2, 1, false), (3, 1, false), (4, 1, false), (5, 1, false), (6, 1, false), (7, 4, true), (8, 4, true), (9, 1, false), (10, 1, false), (11, 1, false), (12, 1, false), (13, 2, true), (14, 2, true), (15, 1, false), (16, 1, false), (17, 1, false), (18, 1, true), (19, 1, true), (20, 1, false), (21, 1, false), (22, 1, false), (23, 1, false), (24, 3, true), (25, 3, true), (26, 1, false), (27, 1, false), (29, 1, false), (30, 3, true), (31, 3, true), (32, 1, false), (34, 1, false), (35, 3, true), (37, 1, false), (38, 1, false), (39, 1, true), (40, 1, true), (41, 1, false), (42, 3, true), (43, 1, false), (44, 1, false), (45, 1, false), (46, 1, false), (47, 1, false), (48, 1, false), (49, 1, false), (50, 7, true), (51, 7, true), (53, 1, false), (54, 1, false), (55, 1, false), (56, 1, false), (57, 1, false), (58, 1, false), (59, 1, false), (60, 1, false), (61, 1, false), (62, 1, false), (63, 1, false), (64, 1, false), (65, 8, true), (66, 8, true), (67, 1, false), (68, 1, false), (69, 1, false), (70, 1, false), (71, 1, false), (72, 1, false), (73, 1, false), (74, 1, false), (75, 1, false), (76, 1, false), (77, 1, false), (79, 1, false), (81, 1, false), (82, 1, false), (83, 1, false), (84, 1, false), (85, 1, false), (86, 2, true), (87, 2, true), (88, 1, false), (90, 1, false), (91, 9, true), (92, 9, true), (93, 1, false), (95, 1, false), (96, 1, false), (97, 1, false), (98, 8, true), (99, 8, true), (100, 1, false), (101, 1, false), (102, 1, false), (103, 1, false), (104, 1, false), (105, 1, false), (106, 1, false), (107, 1, false), (108, 1, false), (109, 1, false), (110, 1, false), (111, 1, false), (112, 168, true), (113, 169, true), (114, 169, true), (115, 1, false), (116, 1, false), (117, 1, false), (118, 1, false), (119, 1, false), (120, 1, false), (121, 1, false), (122, 1, false), (123, 1, false), (124, 1, false), (125, 1, false), (127, 1, false), (128, 1, false), (129, 1, false), (130, 1, false), (131, 1, false), (132, 1, false), (133, 1, false), (134, 1, false), (135, 1, false), (136, 1, false), (137, 1, false), (138, 1, false), (139, 1, false), (140, 1, false), (141, 1, false), (142, 1, false), (143, 1, false), (144, 1, false), (145, 1, false), (146, 1, false), (147, 1, false), (148, 1, false), (149, 1, false), (150, 1, false), (151, 1, false), (152, 1, false), (153, 1, false), (154, 1, false), (155, 1, false), (156, 256, true), (157, 256, true), (159, 1, false), (160, 1, false), (161, 1, false), (162, 1, false), (164, 1, false), (165, 1, false), (166, 1, false), (168, 1, false), (169, 1, false), (170, 1, false), (171, 1, false), (172, 1, false), (173, 1, false), (174, 2, true), (175, 2, true), (176, 1, false), (177, 1, false), (178, 1, false), (179, 1, false), (180, 1, false), (181, 1, false), (182, 1, false), (183, 1, false), (184, 1, false), (185, 1, false), (186, 1, false), (188, 1, false), (189, 1, false), (190, 4, true), (191, 4, true), (192, 0, true), (193, 0, true), (194, 0, true), (195, 1, false), (196, 1, false), (197, 1, false), (198, 1, false), (199, 1, false), (200, 1, false), (201, 11, true), (202, 11, true), (203, 1, false)]
  flds := [(7, [(2, 0), (3, 1), (4, 2), (6, 3)]), (8, [(2, 0), (3, 1), (4, 2), (6, 3)]), (13, [(9, 0), (12, 1)]), (14, [(9, 0), (12, 1)]), (18, [(17, 0)]), (19, [(17, 0)]), (24, [(3, 0), (3, 1), (23, 2)]), (25, [(3, 0), (3, 1), (23, 2)]), (30, [(3, 0), (9, 1), (3, 2)]), (31, [(3, 0), (9, 1), (3, 2)]), (35, [(3, 0), (9, 1), (3, 2)]), (39, [(38, 0)]), (40, [(38, 0)]), (42, [(3, 0), (3, 1), (23, 2)]), (50, [(3, 0), (3, 1), (3, 2), (3, 3), (48, 4), (49, 5), (9, 6)]), (51, [(3, 0), (3, 1), (3, 2), (3, 3), (48, 4), (49, 5), (9, 6)]), (65, [(3, 0), (3, 1), (3, 2), (3, 3), (9, 4), (64, 5), (23, 6), (9, 7)]), (66, [(3, 0), (3, 1), (3, 2), (3, 3), (9, 4), (64, 5), (23, 6), (9, 7)]), (86, [(9, 0), (3, 1)]), (87, [(9, 0), (3, 1)]), (91, [(3, 0), (3, 1), (3, 2), (3, 3), (3, 4), (9, 5), (48, 6), (9, 7), (3, 8)]), (92, [(3, 0), (3, 1), (3, 2), (3, 3), (3, 4), (9, 5), (48, 6), (9, 7), (3, 8)]), (98, [(64, 0), (3, 1), (3, 2), (4, 3), (35, 4), (32, 7)]), (99, [(64, 0), (3, 1), (3, 2), (4, 3), (35, 4), (32, 7)]), (113, [(3, 0), (112, 1)]), (114, [(3, 0), (112, 1)]), (174, [(3, 0), (3, 1)]), (175, [(3, 0), (3, 1)]), (190, [(17, 0), (17, 1), (17, 2), (9, 3)]), (191, [(17, 0), (17, 1), (17, 2), (9, 3)]), (201, [(12, 0), (12, 1), (170, 2), (195, 3), (5, 4), (5, 5), (196, 6), (197, 7), (198, 8), (199, 9), (200, 10)]), (202, [(12, 0), (12, 1), (170, 2), (195, 3), (5, 4), (5, 5), (196, 6), (197, 7), (198, 8), (199, 9), (200, 10)])]
  arr := [(112, 24, 51), (156, 256, 4), (157, 256, 4), (192, 0, 16)]
  slc := [(22, 92, 9, 104), (23, 3, 1, 8), (38, 66, 8, 112), (48, 5, 1, 1), (49, 87, 2, 24), (64, 9, 1, 16), (151, 4, 1, 1), (173, 175, 2, 16)]
  zero := [(1, [.nilFunc]), (2, [.int .i64 0]), (3, [.int .i64 0]), (4, [.bool false]), (5, [.int .u8 0]), (6, [.int .u8 0]), (7, [.int .i64 0, .int .i64 0, .bool false, .int .u8 0]), (8, [.int .i64 0, .int .i64 0, .bool false, .int .u8 0]), (9, [.string ⟨#[]⟩]), (10, [.string ⟨#[]⟩]), (11, [.string ⟨#[]⟩]), (12, [.int .u64 0]), (13, [.string ⟨#[]⟩, .int .u64 0]), (14, [.string ⟨#[]⟩, .int .u64 0]), (15, [.pointer none]), (16, [.pointer none]), (17, [.pointer none]), (18, [.pointer none]), (19, [.pointer none]), (20, [.nilIface]), (21, [.int .i32 0]), (22, [.slice none 0 0]), (23, [.slice none 0 0]), (24, [.int .i64 0, .int .i64 0, .slice none 0 0]), (25, [.int .i64 0, .int .i64 0, .slice none 0 0]), (26, [.nilFunc]), (27, [.pointer none]), (29, [.nilFunc]), (30, [.int .i64 0, .string ⟨#[]⟩, .int .i64 0]), (31, [.int .i64 0, .string ⟨#[]⟩, .int .i64 0]), (32, [.int .i64 0]), (34, [.nilFunc]), (35, [.int .i64 0, .string ⟨#[]⟩, .int .i64 0]), (37, [.nilFunc]), (38, [.slice none 0 0]), (39, [.slice none 0 0]), (40, [.slice none 0 0]), (41, [.nilFunc]), (42, [.int .i64 0, .int .i64 0, .slice none 0 0]), (43, [.nilFunc]), (44, [.nilFunc]), (45, [.nilFunc]), (46, [.nilFunc]), (47, [.nilFunc]), (48, [.slice none 0 0]), (49, [.slice none 0 0]), (50, [.int .i64 0, .int .i64 0, .int .i64 0, .int .i64 0, .slice none 0 0, .slice none 0 0, .string ⟨#[]⟩]), (51, [.int .i64 0, .int .i64 0, .int .i64 0, .int .i64 0, .slice none 0 0, .slice none 0 0, .string ⟨#[]⟩]), (53, [.nilFunc]), (54, [.nilFunc]), (55, [.nilFunc]), (56, [.nilFunc]), (57, [.nilFunc]), (58, [.nilFunc]), (59, [.nilFunc]), (60, [.nilFunc]), (61, [.nilFunc]), (62, [.nilFunc]), (63, [.nilFunc]), (64, [.slice none 0 0]), (65, [.int .i64 0, .int .i64 0, .int .i64 0, .int .i64 0, .string ⟨#[]⟩, .slice none 0 0, .slice none 0 0, .string ⟨#[]⟩]), (66, [.int .i64 0, .int .i64 0, .int .i64 0, .int .i64 0, .string ⟨#[]⟩, .slice none 0 0, .slice none 0 0, .string ⟨#[]⟩]), (67, [.nilFunc]), (68, [.nilFunc]), (69, [.nilFunc]), (70, [.nilFunc]), (71, [.nilFunc]), (72, [.nilFunc]), (73, [.nilFunc]), (74, [.nilFunc]), (75, [.nilFunc]), (76, [.nilFunc]), (77, [.nilFunc]), (79, [.nilFunc]), (81, [.nilFunc]), (82, [.nilFunc]), (83, [.nilFunc]), (84, [.nilFunc]), (85, [.nilFunc]), (86, [.string ⟨#[]⟩, .int .i64 0]), (87, [.string ⟨#[]⟩, .int .i64 0]), (88, [.nilFunc]), (90, [.nilFunc]), (91, [.int .i64 0, .int .i64 0, .int .i64 0, .int .i64 0, .int .i64 0, .string ⟨#[]⟩, .slice none 0 0, .string ⟨#[]⟩, .int .i64 0]), (92, [.int .i64 0, .int .i64 0, .int .i64 0, .int .i64 0, .int .i64 0, .string ⟨#[]⟩, .slice none 0 0, .string ⟨#[]⟩, .int .i64 0]), (93, [.nilFunc]), (95, [.nilFunc]), (96, [.nilFunc]), (97, [.nilFunc]), (98, [.slice none 0 0, .int .i64 0, .int .i64 0, .bool false, .int .i64 0, .string ⟨#[]⟩, .int .i64 0, .int .i64 0]), (99, [.slice none 0 0, .int .i64 0, .int .i64 0, .bool false, .int .i64 0, .string ⟨#[]⟩, .int .i64 0, .int .i64 0]), (100, [.nilFunc]), (101, [.nilFunc]), (102, [.nilFunc]), (103, [.nilFunc]), (104, [.nilFunc]), (105, [.nilFunc]), (106, [.pointer none]), (107, [.nilFunc]), (108, [.nilFunc]), (109, [.nilFunc]), (110, [.nilFunc]), (111, [.nilFunc]), (112, [.int .i64 0, .int .i64 0, .int .i64 0, .int .i64 0, .slice none 0 0, .slice none 0 0, .string ⟨#[]⟩, .int .i64 0, .int .i64 0, .int .i64 0, .int .i64 0, .slice none 0 0, .slice none 0 0, .string ⟨#[]⟩, .int .i64 0, .int .i64 0, .int .i64 0, .int .i64 0, .slice none 0 0, .slice none 0 0, .string ⟨#[]⟩, .int .i64 0, .int .i64 0, .int .i64 0, .int .i64 0, .slice none 0 0, .slice none 0 0, .string ⟨#[]⟩, .int .i64 0, .int .i64 0, .int .i64 0, .int .i64 0, .slice none 0 0, .slice none 0 0, .string ⟨#[]⟩, .int .i64 0, .int .i64 0, .int .i64 0, .int .i64 0, .slice none 0 0, .slice none 0 0, .string ⟨#[]⟩, .int .i64 0, .int .i64 0, .int .i64 0, .int .i64 0, .slice none 0 0, .slice none 0 0, .string ⟨#[]⟩, .int .i64 0, .int .i64 0, .int .i64 0, .int .i64 0, .slice none 0 0, .slice none 0 0, .string ⟨#[]⟩, .int .i64 0, .int .i64 0, .int .i64 0, .int .i64 0, .slice none 0 0, .slice none 0 0, .string ⟨#[]⟩, .int .i64 0, .int .i64 0, .int .i64 0, .int .i64 0, .slice none 0 0, .slice none 0 0, .string ⟨#[]⟩, .int .i64 0, .int .i64 0, .int .i64 0, .int .i64 0, .slice none 0 0, .slice none 0 0, .string ⟨#[]⟩, .int .i64 0, .int .i64 0, .int .i64 0, .int .i64 0, .slice none 0 0, .slice none 0 0, .string ⟨#[]⟩, .int .i64 0, .int .i64 0, .int .i64 0, .int .i64 0, .slice none 0 0, .slice none 0 0, .string ⟨#[]⟩, .int .i64 0, .int .i64 0, .int .i64 0, .int .i64 0, .slice none 0 0, .slice none 0 0, .string ⟨#[]⟩, .int .i64 0, .int .i64 0, .int .i64 0, .int .i64 0, .slice none 0 0, .slice none 0 0, .string ⟨#[]⟩, .int .i64 0, .int .i64 0, .int .i64 0, .int .i64 0, .slice none 0 0, .slice none 0 0, .string ⟨#[]⟩, .int .i64 0, .int .i64 0, .int .i64 0, .int .i64 0, .slice none 0 0, .slice none 0 0, .string ⟨#[]⟩, .int .i64 0, .int .i64 0, .int .i64 0, .int .i64 0, .slice none 0 0, .slice none 0 0, .string ⟨#[]⟩, .int .i64 0, .int .i64 0, .int .i64 0, .int .i64 0, .slice none 0 0, .slice none 0 0, .string ⟨#[]⟩, .int .i64 0, .int .i64 0, .int .i64 0, .int .i64 0, .slice none 0 0, .slice none 0 0, .string ⟨#[]⟩, .int .i64 0, .int .i64 0, .int .i64 0, .int .i64 0, .slice none 0 0, .slice none 0 0, .string ⟨#[]⟩, .int .i64 0, .int .i64 0, .int .i64 0, .int .i64 0, .slice none 0 0, .slice none 0 0, .string ⟨#[]⟩, .int .i64 0, .int .i64 0, .int .i64 0, .int .i64 0, .slice none 0 0, .slice none 0 0, .string ⟨#[]⟩, .int .i64 0, .int .i64 0, .int .i64 0, .int .i64 0, .slice none 0 0, .slice none 0 0, .string ⟨#[]⟩]), (113, [.int .i64 0, .int .i64 0, .int .i64 0, .int .i64 0, .int .i64 0, .slice none 0 0, .slice none 0 0, .string ⟨#[]⟩, .int .i64 0, .int .i64 0, .int .i64 0, .int .i64 0, .slice none 0 0, .slice none 0 0, .string ⟨#[]⟩, .int .i64 0, .int .i64 0, .int .i64 0, .int .i64 0, .slice none 0 0, .slice none 0 0, .string ⟨#[]⟩, .int .i64 0, .int .i64 0, .int .i64 0, .int .i64 0, .slice none 0 0, .slice none 0 0, .string ⟨#[]⟩, .int .i64 0, .int .i64 0, .int .i64 0, .int .i64 0, .slice none 0 0, .slice none 0 0, .string ⟨#[]⟩, .int .i64 0, .int .i64 0, .int .i64 0, .int .i64 0, .slice none 0 0, .slice none 0 0, .string ⟨#[]⟩, .int .i64 0, .int .i64 0, .int .i64 0, .int .i64 0, .slice none 0 0, .slice none 0 0, .string ⟨#[]⟩, .int .i64 0, .int .i64 0, .int .i64 0, .int .i64 0, .slice none 0 0, .slice none 0 0, .string ⟨#[]⟩, .int .i64 0, .int .i64 0, .int .i64 0, .int .i64 0, .slice none 0 0, .slice none 0 0, .string ⟨#[]⟩, .int .i64 0, .int .i64 0, .int .i64 0, .int .i64 0, .slice none 0 0, .slice none 0 0, .string ⟨#[]⟩, .int .i64 0, .int .i64 0, .int .i64 0, .int .i64 0, .slice none 0 0, .slice none 0 0, .string ⟨#[]⟩, .int .i64 0, .int .i64 0, .int .i64 0, .int .i64 0, .slice none 0 0, .slice none 0 0, .string ⟨#[]⟩, .int .i64 0, .int .i64 0, .int .i64 0, .int .i64 0, .slice none 0 0, .slice none 0 0, .string ⟨#[]⟩, .int .i64 0, .int .i64 0, .int .i64 0, .int .i64 0, .slice none 0 0, .slice none 0 0, .string ⟨#[]⟩, .int .i64 0, .int .i64 0, .int .i64 0, .int .i64 0, .slice none 0 0, .slice none 0 0, .string ⟨#[]⟩, .int .i64 0, .int .i64 0, .int .i64 0, .int .i64 0, .slice none 0 0, .slice none 0 0, .string ⟨#[]⟩, .int .i64 0, .int .i64 0, .int .i64 0, .int .i64 0, .slice none 0 0, .slice none 0 0, .string ⟨#[]⟩, .int .i64 0, .int .i64 0, .int .i64 0, .int .i64 0, .slice none 0 0, .slice none 0 0, .string ⟨#[]⟩, .int .i64 0, .int .i64 0, .int .i64 0, .int .i64 0, .slice none 0 0, .slice none 0 0, .string ⟨#[]⟩, .int .i64 0, .int .i64 0, .int .i64 0, .int .i64 0, .slice none 0 0, .slice none 0 0, .string ⟨#[]⟩, .int .i64 0, .int .i64 0, .int .i64 0, .int .i64 0, .slice none 0 0, .slice none 0 0, .string ⟨#[]⟩, .int .i64 0, .int .i64 0, .int .i64 0, .int .i64 0, .slice none 0 0, .slice none 0 0, .string ⟨#[]⟩, .int .i64 0, .int .i64 0, .int .i64 0, .int .i64 0, .slice none 0 0, .slice none 0 0, .string ⟨#[]⟩, .int .i64 0, .int .i64 0, .int .i64 0, .int .i64 0, .slice none 0 0, .slice none 0 0, .string ⟨#[]⟩]), (114, [.int .i64 0, .int .i64 0, .int .i64 0, .int .i64 0, .int .i64 0, .slice none 0 0, .slice none 0 0, .string ⟨#[]⟩, .int .i64 0, .int .i64 0, .int .i64 0, .int .i64 0, .slice none 0 0, .slice none 0 0, .string ⟨#[]⟩, .int .i64 0, .int .i64 0, .int .i64 0, .int .i64 0, .slice none 0 0, .slice none 0 0, .string ⟨#[]⟩, .int .i64 0, .int .i64 0, .int .i64 0, .int .i64 0, .slice none 0 0, .slice none 0 0, .string ⟨#[]⟩, .int .i64 0, .int .i64 0, .int .i64 0, .int .i64 0, .slice none 0 0, .slice none 0 0, .string ⟨#[]⟩, .int .i64 0, .int .i64 0, .int .i64 0, .int .i64 0, .slice none 0 0, .slice none 0 0, .string ⟨#[]⟩, .int .i64 0, .int .i64 0, .int .i64 0, .int .i64 0, .slice none 0 0, .slice none 0 0, .string ⟨#[]⟩, .int .i64 0, .int .i64 0, .int .i64 0, .int .i64 0, .slice none 0 0, .slice none 0 0, .string ⟨#[]⟩, .int .i64 0, .int .i64 0, .int .i64 0, .int .i64 0, .slice none 0 0, .slice none 0 0, .string ⟨#[]⟩, .int .i64 0, .int .i64 0, .int .i64 0, .int .i64 0, .slice none 0 0, .slice none 0 0, .string ⟨#[]⟩, .int .i64 0, .int .i64 0, .int .i64 0, .int .i64 0, .slice none 0 0, .slice none 0 0, .string ⟨#[]⟩, .int .i64 0, .int .i64 0, .int .i64 0, .int .i64 0, .slice none 0 0, .slice none 0 0, .string ⟨#[]⟩, .int .i64 0, .int .i64 0, .int .i64 0, .int .i64 0, .slice none 0 0, .slice none 0 0, .string ⟨#[]⟩, .int .i64 0, .int .i64 0, .int .i64 0, .int .i64 0, .slice none 0 0, .slice none 0 0, .string ⟨#[]⟩, .int .i64 0, .int .i64 0, .int .i64 0, .int .i64 0, .slice none 0 0, .slice none 0 0, .string ⟨#[]⟩, .int .i64 0, .int .i64 0, .int .i64 0, .int .i64 0, .slice none 0 0, .slice none 0 0, .string ⟨#[]⟩, .int .i64 0, .int .i64 0, .int .i64 0, .int .i64 0, .slice none 0 0, .slice none 0 0, .string ⟨#[]⟩, .int .i64 0, .int .i64 0, .int .i64 0, .int .i64 0, .slice none 0 0, .slice none 0 0, .string ⟨#[]⟩, .int .i64 0, .int .i64 0, .int .i64 0, .int .i64 0, .slice none 0 0, .slice none 0 0, .string ⟨#[]⟩, .int .i64 0, .int .i64 0, .int .i64 0, .int .i64 0, .slice none 0 0, .slice none 0 0, .string ⟨#[]⟩, .int .i64 0, .int .i64 0, .int .i64 0, .int .i64 0, .slice none 0 0, .slice none 0 0, .string ⟨#[]⟩, .int .i64 0, .int .i64 0, .int .i64 0, .int .i64 0, .slice none 0 0, .slice none 0 0, .string ⟨#[]⟩, .int .i64 0, .int .i64 0, .int .i64 0, .int .i64 0, .slice none 0 0, .slice none 0 0, .string ⟨#[]⟩, .int .i64 0, .int .i64 0, .int .i64 0, .int .i64 0, .slice none 0 0, .slice none 0 0, .string ⟨#[]⟩]), (115, [.nilFunc]), (116, [.nilFunc]), (117, [.nilFunc]), (118, [.nilFunc]), (119, [.nilFunc]), (120, [.nilFunc]), (121, [.nilFunc]), (122, [.nilFunc]), (123, [.nilFunc]), (124, [.nilFunc]), (125, [.nilFunc]), (127, [.nilFunc]), (128, [.nilFunc]), (129, [.nilFunc]), (130, [.nilFunc]), (131, [.nilFunc]), (132, [.nilFunc]), (133, [.nilFunc]), (134, [.nilFunc]), (135, [.nilFunc]), (136, [.nilFunc]), (137, [.nilFunc]), (138, [.nilFunc]), (139, [.nilFunc]), (140, [.nilFunc]), (141, [.nilFunc]), (142, [.nilFunc]), (143, [.nilFunc]), (144, [.nilFunc]), (145, [.nilFunc]), (146, [.nilFunc]), (147, [.int .u64 0]), (148, [.nilFunc]), (149, [.nilFunc]), (150, [.nilFunc]), (151, [.slice none 0 0]), (152, [.nilFunc]), (153, [.nilFunc]), (154, [.nilFunc]), (155, [.nilFunc]), (159, [.nilFunc]), (160, [.nilFunc]), (161, [.nilFunc]), (162, [.int .i64 0]), (164, [.nilFunc]), (165, [.nilFunc]), (166, [.nilFunc]), (168, [.nilFunc]), (169, [.nilFunc]), (170, [.int .u32 0]), (171, [.nilFunc]), (172, [.int .u64 0]), (173, [.slice none 0 0]), (174, [.int .i64 0, .int .i64 0]), (175, [.int .i64 0, .int .i64 0]), (176, [.nilFunc]), (177, [.nilFunc]), (178, [.pointer none]), (179, [.int .u64 0]), (180, [.nilFunc]), (181, [.nilFunc]), (182, [.nilFunc]), (183, [.pointer none]), (184, [.nilFunc]), (185, [.nilFunc]), (186, [.pointer none]), (188, [.nilFunc]), (189, [.nilFunc]), (190, [.pointer none, .pointer none, .pointer none, .string ⟨#[]⟩]), (191, [.pointer none, .pointer none, .pointer none, .string ⟨#[]⟩]), (192, []), (193, []), (194, []), (195, [.int .u8 0]), (196, [.int .u8 0]), (197, [.nilFunc]), (198, [.pointer none]), (199, [.int .i32 0]), (200, [.int .i32 0]), (201, [.int .u64 0, .int .u64 0, .int .u32 0, .int .u8 0, .int .u8 0, .int .u8 0, .int .u8 0, .nilFunc, .pointer none, .int .i32 0, .int .i32 0]), (202, [.int .u64 0, .int .u64 0, .int .u32 0, .int .u8 0, .int .u8 0, .int .u8 0, .int .u8 0, .nilFunc, .pointer none, .int .i32 0, .int .i32 0]), (203, [.pointer none])]
  ints := [(2, .i64), (3, .i64), (5, .u8), (6, .u8), (12, .u64), (21, .i32), (32, .i64), (147, .u64), (162, .i64), (170, .u32), (172, .u64), (179, .u64), (195, .u8), (196, .u8), (199, .i32), (200, .i32)]
  ptrs := [(15, ()), (16, ()), (17, ()), (27, ()), (106, ()), (178, ()), (183, ()), (186, ()), (198, ())]
  fns := [(1, ()), (26, ()), (29, ()), (34, ()), (37, ()), (41, ()), (43, ()), (44, ()), (45, ()), (46, ()), (47, ()), (53, ()), (54, ()), (55, ()), (56, ()), (57, ()), (58, ()), (59, ()), (60, ()), (61, ()), (62, ()), (63, ()), (67, ()), (68, ()), (69, ()), (70, ()), (71, ()), (72, ()), (73, ()), (74, ()), (75, ()), (76, ()), (77, ()), (79, ()), (81, ()), (82, ()), (83, ()), (84, ()), (85, ()), (88, ()), (90, ()), (93, ()), (95, ()), (96, ()), (97, ()), (100, ()), (101, ()), (102, ()), (103, ()), (104, ()), (105, ()), (107, ()), (108, ()), (109, ()), (110, ()), (111, ()), (115, ()), (116, ()), (117, ()), (118, ()), (119, ()), (120, ()), (121, ()), (122, ()), (123, ()), (124, ()), (125, ()), (127, ()), (128, ()), (129, ()), (130, ()), (131, ()), (132, ()), (133, ()), (134, ()), (135, ()), (136, ()), (137, ()), (138, ()), (139, ()), (140, ()), (141, ()), (142, ()), (143, ()), (144, ()), (145, ()), (146, ()), (148, ()), (149, ()), (150, ()), (152, ()), (153, ()), (154, ()), (155, ()), (159, ()), (160, ()), (161, ()), (164, ()), (165, ()), (166, ()), (168, ()), (169, ()), (171, ()), (176, ()), (177, ()), (180, ()), (181, ()), (182, ()), (184, ()), (185, ()), (188, ()), (189, ()), (197, ())]
  strs := [(9, ()), (10, ()), (11, ())]
  bools := [(4, ())]
  maps := [] }
theorem ttab_chk : ttCheck ttab Go.Proofs.Try.prog = true := by kernel_rfl
theorem ttab_zero : zerosOk Go.Proofs.Try.prog ttab.zero := by
  simp only [ttab, zerosOk]
  exact ⟨by kernel_rfl, by kernel_rfl, by kernel_rfl, by kernel_rfl, by kernel_rfl, by kernel_rfl, by kernel_rfl, by kernel_rfl, by kernel_rfl, by kernel_rfl, by kernel_rfl, by kernel_rfl, by kernel_rfl, by kernel_rfl, by kernel_rfl, by kernel_rfl, by kernel_rfl, by kernel_rfl, by kernel_rfl, by kernel_rfl, by kernel_rfl, by kernel_rfl, by kernel_rfl, by kernel_rfl, by kernel_rfl, by kernel_rfl, by kernel_rfl, by kernel_rfl, by kernel_rfl, by kernel_rfl, by kernel_rfl, by kernel_rfl, by kernel_rfl, by kernel_rfl, by kernel_rfl, by kernel_rfl, by kernel_rfl, by kernel_rfl, by kernel_rfl, by kernel_rfl, by kernel_rfl, by kernel_rfl, by kernel_rfl, by kernel_rfl, by kernel_rfl, by kernel_rfl, by kernel_rfl, by kernel_rfl, by kernel_rfl, by kernel_rfl, by kernel_rfl, by kernel_rfl, by kernel_rfl, by kernel_rfl, by kernel_rfl, by kernel_rfl, by kernel_rfl, by kernel_rfl, by kernel_rfl, by kernel_rfl, by kernel_rfl, by kernel_rfl, by kernel_rfl, by kernel_rfl, by kernel_rfl, by kernel_rfl, by kernel_rfl, by kernel_rfl, by kernel_rfl, by kernel_rfl, by kernel_rfl, by kernel_rfl, by kernel_rfl, by kernel_rfl, by kernel_rfl, by kernel_rfl, by kernel_rfl, by kernel_rfl, by kernel_rfl, by kernel_rfl, by kernel_rfl, by kernel_rfl, by kernel_rfl, by kernel_rfl, by kernel_rfl, by kernel_rfl, by kernel_rfl, by kernel_rfl, by kernel_rfl, by kernel_rfl, by kernel_rfl, by kernel_rfl, by kernel_rfl, by kernel_rfl, by kernel_rfl, by kernel_rfl, by kernel_rfl, by kernel_rfl, by kernel_rfl, by kernel_rfl, by kernel_rfl, by kernel_rfl, by kernel_rfl, by kernel_rfl, by kernel_rfl, by kernel_rfl, by kernel_rfl, by kernel_rfl, by kernel_rfl, by kernel_rfl, by kernel_rfl, by kernel_rfl, by kernel_rfl, by kernel_rfl, by kernel_rfl, by kernel_rfl, by kernel_rfl, by kernel_rfl, by kernel_rfl, by kernel_rfl, by kernel_rfl, by kernel_rfl, by kernel_rfl, by kernel_rfl, by kernel_rfl, by kernel_rfl, by kernel_rfl, by kernel_rfl, by kernel_rfl, by kernel_rfl, by kernel_rfl, by kernel_rfl, by kernel_rfl, by kernel_rfl, by kernel_rfl, by kernel_rfl, by kernel_rfl, by kernel_rfl, by kernel_rfl, by kernel_rfl, by kernel_rfl, by kernel_rfl, by kernel_rfl, by kernel_rfl, by kernel_rfl, by kernel_rfl, by kernel_rfl, by kernel_rfl, by kernel_rfl, by kernel_rfl, by kernel_rfl, by kernel_rfl, by kernel_rfl, by kernel_rfl, by kernel_rfl, by kernel_rfl, by kernel_rfl, by kernel_rfl, by kernel_rfl, by kernel_rfl, by kernel_rfl, by kernel_rfl, by kernel_rfl, by kernel_rfl, by kernel_rfl, by kernel_rfl, by kernel_rfl, by kernel_rfl, by kernel_rfl, by kernel_rfl, by kernel_rfl, by kernel_rfl, by kernel_rfl, by kernel_rfl, by kernel_rfl, by kernel_rfl, by kernel_rfl, by kernel_rfl, by kernel_rfl, by kernel_rfl, by kernel_rfl, by kernel_rfl, by kernel_rfl, by kernel_rfl, by kernel_rfl, by kernel_rfl, by kernel_rfl, by kernel_rfl, trivial⟩
theorem tk : TTok ttab Go.Proofs.Try.prog := ⟨ttab_chk, ttab_zero⟩
theorem fk2 : fnOk Go.Proofs.Try.prog 2 = true := by kernel_rfl
theorem fk3 : fnOk Go.Proofs.Try.prog 3 = true := by kernel_rfl
theorem fk4 : fnOk Go.Proofs.Try.prog 4 = true := by kernel_rfl
theorem fk5 : fnOk Go.Proofs.Try.prog 5 = true := by kernel_rfl
theorem fk6 : fnOk Go.Proofs.Try.prog 6 = true := by kernel_rfl
theorem fk7 : fnOk Go.Proofs.Try.prog 7 = true := by kernel_rfl
theorem fk8 : fnOk Go.Proofs.Try.prog 8 = true := by kernel_rfl
theorem fk9 : fnOk Go.Proofs.Try.prog 9 = true := by kernel_rfl
theorem fk10 : fnOk Go.Proofs.Try.prog 10 = true := by kernel_rfl
theorem fk11 : fnOk Go.Proofs.Try.prog 11 = true := by kernel_rfl
theorem fk12 : fnOk Go.Proofs.Try.prog 12 = true := by kernel_rfl
theorem fk13 : fnOk Go.Proofs.Try.prog 13 = true := by kernel_rfl
theorem fk14 : fnOk Go.Proofs.Try.prog 14 = true := by kernel_rfl
theorem fk15 : fnOk Go.Proofs.Try.prog 15 = true := by kernel_rfl
theorem fk16 : fnOk Go.Proofs.Try.prog 16 = true := by kernel_rfl
theorem fk17 : fnOk Go.Proofs.Try.prog 17 = true := by kernel_rfl
theorem fk18 : fnOk Go.Proofs.Try.prog 18 = true := by kernel_rfl
theorem fk19 : fnOk Go.Proofs.Try.prog 19 = true := by kernel_rfl
theorem fk20 : fnOk Go.Proofs.Try.prog 20 = true := by kernel_rfl
theorem fk21 : fnOk Go.Proofs.Try.prog 21 = true := by kernel_rfl
theorem fk22 : fnOk Go.Proofs.Try.prog 22 = true := by kernel_rfl
theorem fk23 : fnOk Go.Proofs.Try.prog 23 = true := by kernel_rfl
theorem fk24 : fnOk Go.Proofs.Try.prog 24 = true := by kernel_rfl
theorem fk25 : fnOk Go.Proofs.Try.prog 25 = true := by kernel_rfl
theorem fk26 : fnOk Go.Proofs.Try.prog 26 = true := by kernel_rfl
theorem fk27 : fnOk Go.Proofs.Try.prog 27 = true := by kernel_rfl
theorem fk28 : fnOk Go.Proofs.Try.prog 28 = true := by kernel_rfl
theorem fk29 : fnOk Go.Proofs.Try.prog 29 = true := by kernel_rfl
theorem fk30 : fnOk Go.Proofs.Try.prog 30 = true := by kernel_rfl
theorem fk31 : fnOk Go.Proofs.Try.prog 31 = true := by kernel_rfl
theorem fk32 : fnOk Go.Proofs.Try.prog 32 = true := by kernel_rfl
theorem fk33 : fnOk Go.Proofs.Try.prog 33 = true := by kernel_rfl
theorem fk34 : fnOk Go.Proofs.Try.prog 34 = true := by kernel_rfl
theorem fk35 : fnOk Go.Proofs.Try.prog 35 = true := by kernel_rfl
theorem fk36 : fnOk Go.Proofs.Try.prog 36 = true := by kernel_rfl
theorem fk37 : fnOk Go.Proofs.Try.prog 37 = true := by kernel_rfl
theorem fk38 : fnOk Go.Proofs.Try.prog 38 = true := by kernel_rfl
theorem fk39 : fnOk Go.Proofs.Try.prog 39 = true := by kernel_rfl
theorem fk40 : fnOk Go.Proofs.Try.prog 40 = true := by kernel_rfl
theorem fk41 : fnOk Go.Proofs.Try.prog 41 = true := by kernel_rfl
theorem fk42 : fnOk Go.Proofs.Try.prog 42 = true := by kernel_rfl
theorem fk43 : fnOk Go.Proofs.Try.prog 43 = true := by kernel_rfl
theorem fk44 : fnOk Go.Proofs.Try.prog 44 = true := by kernel_rfl
theorem fk45 : fnOk Go.Proofs.Try.prog 45 = true := by kernel_rfl
theorem fk46 : fnOk Go.Proofs.Try.prog 46 = true := by kernel_rfl
theorem fk47 : fnOk Go.Proofs.Try.prog 47 = true := by kernel_rfl
theorem fk48 : fnOk Go.Proofs.Try.prog 48 = true := by kernel_rfl
theorem fk49 : fnOk Go.Proofs.Try.prog 49 = true := by kernel_rfl
theorem fk50 : fnOk Go.Proofs.Try.prog 50 = true := by kernel_rfl
theorem fk51 : fnOk Go.Proofs.Try.prog 51 = true := by kernel_rfl
theorem fk52 : fnOk Go.Proofs.Try.prog 52 = true := by kernel_rfl
theorem fk53 : fnOk Go.Proofs.Try.prog 53 = true := by kernel_rfl
theorem fk54 : fnOk Go.Proofs.Try.prog 54 = true := by kernel_rfl
theorem fk55 : fnOk Go.Proofs.Try.prog 55 = true := by kernel_rfl
theorem fk56 : fnOk Go.Proofs.Try.prog 56 = true := by kernel_rfl
theorem fk57 : fnOk Go.Proofs.Try.prog 57 = true := by kernel_rfl
theorem fk58 : fnOk Go.Proofs.Try.prog 58 = true := by kernel_rfl
theorem fk59 : fnOk Go.Proofs.Try.prog 59 = true := by kernel_rfl
theorem fk60 : fnOk Go.Proofs.Try.prog 60 = true := by kernel_rfl
theorem fk61 : fnOk Go.Proofs.Try.prog 61 = true := by kernel_rfl
theorem fk62 : fnOk Go.Proofs.Try.prog 62 = true := by kernel_rfl
theorem fk63 : fnOk Go.Proofs.Try.prog 63 = true := by kernel_rfl
theorem fk64 : fnOk Go.Proofs.Try.prog 64 = true := by kernel_rfl
theorem fk65 : fnOk Go.Proofs.Try.prog 65 = true := by kernel_rfl
theorem fk66 : fnOk Go.Proofs.Try.prog 66 = true := by kernel_rfl
theorem fk67 : fnOk Go.Proofs.Try.prog 67 = true := by kernel_rfl
theorem fk68 : fnOk Go.Proofs.Try.prog 68 = true := by kernel_rfl
theorem fk69 : fnOk Go.Proofs.Try.prog 69 = true := by kernel_rfl
theorem fk70 : fnOk Go.Proofs.Try.prog 70 = true := by kernel_rfl
theorem fk71 : fnOk Go.Proofs.Try.prog 71 = true := by kernel_rfl
theorem fk72 : fnOk Go.Proofs.Try.prog 72 = true := by kernel_rfl
theorem fk73 : fnOk Go.Proofs.Try.prog 73 = true := by kernel_rfl
theorem fk74 : fnOk Go.Proofs.Try.prog 74 = true := by kernel_rfl
theorem fk75 : fnOk Go.Proofs.Try.prog 75 = true := by kernel_rfl
theorem fk76 : fnOk Go.Proofs.Try.prog 76 = true := by kernel_rfl
theorem fk77 : fnOk Go.Proofs.Try.prog 77 = true := by kernel_rfl
theorem fk78 : fnOk Go.Proofs.Try.prog 78 = true := by kernel_rfl
theorem fk79 : fnOk Go.Proofs.Try.prog 79 = true := by kernel_rfl
theorem fk80 : fnOk Go.Proofs.Try.prog 80 = true := by kernel_rfl
theorem fk81 : fnOk Go.Proofs.Try.prog 81 = true := by kernel_rfl
theorem fk82 : fnOk Go.Proofs.Try.prog 82 = true := by kernel_rfl
theorem fk83 : fnOk Go.Proofs.Try.prog 83 = true := by kernel_rfl
theorem fk84 : fnOk Go.Proofs.Try.prog 84 = true := by kernel_rfl
theorem fk85 : fnOk Go.Proofs.Try.prog 85 = true := by kernel_rfl
theorem fk86 : fnOk Go.Proofs.Try.prog 86 = true := by kernel_rfl
theorem fk87 : fnOk Go.Proofs.Try.prog 87 = true := by kernel_rfl
theorem fk88 : fnOk Go.Proofs.Try.prog 88 = true := by kernel_rfl
theorem fk89 : fnOk Go.Proofs.Try.prog 89 = true := by kernel_rfl
theorem fk90 : fnOk Go.Proofs.Try.prog 90 = true := by kernel_rfl
theorem fk91 : fnOk Go.Proofs.Try.prog 91 = true := by kernel_rfl
theorem fk92 : fnOk Go.Proofs.Try.prog 92 = true := by kernel_rfl
theorem fk93 : fnOk Go.Proofs.Try.prog 93 = true := by kernel_rfl
theorem fk94 : fnOk Go.Proofs.Try.prog 94 = true := by kernel_rfl
theorem fk95 : fnOk Go.Proofs.Try.prog 95 = true := by kernel_rfl
theorem fk96 : fnOk Go.Proofs.Try.prog 96 = true := by kernel_rfl
theorem fk97 : fnOk Go.Proofs.Try.prog 97 = true := by kernel_rfl
theorem fk98 : fnOk Go.Proofs.Try.prog 98 = true := by kernel_rfl
theorem fk99 : fnOk Go.Proofs.Try.prog 99 = true := by kernel_rfl
theorem fk100 : fnOk Go.Proofs.Try.prog 100 = true := by kernel_rfl
theorem fk101 : fnOk Go.Proofs.Try.prog 101 = true := by kernel_rfl
theorem fk102 : fnOk Go.Proofs.Try.prog 102 = true := by kernel_rfl
theorem fk103 : fnOk Go.Proofs.Try.prog 103 = true := by kernel_rfl
theorem fk104 : fnOk Go.Proofs.Try.prog 104 = true := by kernel_rfl
theorem fk105 : fnOk Go.Proofs.Try.prog 105 = true := by kernel_rfl
theorem fk106 : fnOk Go.Proofs.Try.prog 106 = true := by kernel_rfl
theorem fk107 : fnOk Go.Proofs.Try.prog 107 = true := by kernel_rfl
theorem fk108 : fnOk Go.Proofs.Try.prog 108 = true := by kernel_rfl
theorem fk109 : fnOk Go.Proofs.Try.prog 109 = true := by kernel_rfl
theorem fk110 : fnOk Go.Proofs.Try.prog 110 = true := by kernel_rfl
theorem fk111 : fnOk Go.Proofs.Try.prog 111 = true := by kernel_rfl
theorem fk112 : fnOk Go.Proofs.Try.prog 112 = true := by kernel_rfl
theorem fk113 : fnOk Go.Proofs.Try.prog 113 = true := by kernel_rfl
theorem fk114 : fnOk Go.Proofs.Try.prog 114 = true := by kernel_rfl
theorem fk115 : fnOk Go.Proofs.Try.prog 115 = true := by kernel_rfl
theorem fk116 : fnOk Go.Proofs.Try.prog 116 = true := by kernel_rfl
theorem fk117 : fnOk Go.Proofs.Try.prog 117 = true := by kernel_rfl
theorem fk118 : fnOk Go.Proofs.Try.prog 118 = true := by kernel_rfl
theorem fk119 : fnOk Go.Proofs.Try.prog 119 = true := by kernel_rfl
theorem fk120 : fnOk Go.Proofs.Try.prog 120 = true := by kernel_rfl
theorem fk121 : fnOk Go.Proofs.Try.prog 121 = true := by kernel_rfl
theorem fk122 : fnOk Go.Proofs.Try.prog 122 = true := by kernel_rfl
theorem fk123 : fnOk Go.Proofs.Try.prog 123 = true := by kernel_rfl
theorem fk124 : fnOk Go.Proofs.Try.prog 124 = true := by kernel_rfl
theorem fk125 : fnOk Go.Proofs.Try.prog 125 = true := by kernel_rfl
theorem fk126 : fnOk Go.Proofs.Try.prog 126 = true := by kernel_rfl
theorem fk127 : fnOk Go.Proofs.Try.prog 127 = true := by kernel_rfl
theorem fk128 : fnOk Go.Proofs.Try.prog 128 = true := by kernel_rfl
theorem fk129 : fnOk Go.Proofs.Try.prog 129 = true := by kernel_rfl
theorem fk130 : fnOk Go.Proofs.Try.prog 130 = true := by kernel_rfl
theorem fk131 : fnOk Go.Proofs.Try.prog 131 = true := by kernel_rfl
theorem fk132 : fnOk Go.Proofs.Try.prog 132 = true := by kernel_rfl
theorem fk133 : fnOk Go.Proofs.Try.prog 133 = true := by kernel_rfl
theorem fk134 : fnOk Go.Proofs.Try.prog 134 = true := by kernel_rfl
theorem fk136 : fnOk Go.Proofs.Try.prog 136 = true := by kernel_rfl
theorem fk137 : fnOk Go.Proofs.Try.prog 137 = true := by kernel_rfl
theorem fk138 : fnOk Go.Proofs.Try.prog 138 = true := by kernel_rfl
theorem fk139 : fnOk Go.Proofs.Try.prog 139 = true := by kernel_rfl
theorem fk140 : fnOk Go.Proofs.Try.prog 140 = true := by kernel_rfl
theorem fk141 : fnOk Go.Proofs.Try.prog 141 = true := by kernel_rfl
theorem fk143 : fnOk Go.Proofs.Try.prog 143 = true := by kernel_rfl
theorem fk144 : fnOk Go.Proofs.Try.prog 144 = true := by kernel_rfl
theorem fk145 : fnOk Go.Proofs.Try.prog 145 = true := by kernel_rfl
theorem fk146 : fnOk Go.Proofs.Try.prog 146 = true := by kernel_rfl
theorem fk147 : fnOk Go.Proofs.Try.prog 147 = true := by kernel_rfl
theorem fk148 : fnOk Go.Proofs.Try.prog 148 = true := by kernel_rfl
theorem fk149 : fnOk Go.Proofs.Try.prog 149 = true := by kernel_rfl
theorem fk150 : fnOk Go.Proofs.Try.prog 150 = true := by kernel_rfl
theorem mixed : Go.Proofs.Try.prog.follows .mixedOrders = true := by kernel_rfl
end Abs
end Go.Proofs.Ytmokoofibnoojaa
