/-
  The executor's table of this program's types, proved. Written by gen_t.py.
-/
import Derived.Test.YtfojggadhhaleaaGreatDoorVLib
import Derived.Test.YtfojggadhhaleaaGreatDoorVTabA
import Derived.Test.YtfojggadhhaleaaGreatDoorProg
import Derived.KernelRfl
namespace Go.Proofs.YtfojggadhhaleaaGreatDoor
open Go Go.Vx
set_option linter.unusedSimpArgs false
def Tt : Tab := [
  (1, ⟨1, [.nilFunc], .scalar, 0⟩),
  (2, ⟨1, [.int .i64 0], .int .i64, 0⟩),
  (3, ⟨1, [.int .i64 0], .int .i64, 0⟩),
  (4, ⟨1, [.bool false], .scalar, 0⟩),
  (5, ⟨1, [.int .u8 0], .int .u8, 0⟩),
  (6, ⟨1, [.int .u8 0], .int .u8, 0⟩),
  (7, ⟨4, [.int .i64 0, .int .i64 0, .bool false, .int .u8 0], .st [(0, 1), (1, 1), (2, 1), (3, 1)], 0⟩),
  (8, ⟨4, [.int .i64 0, .int .i64 0, .bool false, .int .u8 0], .st [(0, 1), (1, 1), (2, 1), (3, 1)], 0⟩),
  (9, ⟨1, [.string ⟨#[]⟩], .str, 0⟩),
  (10, ⟨1, [.string ⟨#[]⟩], .str, 0⟩),
  (11, ⟨1, [.string ⟨#[]⟩], .str, 0⟩),
  (12, ⟨1, [.int .u64 0], .int .u64, 0⟩),
  (13, ⟨2, [.string ⟨#[]⟩, .int .u64 0], .st [(0, 1), (1, 1)], 0⟩),
  (14, ⟨2, [.string ⟨#[]⟩, .int .u64 0], .st [(0, 1), (1, 1)], 0⟩),
  (15, ⟨1, [.pointer none], .scalar, 0⟩),
  (16, ⟨1, [.pointer none], .scalar, 0⟩),
  (17, ⟨1, [.pointer none], .scalar, 0⟩),
  (18, ⟨1, [.pointer none], .st [(0, 1)], 0⟩),
  (19, ⟨1, [.pointer none], .st [(0, 1)], 0⟩),
  (20, ⟨1, [.nilIface], .ifc, 0⟩),
  (21, ⟨1, [.int .i32 0], .int .i32, 0⟩),
  (22, ⟨1, [.slice none 0 0], .sl 9 1 16 [.string ⟨#[]⟩], 0⟩),
  (23, ⟨7, [.string ⟨#[]⟩, .int .i64 0, .int .i64 0, .int .i64 0, .slice none 0 0, .int .i64 0, .int .i64 0], .st [(0, 1), (1, 1), (2, 1), (3, 1), (4, 1), (5, 1), (6, 1)], 0⟩),
  (24, ⟨7, [.string ⟨#[]⟩, .int .i64 0, .int .i64 0, .int .i64 0, .slice none 0 0, .int .i64 0, .int .i64 0], .st [(0, 1), (1, 1), (2, 1), (3, 1), (4, 1), (5, 1), (6, 1)], 0⟩),
  (25, ⟨1, [.nilFunc], .scalar, 0⟩),
  (26, ⟨1, [.nilFunc], .scalar, 0⟩),
  (27, ⟨1, [.nilFunc], .scalar, 0⟩),
  (28, ⟨1, [.nilFunc], .scalar, 0⟩),
  (29, ⟨1, [.int .i64 0], .int .i64, 0⟩),
  (31, ⟨1, [.nilFunc], .scalar, 0⟩),
  (33, ⟨1, [.nilFunc], .scalar, 0⟩),
  (34, ⟨1, [.nilFunc], .scalar, 0⟩),
  (35, ⟨1, [.nilFunc], .scalar, 0⟩),
  (36, ⟨1, [.nilFunc], .scalar, 0⟩),
  (38, ⟨1, [.nilFunc], .scalar, 0⟩),
  (39, ⟨1, [.nilFunc], .scalar, 0⟩),
  (40, ⟨3, [.int .i64 0, .int .i64 0, .int .i64 0], .st [(0, 1), (1, 1), (2, 1)], 3⟩),
  (41, ⟨3, [.int .i64 0, .int .i64 0, .int .i64 0], .st [(0, 1), (1, 1), (2, 1)], 3⟩),
  (42, ⟨2, [.int .i64 0, .int .i64 0], .arr 2 3 1, 2⟩),
  (44, ⟨1, [.nilFunc], .scalar, 0⟩),
  (45, ⟨2, [.int .i64 0, .int .i64 0], .st [(0, 1), (1, 1)], 2⟩),
  (46, ⟨2, [.int .i64 0, .int .i64 0], .st [(0, 1), (1, 1)], 2⟩),
  (47, ⟨4, [.int .i64 0, .int .i64 0, .int .i64 0, .int .i64 0], .st [(0, 1), (1, 1), (2, 2)], 0⟩),
  (48, ⟨4, [.int .i64 0, .int .i64 0, .int .i64 0, .int .i64 0], .st [(0, 1), (1, 1), (2, 2)], 0⟩),
  (49, ⟨1, [.slice none 0 0], .sl 3 1 8 [.int .i64 0], 0⟩),
  (50, ⟨1, [.slice none 0 0], .sl 126 2 32 [.int .i64 0, .slice none 0 0], 0⟩),
  (52, ⟨1, [.nilFunc], .scalar, 0⟩),
  (53, ⟨1, [.slice none 0 0], .sl 49 1 24 [.slice none 0 0], 0⟩),
  (54, ⟨2, [.slice none 0 0, .slice none 0 0], .st [(0, 1), (1, 1)], 0⟩),
  (55, ⟨2, [.slice none 0 0, .slice none 0 0], .st [(0, 1), (1, 1)], 0⟩),
  (56, ⟨1, [.nilFunc], .scalar, 0⟩),
  (57, ⟨1, [.slice none 0 0], .sl 129 3 24 [.int .i64 0, .int .i64 0, .int .i64 0], 0⟩),
  (59, ⟨1, [.nilFunc], .scalar, 0⟩),
  (60, ⟨1, [.slice none 0 0], .sl 109 4 40 [.string ⟨#[]⟩, .int .i64 0, .int .i64 0, .int .i64 0], 0⟩),
  (61, ⟨1, [.nilFunc], .scalar, 0⟩),
  (62, ⟨1, [.nilFunc], .scalar, 0⟩),
  (63, ⟨1, [.slice none 0 0], .sl 66 1 8 [.pointer none], 0⟩),
  (64, ⟨1, [.nilFunc], .scalar, 0⟩),
  (65, ⟨1, [.pointer none], .scalar, 0⟩),
  (66, ⟨1, [.pointer none], .scalar, 0⟩),
  (67, ⟨1, [.nilFunc], .scalar, 0⟩),
  (68, ⟨1, [.nilFunc], .scalar, 0⟩),
  (69, ⟨1, [.nilFunc], .scalar, 0⟩),
  (70, ⟨1, [.nilFunc], .scalar, 0⟩),
  (71, ⟨1, [.nilIface], .ifc, 0⟩),
  (72, ⟨1, [.nilIface], .ifc, 0⟩),
  (74, ⟨1, [.nilFunc], .scalar, 0⟩),
  (75, ⟨1, [.nilFunc], .scalar, 0⟩),
  (76, ⟨1, [.nilFunc], .scalar, 0⟩),
  (77, ⟨1, [.nilFunc], .scalar, 0⟩),
  (78, ⟨5, [.int .i64 0, .int .i64 0, .int .i64 0, .int .i64 0, .int .i64 0], .arr 5 3 1, 5⟩),
  (80, ⟨1, [.nilFunc], .scalar, 0⟩),
  (81, ⟨1, [.nilFunc], .scalar, 0⟩),
  (82, ⟨1, [.nilFunc], .scalar, 0⟩),
  (83, ⟨1, [.nilFunc], .scalar, 0⟩),
  (84, ⟨1, [.nilFunc], .scalar, 0⟩),
  (85, ⟨3, [.int .i64 0, .int .i64 0, .int .i64 0], .arr 3 3 1, 3⟩),
  (86, ⟨1, [.nilFunc], .scalar, 0⟩),
  (87, ⟨1, [.nilFunc], .scalar, 0⟩),
  (89, ⟨1, [.nilFunc], .scalar, 0⟩),
  (90, ⟨1, [.nilFunc], .scalar, 0⟩),
  (91, ⟨1, [.pointer none], .scalar, 0⟩),
  (92, ⟨2, [.slice none 0 0, .slice none 0 0], .st [(0, 2)], 0⟩),
  (93, ⟨2, [.slice none 0 0, .slice none 0 0], .st [(0, 2)], 0⟩),
  (94, ⟨4, [.slice none 0 0, .slice none 0 0, .int .i64 0, .slice none 0 0], .st [(0, 2), (2, 1), (3, 1)], 0⟩),
  (95, ⟨4, [.slice none 0 0, .slice none 0 0, .int .i64 0, .slice none 0 0], .st [(0, 2), (2, 1), (3, 1)], 0⟩),
  (96, ⟨1, [.nilFunc], .scalar, 0⟩),
  (97, ⟨1, [.nilFunc], .scalar, 0⟩),
  (98, ⟨3, [.slice none 0 0, .slice none 0 0, .bool false], .st [(0, 1), (1, 1), (2, 1)], 0⟩),
  (99, ⟨3, [.slice none 0 0, .slice none 0 0, .bool false], .st [(0, 1), (1, 1), (2, 1)], 0⟩),
  (100, ⟨1, [.nilFunc], .scalar, 0⟩),
  (101, ⟨1, [.nilFunc], .scalar, 0⟩),
  (102, ⟨1, [.nilFunc], .scalar, 0⟩),
  (103, ⟨1, [.nilFunc], .scalar, 0⟩),
  (104, ⟨1, [.nilFunc], .scalar, 0⟩),
  (105, ⟨1, [.nilFunc], .scalar, 0⟩),
  (106, ⟨1, [.nilFunc], .scalar, 0⟩),
  (107, ⟨1, [.nilFunc], .scalar, 0⟩),
  (108, ⟨4, [.string ⟨#[]⟩, .int .i64 0, .int .i64 0, .int .i64 0], .st [(0, 1), (1, 1), (2, 1), (3, 1)], 1000030⟩),
  (109, ⟨4, [.string ⟨#[]⟩, .int .i64 0, .int .i64 0, .int .i64 0], .st [(0, 1), (1, 1), (2, 1), (3, 1)], 1000030⟩),
  (110, ⟨1, [.pointer none], .scalar, 0⟩),
  (111, ⟨1, [.slice none 0 0], .sl 5 1 1 [.int .u8 0], 0⟩),
  (112, ⟨2, [.pointer none, .slice none 0 0], .st [(0, 1), (1, 1)], 0⟩),
  (113, ⟨2, [.pointer none, .slice none 0 0], .st [(0, 1), (1, 1)], 0⟩),
  (114, ⟨1, [.nilFunc], .scalar, 0⟩),
  (115, ⟨1, [.nilFunc], .scalar, 0⟩),
  (116, ⟨1, [.nilFunc], .scalar, 0⟩),
  (117, ⟨1, [.nilFunc], .scalar, 0⟩),
  (118, ⟨1, [.nilFunc], .scalar, 0⟩),
  (119, ⟨1, [.nilFunc], .scalar, 0⟩),
  (120, ⟨1, [.nilFunc], .scalar, 0⟩),
  (121, ⟨1, [.nilFunc], .scalar, 0⟩),
  (122, ⟨1, [.nilFunc], .scalar, 0⟩),
  (123, ⟨1, [.nilFunc], .scalar, 0⟩),
  (124, ⟨1, [.nilFunc], .scalar, 0⟩),
  (125, ⟨2, [.int .i64 0, .slice none 0 0], .st [(0, 1), (1, 1)], 0⟩),
  (126, ⟨2, [.int .i64 0, .slice none 0 0], .st [(0, 1), (1, 1)], 0⟩),
  (127, ⟨1, [.map none], .mp none (.bool false), 0⟩),
  (128, ⟨3, [.int .i64 0, .int .i64 0, .int .i64 0], .st [(0, 1), (1, 1), (2, 1)], 3⟩),
  (129, ⟨3, [.int .i64 0, .int .i64 0, .int .i64 0], .st [(0, 1), (1, 1), (2, 1)], 3⟩),
  (130, ⟨1, [.nilFunc], .scalar, 0⟩),
  (131, ⟨1, [.pointer none], .scalar, 0⟩),
  (132, ⟨1, [.nilFunc], .scalar, 0⟩),
  (133, ⟨1, [.nilFunc], .scalar, 0⟩),
  (134, ⟨1, [.int .i64 0], .int .i64, 0⟩),
  (136, ⟨1, [.nilFunc], .scalar, 0⟩),
  (137, ⟨1, [.pointer none], .scalar, 0⟩),
  (138, ⟨1, [.nilFunc], .scalar, 0⟩),
  (139, ⟨1, [.nilFunc], .scalar, 0⟩),
  (140, ⟨1, [.nilFunc], .scalar, 0⟩),
  (141, ⟨1, [.nilFunc], .scalar, 0⟩),
  (142, ⟨1, [.nilFunc], .scalar, 0⟩),
  (143, ⟨1, [.nilFunc], .scalar, 0⟩),
  (144, ⟨24, [.int .u8 0, .int .u8 0, .int .u8 0, .int .u8 0, .int .u8 0, .int .u8 0, .int .u8 0, .int .u8 0, .int .u8 0, .int .u8 0, .int .u8 0, .int .u8 0, .int .u8 0, .int .u8 0, .int .u8 0, .int .u8 0, .int .u8 0, .int .u8 0, .int .u8 0, .int .u8 0, .int .u8 0, .int .u8 0, .int .u8 0, .int .u8 0], .arr 24 5 1, 0⟩),
  (145, ⟨1, [.int .u64 0], .int .u64, 0⟩),
  (146, ⟨1, [.nilFunc], .scalar, 0⟩),
  (147, ⟨1, [.nilFunc], .scalar, 0⟩),
  (149, ⟨1, [.nilFunc], .scalar, 0⟩),
  (151, ⟨1, [.nilFunc], .scalar, 0⟩),
  (152, ⟨1, [.nilFunc], .scalar, 0⟩),
  (153, ⟨1, [.nilFunc], .scalar, 0⟩),
  (155, ⟨1, [.nilFunc], .scalar, 0⟩),
  (156, ⟨1, [.nilFunc], .scalar, 0⟩),
  (158, ⟨1, [.nilFunc], .scalar, 0⟩),
  (159, ⟨1, [.int .u64 0], .int .u64, 0⟩),
  (160, ⟨1, [.nilFunc], .scalar, 0⟩),
  (161, ⟨3, [.string ⟨#[]⟩, .string ⟨#[]⟩, .nilIface], .st [(0, 1), (1, 1), (2, 1)], 0⟩),
  (162, ⟨3, [.string ⟨#[]⟩, .string ⟨#[]⟩, .nilIface], .st [(0, 1), (1, 1), (2, 1)], 0⟩),
  (163, ⟨1, [.nilFunc], .scalar, 0⟩),
  (164, ⟨1, [.nilFunc], .scalar, 0⟩),
  (165, ⟨20, [.int .u64 0, .int .u64 0, .int .u64 0, .int .u64 0, .int .u64 0, .int .u64 0, .int .u64 0, .int .u64 0, .int .u64 0, .int .u64 0, .int .u64 0, .int .u64 0, .int .u64 0, .int .u64 0, .int .u64 0, .int .u64 0, .int .u64 0, .int .u64 0, .int .u64 0, .int .u64 0], .arr 20 145 1, 0⟩),
  (166, ⟨1, [.int .u32 0], .int .u32, 0⟩),
  (168, ⟨1, [.nilFunc], .scalar, 0⟩),
  (169, ⟨1, [.nilFunc], .scalar, 0⟩),
  (170, ⟨1, [.pointer none], .scalar, 0⟩),
  (171, ⟨1, [.string ⟨#[]⟩], .st [(0, 1)], 1000002⟩),
  (172, ⟨1, [.string ⟨#[]⟩], .st [(0, 1)], 1000002⟩),
  (173, ⟨1, [.nilFunc], .scalar, 0⟩),
  (175, ⟨2, [.int .u8 0, .int .u8 0], .st [(0, 1), (1, 1)], 0⟩),
  (176, ⟨2, [.int .u8 0, .int .u8 0], .st [(0, 1), (1, 1)], 0⟩),
  (177, ⟨32, [.int .u8 0, .int .u8 0, .int .u8 0, .int .u8 0, .int .u8 0, .int .u8 0, .int .u8 0, .int .u8 0, .int .u8 0, .int .u8 0, .int .u8 0, .int .u8 0, .int .u8 0, .int .u8 0, .int .u8 0, .int .u8 0, .int .u8 0, .int .u8 0, .int .u8 0, .int .u8 0, .int .u8 0, .int .u8 0, .int .u8 0, .int .u8 0, .int .u8 0, .int .u8 0, .int .u8 0, .int .u8 0, .int .u8 0, .int .u8 0, .int .u8 0, .int .u8 0], .arr 16 176 2, 0⟩),
  (179, ⟨1, [.nilFunc], .scalar, 0⟩),
  (180, ⟨32, [.int .u8 0, .int .u8 0, .int .u8 0, .int .u8 0, .int .u8 0, .int .u8 0, .int .u8 0, .int .u8 0, .int .u8 0, .int .u8 0, .int .u8 0, .int .u8 0, .int .u8 0, .int .u8 0, .int .u8 0, .int .u8 0, .int .u8 0, .int .u8 0, .int .u8 0, .int .u8 0, .int .u8 0, .int .u8 0, .int .u8 0, .int .u8 0, .int .u8 0, .int .u8 0, .int .u8 0, .int .u8 0, .int .u8 0, .int .u8 0, .int .u8 0, .int .u8 0], .arr 32 5 1, 0⟩),
  (181, ⟨64, [.int .u8 0, .int .u8 0, .int .u8 0, .int .u8 0, .int .u8 0, .int .u8 0, .int .u8 0, .int .u8 0, .int .u8 0, .int .u8 0, .int .u8 0, .int .u8 0, .int .u8 0, .int .u8 0, .int .u8 0, .int .u8 0, .int .u8 0, .int .u8 0, .int .u8 0, .int .u8 0, .int .u8 0, .int .u8 0, .int .u8 0, .int .u8 0, .int .u8 0, .int .u8 0, .int .u8 0, .int .u8 0, .int .u8 0, .int .u8 0, .int .u8 0, .int .u8 0, .int .u8 0, .int .u8 0, .int .u8 0, .int .u8 0, .int .u8 0, .int .u8 0, .int .u8 0, .int .u8 0, .int .u8 0, .int .u8 0, .int .u8 0, .int .u8 0, .int .u8 0, .int .u8 0, .int .u8 0, .int .u8 0, .int .u8 0, .int .u8 0, .int .u8 0, .int .u8 0, .int .u8 0, .int .u8 0, .int .u8 0, .int .u8 0, .int .u8 0, .int .u8 0, .int .u8 0, .int .u8 0, .int .u8 0, .int .u8 0, .int .u8 0, .int .u8 0], .arr 64 5 1, 0⟩),
  (182, ⟨4, [.pointer none, .pointer none, .pointer none, .string ⟨#[]⟩], .st [(0, 1), (1, 1), (2, 1), (3, 1)], 0⟩),
  (183, ⟨4, [.pointer none, .pointer none, .pointer none, .string ⟨#[]⟩], .st [(0, 1), (1, 1), (2, 1), (3, 1)], 0⟩),
  (184, ⟨0, [], .arr 0 16 1, 0⟩),
  (187, ⟨1, [.int .u8 0], .int .u8, 0⟩),
  (188, ⟨1, [.int .u8 0], .int .u8, 0⟩),
  (189, ⟨1, [.nilFunc], .scalar, 0⟩),
  (190, ⟨1, [.int .i32 0], .int .i32, 0⟩),
  (191, ⟨1, [.int .i32 0], .int .i32, 0⟩),
  (192, ⟨11, [.int .u64 0, .int .u64 0, .int .u32 0, .int .u8 0, .int .u8 0, .int .u8 0, .int .u8 0, .nilFunc, .pointer none, .int .i32 0, .int .i32 0], .st [(0, 1), (1, 1), (2, 1), (3, 1), (4, 1), (5, 1), (6, 1), (7, 1), (8, 1), (9, 1), (10, 1)], 0⟩),
  (193, ⟨11, [.int .u64 0, .int .u64 0, .int .u32 0, .int .u8 0, .int .u8 0, .int .u8 0, .int .u8 0, .nilFunc, .pointer none, .int .i32 0, .int .i32 0], .st [(0, 1), (1, 1), (2, 1), (3, 1), (4, 1), (5, 1), (6, 1), (7, 1), (8, 1), (9, 1), (10, 1)], 0⟩)]
theorem tok1 : TIok Tryz.prog 1 ⟨1, [.nilFunc], .scalar, 0⟩ := TIok.scalar (z := .nilFunc) (by kernel_rfl) rfl Tryz.underlying1 (by simp) (by simp)
theorem tok2 : TIok Tryz.prog 2 ⟨1, [.int .i64 0], .int .i64, 0⟩ := TIok.int (by kernel_rfl) Tryz.underlying2
theorem tok3 : TIok Tryz.prog 3 ⟨1, [.int .i64 0], .int .i64, 0⟩ := TIok.int (by kernel_rfl) Tryz.underlying3
theorem tok4 : TIok Tryz.prog 4 ⟨1, [.bool false], .scalar, 0⟩ := TIok.scalar (z := .bool false) (by kernel_rfl) rfl Tryz.underlying4 (by simp) (by simp)
theorem tok5 : TIok Tryz.prog 5 ⟨1, [.int .u8 0], .int .u8, 0⟩ := TIok.int (by kernel_rfl) Tryz.underlying5
theorem tok6 : TIok Tryz.prog 6 ⟨1, [.int .u8 0], .int .u8, 0⟩ := TIok.int (by kernel_rfl) Tryz.underlying6
theorem tok7 : TIok Tryz.prog 7 ⟨4, [.int .i64 0, .int .i64 0, .bool false, .int .u8 0], .st [(0, 1), (1, 1), (2, 1), (3, 1)], 0⟩ := TIok.st (z := .agg #[.int .i64 0, .int .i64 0, .bool false, .int .u8 0]) (by kernel_rfl) rfl Tryz.underlying7 ⟨rfl, (by kernel_rfl), (by decide), rfl, (by kernel_rfl), (by decide), rfl, (by kernel_rfl), (by decide), rfl, (by kernel_rfl), (by decide), trivial⟩ (fun h => absurd rfl h) (fun h => absurd rfl h)
theorem tok8 : TIok Tryz.prog 8 ⟨4, [.int .i64 0, .int .i64 0, .bool false, .int .u8 0], .st [(0, 1), (1, 1), (2, 1), (3, 1)], 0⟩ := TIok.st (z := .agg #[.int .i64 0, .int .i64 0, .bool false, .int .u8 0]) (by kernel_rfl) rfl Tryz.underlying8 ⟨rfl, (by kernel_rfl), (by decide), rfl, (by kernel_rfl), (by decide), rfl, (by kernel_rfl), (by decide), rfl, (by kernel_rfl), (by decide), trivial⟩ (fun h => absurd rfl h) (fun h => absurd rfl h)
theorem tok9 : TIok Tryz.prog 9 ⟨1, [.string ⟨#[]⟩], .str, 0⟩ := TIok.str (by kernel_rfl) Tryz.underlying9
theorem tok10 : TIok Tryz.prog 10 ⟨1, [.string ⟨#[]⟩], .str, 0⟩ := TIok.str (by kernel_rfl) Tryz.underlying10
theorem tok11 : TIok Tryz.prog 11 ⟨1, [.string ⟨#[]⟩], .str, 0⟩ := TIok.str (by kernel_rfl) Tryz.underlying11
theorem tok12 : TIok Tryz.prog 12 ⟨1, [.int .u64 0], .int .u64, 0⟩ := TIok.int (by kernel_rfl) Tryz.underlying12
theorem tok13 : TIok Tryz.prog 13 ⟨2, [.string ⟨#[]⟩, .int .u64 0], .st [(0, 1), (1, 1)], 0⟩ := TIok.st (z := .agg #[.string ⟨#[]⟩, .int .u64 0]) (by kernel_rfl) rfl Tryz.underlying13 ⟨rfl, (by kernel_rfl), (by decide), rfl, (by kernel_rfl), (by decide), trivial⟩ (fun h => absurd rfl h) (fun h => absurd rfl h)
theorem tok14 : TIok Tryz.prog 14 ⟨2, [.string ⟨#[]⟩, .int .u64 0], .st [(0, 1), (1, 1)], 0⟩ := TIok.st (z := .agg #[.string ⟨#[]⟩, .int .u64 0]) (by kernel_rfl) rfl Tryz.underlying14 ⟨rfl, (by kernel_rfl), (by decide), rfl, (by kernel_rfl), (by decide), trivial⟩ (fun h => absurd rfl h) (fun h => absurd rfl h)
theorem tok15 : TIok Tryz.prog 15 ⟨1, [.pointer none], .scalar, 0⟩ := TIok.scalar (z := .pointer none) (by kernel_rfl) rfl Tryz.underlying15 (by simp) (by simp)
theorem tok16 : TIok Tryz.prog 16 ⟨1, [.pointer none], .scalar, 0⟩ := TIok.scalar (z := .pointer none) (by kernel_rfl) rfl Tryz.underlying16 (by simp) (by simp)
theorem tok17 : TIok Tryz.prog 17 ⟨1, [.pointer none], .scalar, 0⟩ := TIok.scalar (z := .pointer none) (by kernel_rfl) rfl Tryz.underlying17 (by simp) (by simp)
theorem tok18 : TIok Tryz.prog 18 ⟨1, [.pointer none], .st [(0, 1)], 0⟩ := TIok.st (z := .agg #[.pointer none]) (by kernel_rfl) rfl Tryz.underlying18 ⟨rfl, (by kernel_rfl), (by decide), trivial⟩ (fun h => absurd rfl h) (fun h => absurd rfl h)
theorem tok19 : TIok Tryz.prog 19 ⟨1, [.pointer none], .st [(0, 1)], 0⟩ := TIok.st (z := .agg #[.pointer none]) (by kernel_rfl) rfl Tryz.underlying19 ⟨rfl, (by kernel_rfl), (by decide), trivial⟩ (fun h => absurd rfl h) (fun h => absurd rfl h)
theorem tok20 : TIok Tryz.prog 20 ⟨1, [.nilIface], .ifc, 0⟩ := TIok.ifc (by kernel_rfl) Tryz.underlying20
theorem tok21 : TIok Tryz.prog 21 ⟨1, [.int .i32 0], .int .i32, 0⟩ := TIok.int (by kernel_rfl) Tryz.underlying21
theorem tok22 : TIok Tryz.prog 22 ⟨1, [.slice none 0 0], .sl 9 1 16 [.string ⟨#[]⟩], 0⟩ := TIok.sl (z := .string ⟨#[]⟩) (by kernel_rfl) Tryz.underlying22 (by kernel_rfl) rfl (by decide) (by decide) rfl rfl
theorem tok23 : TIok Tryz.prog 23 ⟨7, [.string ⟨#[]⟩, .int .i64 0, .int .i64 0, .int .i64 0, .slice none 0 0, .int .i64 0, .int .i64 0], .st [(0, 1), (1, 1), (2, 1), (3, 1), (4, 1), (5, 1), (6, 1)], 0⟩ := TIok.st (z := .agg #[.string ⟨#[]⟩, .int .i64 0, .int .i64 0, .int .i64 0, .slice none 0 0, .int .i64 0, .int .i64 0]) (by kernel_rfl) rfl Tryz.underlying23 ⟨rfl, (by kernel_rfl), (by decide), rfl, (by kernel_rfl), (by decide), rfl, (by kernel_rfl), (by decide), rfl, (by kernel_rfl), (by decide), rfl, (by kernel_rfl), (by decide), rfl, (by kernel_rfl), (by decide), rfl, (by kernel_rfl), (by decide), trivial⟩ (fun h => absurd rfl h) (fun h => absurd rfl h)
theorem tok24 : TIok Tryz.prog 24 ⟨7, [.string ⟨#[]⟩, .int .i64 0, .int .i64 0, .int .i64 0, .slice none 0 0, .int .i64 0, .int .i64 0], .st [(0, 1), (1, 1), (2, 1), (3, 1), (4, 1), (5, 1), (6, 1)], 0⟩ := TIok.st (z := .agg #[.string ⟨#[]⟩, .int .i64 0, .int .i64 0, .int .i64 0, .slice none 0 0, .int .i64 0, .int .i64 0]) (by kernel_rfl) rfl Tryz.underlying24 ⟨rfl, (by kernel_rfl), (by decide), rfl, (by kernel_rfl), (by decide), rfl, (by kernel_rfl), (by decide), rfl, (by kernel_rfl), (by decide), rfl, (by kernel_rfl), (by decide), rfl, (by kernel_rfl), (by decide), rfl, (by kernel_rfl), (by decide), trivial⟩ (fun h => absurd rfl h) (fun h => absurd rfl h)
theorem tok25 : TIok Tryz.prog 25 ⟨1, [.nilFunc], .scalar, 0⟩ := TIok.scalar (z := .nilFunc) (by kernel_rfl) rfl Tryz.underlying25 (by simp) (by simp)
theorem tok26 : TIok Tryz.prog 26 ⟨1, [.nilFunc], .scalar, 0⟩ := TIok.scalar (z := .nilFunc) (by kernel_rfl) rfl Tryz.underlying26 (by simp) (by simp)
theorem tok27 : TIok Tryz.prog 27 ⟨1, [.nilFunc], .scalar, 0⟩ := TIok.scalar (z := .nilFunc) (by kernel_rfl) rfl Tryz.underlying27 (by simp) (by simp)
theorem tok28 : TIok Tryz.prog 28 ⟨1, [.nilFunc], .scalar, 0⟩ := TIok.scalar (z := .nilFunc) (by kernel_rfl) rfl Tryz.underlying28 (by simp) (by simp)
theorem tok29 : TIok Tryz.prog 29 ⟨1, [.int .i64 0], .int .i64, 0⟩ := TIok.int (by kernel_rfl) Tryz.underlying29
theorem tok31 : TIok Tryz.prog 31 ⟨1, [.nilFunc], .scalar, 0⟩ := TIok.scalar (z := .nilFunc) (by kernel_rfl) rfl Tryz.underlying31 (by simp) (by simp)
theorem tok33 : TIok Tryz.prog 33 ⟨1, [.nilFunc], .scalar, 0⟩ := TIok.scalar (z := .nilFunc) (by kernel_rfl) rfl Tryz.underlying33 (by simp) (by simp)
theorem tok34 : TIok Tryz.prog 34 ⟨1, [.nilFunc], .scalar, 0⟩ := TIok.scalar (z := .nilFunc) (by kernel_rfl) rfl Tryz.underlying34 (by simp) (by simp)
theorem tok35 : TIok Tryz.prog 35 ⟨1, [.nilFunc], .scalar, 0⟩ := TIok.scalar (z := .nilFunc) (by kernel_rfl) rfl Tryz.underlying35 (by simp) (by simp)
theorem tok36 : TIok Tryz.prog 36 ⟨1, [.nilFunc], .scalar, 0⟩ := TIok.scalar (z := .nilFunc) (by kernel_rfl) rfl Tryz.underlying36 (by simp) (by simp)
theorem tok38 : TIok Tryz.prog 38 ⟨1, [.nilFunc], .scalar, 0⟩ := TIok.scalar (z := .nilFunc) (by kernel_rfl) rfl Tryz.underlying38 (by simp) (by simp)
theorem tok39 : TIok Tryz.prog 39 ⟨1, [.nilFunc], .scalar, 0⟩ := TIok.scalar (z := .nilFunc) (by kernel_rfl) rfl Tryz.underlying39 (by simp) (by simp)
theorem tok40 : TIok Tryz.prog 40 ⟨3, [.int .i64 0, .int .i64 0, .int .i64 0], .st [(0, 1), (1, 1), (2, 1)], 3⟩ := TIok.st (z := .agg #[.int .i64 0, .int .i64 0, .int .i64 0]) (by kernel_rfl) rfl Tryz.underlying40 ⟨rfl, (by kernel_rfl), (by decide), rfl, (by kernel_rfl), (by decide), rfl, (by kernel_rfl), (by decide), trivial⟩ (fun _ => EqOk.up (EqOk.of Tryz.underlying40 Tryz.eqGuardType40 Tryz.stoodInHeld40 (by simp [Tryz.underlying3]) rfl)) (fun _ => ScOk.of Tryz.underlying40 (by simp [Tryz.underlying3]))
theorem tok41 : TIok Tryz.prog 41 ⟨3, [.int .i64 0, .int .i64 0, .int .i64 0], .st [(0, 1), (1, 1), (2, 1)], 3⟩ := TIok.st (z := .agg #[.int .i64 0, .int .i64 0, .int .i64 0]) (by kernel_rfl) rfl Tryz.underlying41 ⟨rfl, (by kernel_rfl), (by decide), rfl, (by kernel_rfl), (by decide), rfl, (by kernel_rfl), (by decide), trivial⟩ (fun _ => EqOk.up (EqOk.of Tryz.underlying41 Tryz.eqGuardType41 Tryz.stoodInHeld41 (by simp [Tryz.underlying3]) rfl)) (fun _ => ScOk.of Tryz.underlying41 (by simp [Tryz.underlying3]))
theorem tok42 : TIok Tryz.prog 42 ⟨2, [.int .i64 0, .int .i64 0], .arr 2 3 1, 2⟩ := TIok.arrE (z := .agg #[.int .i64 0, .int .i64 0]) (by kernel_rfl) rfl Tryz.underlying42 (by kernel_rfl) rfl Tryz.eqGuardType42 (PartEq.int Tryz.underlying3)
theorem tok44 : TIok Tryz.prog 44 ⟨1, [.nilFunc], .scalar, 0⟩ := TIok.scalar (z := .nilFunc) (by kernel_rfl) rfl Tryz.underlying44 (by simp) (by simp)
theorem tok45 : TIok Tryz.prog 45 ⟨2, [.int .i64 0, .int .i64 0], .st [(0, 1), (1, 1)], 2⟩ := TIok.st (z := .agg #[.int .i64 0, .int .i64 0]) (by kernel_rfl) rfl Tryz.underlying45 ⟨rfl, (by kernel_rfl), (by decide), rfl, (by kernel_rfl), (by decide), trivial⟩ (fun _ => EqOk.up (EqOk.of Tryz.underlying45 Tryz.eqGuardType45 Tryz.stoodInHeld45 (by simp [Tryz.underlying3]) rfl)) (fun _ => ScOk.of Tryz.underlying45 (by simp [Tryz.underlying3]))
theorem tok46 : TIok Tryz.prog 46 ⟨2, [.int .i64 0, .int .i64 0], .st [(0, 1), (1, 1)], 2⟩ := TIok.st (z := .agg #[.int .i64 0, .int .i64 0]) (by kernel_rfl) rfl Tryz.underlying46 ⟨rfl, (by kernel_rfl), (by decide), rfl, (by kernel_rfl), (by decide), trivial⟩ (fun _ => EqOk.up (EqOk.of Tryz.underlying46 Tryz.eqGuardType46 Tryz.stoodInHeld46 (by simp [Tryz.underlying3]) rfl)) (fun _ => ScOk.of Tryz.underlying46 (by simp [Tryz.underlying3]))
theorem tok47 : TIok Tryz.prog 47 ⟨4, [.int .i64 0, .int .i64 0, .int .i64 0, .int .i64 0], .st [(0, 1), (1, 1), (2, 2)], 0⟩ := TIok.st (z := .agg #[.int .i64 0, .int .i64 0, .int .i64 0, .int .i64 0]) (by kernel_rfl) rfl Tryz.underlying47 ⟨rfl, (by kernel_rfl), (by decide), rfl, (by kernel_rfl), (by decide), rfl, (by kernel_rfl), (by decide), trivial⟩ (fun h => absurd rfl h) (fun h => absurd rfl h)
theorem tok48 : TIok Tryz.prog 48 ⟨4, [.int .i64 0, .int .i64 0, .int .i64 0, .int .i64 0], .st [(0, 1), (1, 1), (2, 2)], 0⟩ := TIok.st (z := .agg #[.int .i64 0, .int .i64 0, .int .i64 0, .int .i64 0]) (by kernel_rfl) rfl Tryz.underlying48 ⟨rfl, (by kernel_rfl), (by decide), rfl, (by kernel_rfl), (by decide), rfl, (by kernel_rfl), (by decide), trivial⟩ (fun h => absurd rfl h) (fun h => absurd rfl h)
theorem tok49 : TIok Tryz.prog 49 ⟨1, [.slice none 0 0], .sl 3 1 8 [.int .i64 0], 0⟩ := TIok.sl (z := .int .i64 0) (by kernel_rfl) Tryz.underlying49 (by kernel_rfl) rfl (by decide) (by decide) rfl rfl
theorem tok50 : TIok Tryz.prog 50 ⟨1, [.slice none 0 0], .sl 126 2 32 [.int .i64 0, .slice none 0 0], 0⟩ := TIok.sl (z := .agg #[.int .i64 0, .slice none 0 0]) (by kernel_rfl) Tryz.underlying50 (by kernel_rfl) rfl (by decide) (by decide) rfl rfl
theorem tok52 : TIok Tryz.prog 52 ⟨1, [.nilFunc], .scalar, 0⟩ := TIok.scalar (z := .nilFunc) (by kernel_rfl) rfl Tryz.underlying52 (by simp) (by simp)
theorem tok53 : TIok Tryz.prog 53 ⟨1, [.slice none 0 0], .sl 49 1 24 [.slice none 0 0], 0⟩ := TIok.sl (z := .slice none 0 0) (by kernel_rfl) Tryz.underlying53 (by kernel_rfl) rfl (by decide) (by decide) rfl rfl
theorem tok54 : TIok Tryz.prog 54 ⟨2, [.slice none 0 0, .slice none 0 0], .st [(0, 1), (1, 1)], 0⟩ := TIok.st (z := .agg #[.slice none 0 0, .slice none 0 0]) (by kernel_rfl) rfl Tryz.underlying54 ⟨rfl, (by kernel_rfl), (by decide), rfl, (by kernel_rfl), (by decide), trivial⟩ (fun h => absurd rfl h) (fun h => absurd rfl h)
theorem tok55 : TIok Tryz.prog 55 ⟨2, [.slice none 0 0, .slice none 0 0], .st [(0, 1), (1, 1)], 0⟩ := TIok.st (z := .agg #[.slice none 0 0, .slice none 0 0]) (by kernel_rfl) rfl Tryz.underlying55 ⟨rfl, (by kernel_rfl), (by decide), rfl, (by kernel_rfl), (by decide), trivial⟩ (fun h => absurd rfl h) (fun h => absurd rfl h)
theorem tok56 : TIok Tryz.prog 56 ⟨1, [.nilFunc], .scalar, 0⟩ := TIok.scalar (z := .nilFunc) (by kernel_rfl) rfl Tryz.underlying56 (by simp) (by simp)
theorem tok57 : TIok Tryz.prog 57 ⟨1, [.slice none 0 0], .sl 129 3 24 [.int .i64 0, .int .i64 0, .int .i64 0], 0⟩ := TIok.sl (z := .agg #[.int .i64 0, .int .i64 0, .int .i64 0]) (by kernel_rfl) Tryz.underlying57 (by kernel_rfl) rfl (by decide) (by decide) rfl rfl
theorem tok59 : TIok Tryz.prog 59 ⟨1, [.nilFunc], .scalar, 0⟩ := TIok.scalar (z := .nilFunc) (by kernel_rfl) rfl Tryz.underlying59 (by simp) (by simp)
theorem tok60 : TIok Tryz.prog 60 ⟨1, [.slice none 0 0], .sl 109 4 40 [.string ⟨#[]⟩, .int .i64 0, .int .i64 0, .int .i64 0], 0⟩ := TIok.sl (z := .agg #[.string ⟨#[]⟩, .int .i64 0, .int .i64 0, .int .i64 0]) (by kernel_rfl) Tryz.underlying60 (by kernel_rfl) rfl (by decide) (by decide) rfl rfl
theorem tok61 : TIok Tryz.prog 61 ⟨1, [.nilFunc], .scalar, 0⟩ := TIok.scalar (z := .nilFunc) (by kernel_rfl) rfl Tryz.underlying61 (by simp) (by simp)
theorem tok62 : TIok Tryz.prog 62 ⟨1, [.nilFunc], .scalar, 0⟩ := TIok.scalar (z := .nilFunc) (by kernel_rfl) rfl Tryz.underlying62 (by simp) (by simp)
theorem tok63 : TIok Tryz.prog 63 ⟨1, [.slice none 0 0], .sl 66 1 8 [.pointer none], 0⟩ := TIok.sl (z := .pointer none) (by kernel_rfl) Tryz.underlying63 (by kernel_rfl) rfl (by decide) (by decide) rfl rfl
theorem tok64 : TIok Tryz.prog 64 ⟨1, [.nilFunc], .scalar, 0⟩ := TIok.scalar (z := .nilFunc) (by kernel_rfl) rfl Tryz.underlying64 (by simp) (by simp)
theorem tok65 : TIok Tryz.prog 65 ⟨1, [.pointer none], .scalar, 0⟩ := TIok.scalar (z := .pointer none) (by kernel_rfl) rfl Tryz.underlying65 (by simp) (by simp)
theorem tok66 : TIok Tryz.prog 66 ⟨1, [.pointer none], .scalar, 0⟩ := TIok.scalar (z := .pointer none) (by kernel_rfl) rfl Tryz.underlying66 (by simp) (by simp)
theorem tok67 : TIok Tryz.prog 67 ⟨1, [.nilFunc], .scalar, 0⟩ := TIok.scalar (z := .nilFunc) (by kernel_rfl) rfl Tryz.underlying67 (by simp) (by simp)
theorem tok68 : TIok Tryz.prog 68 ⟨1, [.nilFunc], .scalar, 0⟩ := TIok.scalar (z := .nilFunc) (by kernel_rfl) rfl Tryz.underlying68 (by simp) (by simp)
theorem tok69 : TIok Tryz.prog 69 ⟨1, [.nilFunc], .scalar, 0⟩ := TIok.scalar (z := .nilFunc) (by kernel_rfl) rfl Tryz.underlying69 (by simp) (by simp)
theorem tok70 : TIok Tryz.prog 70 ⟨1, [.nilFunc], .scalar, 0⟩ := TIok.scalar (z := .nilFunc) (by kernel_rfl) rfl Tryz.underlying70 (by simp) (by simp)
theorem tok71 : TIok Tryz.prog 71 ⟨1, [.nilIface], .ifc, 0⟩ := TIok.ifc (by kernel_rfl) Tryz.underlying71
theorem tok72 : TIok Tryz.prog 72 ⟨1, [.nilIface], .ifc, 0⟩ := TIok.ifc (by kernel_rfl) Tryz.underlying72
theorem tok74 : TIok Tryz.prog 74 ⟨1, [.nilFunc], .scalar, 0⟩ := TIok.scalar (z := .nilFunc) (by kernel_rfl) rfl Tryz.underlying74 (by simp) (by simp)
theorem tok75 : TIok Tryz.prog 75 ⟨1, [.nilFunc], .scalar, 0⟩ := TIok.scalar (z := .nilFunc) (by kernel_rfl) rfl Tryz.underlying75 (by simp) (by simp)
theorem tok76 : TIok Tryz.prog 76 ⟨1, [.nilFunc], .scalar, 0⟩ := TIok.scalar (z := .nilFunc) (by kernel_rfl) rfl Tryz.underlying76 (by simp) (by simp)
theorem tok77 : TIok Tryz.prog 77 ⟨1, [.nilFunc], .scalar, 0⟩ := TIok.scalar (z := .nilFunc) (by kernel_rfl) rfl Tryz.underlying77 (by simp) (by simp)
theorem tok78 : TIok Tryz.prog 78 ⟨5, [.int .i64 0, .int .i64 0, .int .i64 0, .int .i64 0, .int .i64 0], .arr 5 3 1, 5⟩ := TIok.arrE (z := .agg #[.int .i64 0, .int .i64 0, .int .i64 0, .int .i64 0, .int .i64 0]) (by kernel_rfl) rfl Tryz.underlying78 (by kernel_rfl) rfl Tryz.eqGuardType78 (PartEq.int Tryz.underlying3)
theorem tok80 : TIok Tryz.prog 80 ⟨1, [.nilFunc], .scalar, 0⟩ := TIok.scalar (z := .nilFunc) (by kernel_rfl) rfl Tryz.underlying80 (by simp) (by simp)
theorem tok81 : TIok Tryz.prog 81 ⟨1, [.nilFunc], .scalar, 0⟩ := TIok.scalar (z := .nilFunc) (by kernel_rfl) rfl Tryz.underlying81 (by simp) (by simp)
theorem tok82 : TIok Tryz.prog 82 ⟨1, [.nilFunc], .scalar, 0⟩ := TIok.scalar (z := .nilFunc) (by kernel_rfl) rfl Tryz.underlying82 (by simp) (by simp)
theorem tok83 : TIok Tryz.prog 83 ⟨1, [.nilFunc], .scalar, 0⟩ := TIok.scalar (z := .nilFunc) (by kernel_rfl) rfl Tryz.underlying83 (by simp) (by simp)
theorem tok84 : TIok Tryz.prog 84 ⟨1, [.nilFunc], .scalar, 0⟩ := TIok.scalar (z := .nilFunc) (by kernel_rfl) rfl Tryz.underlying84 (by simp) (by simp)
theorem tok85 : TIok Tryz.prog 85 ⟨3, [.int .i64 0, .int .i64 0, .int .i64 0], .arr 3 3 1, 3⟩ := TIok.arrE (z := .agg #[.int .i64 0, .int .i64 0, .int .i64 0]) (by kernel_rfl) rfl Tryz.underlying85 (by kernel_rfl) rfl Tryz.eqGuardType85 (PartEq.int Tryz.underlying3)
theorem tok86 : TIok Tryz.prog 86 ⟨1, [.nilFunc], .scalar, 0⟩ := TIok.scalar (z := .nilFunc) (by kernel_rfl) rfl Tryz.underlying86 (by simp) (by simp)
theorem tok87 : TIok Tryz.prog 87 ⟨1, [.nilFunc], .scalar, 0⟩ := TIok.scalar (z := .nilFunc) (by kernel_rfl) rfl Tryz.underlying87 (by simp) (by simp)
theorem tok89 : TIok Tryz.prog 89 ⟨1, [.nilFunc], .scalar, 0⟩ := TIok.scalar (z := .nilFunc) (by kernel_rfl) rfl Tryz.underlying89 (by simp) (by simp)
theorem tok90 : TIok Tryz.prog 90 ⟨1, [.nilFunc], .scalar, 0⟩ := TIok.scalar (z := .nilFunc) (by kernel_rfl) rfl Tryz.underlying90 (by simp) (by simp)
theorem tok91 : TIok Tryz.prog 91 ⟨1, [.pointer none], .scalar, 0⟩ := TIok.scalar (z := .pointer none) (by kernel_rfl) rfl Tryz.underlying91 (by simp) (by simp)
theorem tok92 : TIok Tryz.prog 92 ⟨2, [.slice none 0 0, .slice none 0 0], .st [(0, 2)], 0⟩ := TIok.st (z := .agg #[.slice none 0 0, .slice none 0 0]) (by kernel_rfl) rfl Tryz.underlying92 ⟨rfl, (by kernel_rfl), (by decide), trivial⟩ (fun h => absurd rfl h) (fun h => absurd rfl h)
theorem tok93 : TIok Tryz.prog 93 ⟨2, [.slice none 0 0, .slice none 0 0], .st [(0, 2)], 0⟩ := TIok.st (z := .agg #[.slice none 0 0, .slice none 0 0]) (by kernel_rfl) rfl Tryz.underlying93 ⟨rfl, (by kernel_rfl), (by decide), trivial⟩ (fun h => absurd rfl h) (fun h => absurd rfl h)
theorem tok94 : TIok Tryz.prog 94 ⟨4, [.slice none 0 0, .slice none 0 0, .int .i64 0, .slice none 0 0], .st [(0, 2), (2, 1), (3, 1)], 0⟩ := TIok.st (z := .agg #[.slice none 0 0, .slice none 0 0, .int .i64 0, .slice none 0 0]) (by kernel_rfl) rfl Tryz.underlying94 ⟨rfl, (by kernel_rfl), (by decide), rfl, (by kernel_rfl), (by decide), rfl, (by kernel_rfl), (by decide), trivial⟩ (fun h => absurd rfl h) (fun h => absurd rfl h)
theorem tok95 : TIok Tryz.prog 95 ⟨4, [.slice none 0 0, .slice none 0 0, .int .i64 0, .slice none 0 0], .st [(0, 2), (2, 1), (3, 1)], 0⟩ := TIok.st (z := .agg #[.slice none 0 0, .slice none 0 0, .int .i64 0, .slice none 0 0]) (by kernel_rfl) rfl Tryz.underlying95 ⟨rfl, (by kernel_rfl), (by decide), rfl, (by kernel_rfl), (by decide), rfl, (by kernel_rfl), (by decide), trivial⟩ (fun h => absurd rfl h) (fun h => absurd rfl h)
theorem tok96 : TIok Tryz.prog 96 ⟨1, [.nilFunc], .scalar, 0⟩ := TIok.scalar (z := .nilFunc) (by kernel_rfl) rfl Tryz.underlying96 (by simp) (by simp)
theorem tok97 : TIok Tryz.prog 97 ⟨1, [.nilFunc], .scalar, 0⟩ := TIok.scalar (z := .nilFunc) (by kernel_rfl) rfl Tryz.underlying97 (by simp) (by simp)
theorem tok98 : TIok Tryz.prog 98 ⟨3, [.slice none 0 0, .slice none 0 0, .bool false], .st [(0, 1), (1, 1), (2, 1)], 0⟩ := TIok.st (z := .agg #[.slice none 0 0, .slice none 0 0, .bool false]) (by kernel_rfl) rfl Tryz.underlying98 ⟨rfl, (by kernel_rfl), (by decide), rfl, (by kernel_rfl), (by decide), rfl, (by kernel_rfl), (by decide), trivial⟩ (fun h => absurd rfl h) (fun h => absurd rfl h)
theorem tok99 : TIok Tryz.prog 99 ⟨3, [.slice none 0 0, .slice none 0 0, .bool false], .st [(0, 1), (1, 1), (2, 1)], 0⟩ := TIok.st (z := .agg #[.slice none 0 0, .slice none 0 0, .bool false]) (by kernel_rfl) rfl Tryz.underlying99 ⟨rfl, (by kernel_rfl), (by decide), rfl, (by kernel_rfl), (by decide), rfl, (by kernel_rfl), (by decide), trivial⟩ (fun h => absurd rfl h) (fun h => absurd rfl h)
theorem tok100 : TIok Tryz.prog 100 ⟨1, [.nilFunc], .scalar, 0⟩ := TIok.scalar (z := .nilFunc) (by kernel_rfl) rfl Tryz.underlying100 (by simp) (by simp)
theorem tok101 : TIok Tryz.prog 101 ⟨1, [.nilFunc], .scalar, 0⟩ := TIok.scalar (z := .nilFunc) (by kernel_rfl) rfl Tryz.underlying101 (by simp) (by simp)
theorem tok102 : TIok Tryz.prog 102 ⟨1, [.nilFunc], .scalar, 0⟩ := TIok.scalar (z := .nilFunc) (by kernel_rfl) rfl Tryz.underlying102 (by simp) (by simp)
theorem tok103 : TIok Tryz.prog 103 ⟨1, [.nilFunc], .scalar, 0⟩ := TIok.scalar (z := .nilFunc) (by kernel_rfl) rfl Tryz.underlying103 (by simp) (by simp)
theorem tok104 : TIok Tryz.prog 104 ⟨1, [.nilFunc], .scalar, 0⟩ := TIok.scalar (z := .nilFunc) (by kernel_rfl) rfl Tryz.underlying104 (by simp) (by simp)
theorem tok105 : TIok Tryz.prog 105 ⟨1, [.nilFunc], .scalar, 0⟩ := TIok.scalar (z := .nilFunc) (by kernel_rfl) rfl Tryz.underlying105 (by simp) (by simp)
theorem tok106 : TIok Tryz.prog 106 ⟨1, [.nilFunc], .scalar, 0⟩ := TIok.scalar (z := .nilFunc) (by kernel_rfl) rfl Tryz.underlying106 (by simp) (by simp)
theorem tok107 : TIok Tryz.prog 107 ⟨1, [.nilFunc], .scalar, 0⟩ := TIok.scalar (z := .nilFunc) (by kernel_rfl) rfl Tryz.underlying107 (by simp) (by simp)
theorem tok108 : TIok Tryz.prog 108 ⟨4, [.string ⟨#[]⟩, .int .i64 0, .int .i64 0, .int .i64 0], .st [(0, 1), (1, 1), (2, 1), (3, 1)], 1000030⟩ := TIok.st (z := .agg #[.string ⟨#[]⟩, .int .i64 0, .int .i64 0, .int .i64 0]) (by kernel_rfl) rfl Tryz.underlying108 ⟨rfl, (by kernel_rfl), (by decide), rfl, (by kernel_rfl), (by decide), rfl, (by kernel_rfl), (by decide), rfl, (by kernel_rfl), (by decide), trivial⟩ (fun _ => EqS.up (c := 30) (EqS.of Tryz.underlying108 Tryz.eqGuardType108 Tryz.stoodInHeld108 (by simp [flOk, Tryz.underlying3, Tryz.underlying9]))) (fun _ => ScOk.ofS (c := 30) Tryz.underlying108 (by simp [flOk, Tryz.underlying3, Tryz.underlying9]))
theorem tok109 : TIok Tryz.prog 109 ⟨4, [.string ⟨#[]⟩, .int .i64 0, .int .i64 0, .int .i64 0], .st [(0, 1), (1, 1), (2, 1), (3, 1)], 1000030⟩ := TIok.st (z := .agg #[.string ⟨#[]⟩, .int .i64 0, .int .i64 0, .int .i64 0]) (by kernel_rfl) rfl Tryz.underlying109 ⟨rfl, (by kernel_rfl), (by decide), rfl, (by kernel_rfl), (by decide), rfl, (by kernel_rfl), (by decide), rfl, (by kernel_rfl), (by decide), trivial⟩ (fun _ => EqS.up (c := 30) (EqS.of Tryz.underlying109 Tryz.eqGuardType109 Tryz.stoodInHeld109 (by simp [flOk, Tryz.underlying3, Tryz.underlying9]))) (fun _ => ScOk.ofS (c := 30) Tryz.underlying109 (by simp [flOk, Tryz.underlying3, Tryz.underlying9]))
theorem tok110 : TIok Tryz.prog 110 ⟨1, [.pointer none], .scalar, 0⟩ := TIok.scalar (z := .pointer none) (by kernel_rfl) rfl Tryz.underlying110 (by simp) (by simp)
theorem tok111 : TIok Tryz.prog 111 ⟨1, [.slice none 0 0], .sl 5 1 1 [.int .u8 0], 0⟩ := TIok.sl (z := .int .u8 0) (by kernel_rfl) Tryz.underlying111 (by kernel_rfl) rfl (by decide) (by decide) rfl rfl
theorem tok112 : TIok Tryz.prog 112 ⟨2, [.pointer none, .slice none 0 0], .st [(0, 1), (1, 1)], 0⟩ := TIok.st (z := .agg #[.pointer none, .slice none 0 0]) (by kernel_rfl) rfl Tryz.underlying112 ⟨rfl, (by kernel_rfl), (by decide), rfl, (by kernel_rfl), (by decide), trivial⟩ (fun h => absurd rfl h) (fun h => absurd rfl h)
theorem tok113 : TIok Tryz.prog 113 ⟨2, [.pointer none, .slice none 0 0], .st [(0, 1), (1, 1)], 0⟩ := TIok.st (z := .agg #[.pointer none, .slice none 0 0]) (by kernel_rfl) rfl Tryz.underlying113 ⟨rfl, (by kernel_rfl), (by decide), rfl, (by kernel_rfl), (by decide), trivial⟩ (fun h => absurd rfl h) (fun h => absurd rfl h)
theorem tok114 : TIok Tryz.prog 114 ⟨1, [.nilFunc], .scalar, 0⟩ := TIok.scalar (z := .nilFunc) (by kernel_rfl) rfl Tryz.underlying114 (by simp) (by simp)
theorem tok115 : TIok Tryz.prog 115 ⟨1, [.nilFunc], .scalar, 0⟩ := TIok.scalar (z := .nilFunc) (by kernel_rfl) rfl Tryz.underlying115 (by simp) (by simp)
theorem tok116 : TIok Tryz.prog 116 ⟨1, [.nilFunc], .scalar, 0⟩ := TIok.scalar (z := .nilFunc) (by kernel_rfl) rfl Tryz.underlying116 (by simp) (by simp)
theorem tok117 : TIok Tryz.prog 117 ⟨1, [.nilFunc], .scalar, 0⟩ := TIok.scalar (z := .nilFunc) (by kernel_rfl) rfl Tryz.underlying117 (by simp) (by simp)
theorem tok118 : TIok Tryz.prog 118 ⟨1, [.nilFunc], .scalar, 0⟩ := TIok.scalar (z := .nilFunc) (by kernel_rfl) rfl Tryz.underlying118 (by simp) (by simp)
theorem tok119 : TIok Tryz.prog 119 ⟨1, [.nilFunc], .scalar, 0⟩ := TIok.scalar (z := .nilFunc) (by kernel_rfl) rfl Tryz.underlying119 (by simp) (by simp)
theorem tok120 : TIok Tryz.prog 120 ⟨1, [.nilFunc], .scalar, 0⟩ := TIok.scalar (z := .nilFunc) (by kernel_rfl) rfl Tryz.underlying120 (by simp) (by simp)
theorem tok121 : TIok Tryz.prog 121 ⟨1, [.nilFunc], .scalar, 0⟩ := TIok.scalar (z := .nilFunc) (by kernel_rfl) rfl Tryz.underlying121 (by simp) (by simp)
theorem tok122 : TIok Tryz.prog 122 ⟨1, [.nilFunc], .scalar, 0⟩ := TIok.scalar (z := .nilFunc) (by kernel_rfl) rfl Tryz.underlying122 (by simp) (by simp)
theorem tok123 : TIok Tryz.prog 123 ⟨1, [.nilFunc], .scalar, 0⟩ := TIok.scalar (z := .nilFunc) (by kernel_rfl) rfl Tryz.underlying123 (by simp) (by simp)
theorem tok124 : TIok Tryz.prog 124 ⟨1, [.nilFunc], .scalar, 0⟩ := TIok.scalar (z := .nilFunc) (by kernel_rfl) rfl Tryz.underlying124 (by simp) (by simp)
theorem tok125 : TIok Tryz.prog 125 ⟨2, [.int .i64 0, .slice none 0 0], .st [(0, 1), (1, 1)], 0⟩ := TIok.st (z := .agg #[.int .i64 0, .slice none 0 0]) (by kernel_rfl) rfl Tryz.underlying125 ⟨rfl, (by kernel_rfl), (by decide), rfl, (by kernel_rfl), (by decide), trivial⟩ (fun h => absurd rfl h) (fun h => absurd rfl h)
theorem tok126 : TIok Tryz.prog 126 ⟨2, [.int .i64 0, .slice none 0 0], .st [(0, 1), (1, 1)], 0⟩ := TIok.st (z := .agg #[.int .i64 0, .slice none 0 0]) (by kernel_rfl) rfl Tryz.underlying126 ⟨rfl, (by kernel_rfl), (by decide), rfl, (by kernel_rfl), (by decide), trivial⟩ (fun h => absurd rfl h) (fun h => absurd rfl h)
theorem tok127 : TIok Tryz.prog 127 ⟨1, [.map none], .mp none (.bool false), 0⟩ := TIok.mp (by kernel_rfl) Tryz.underlying127 Tryz.underlying9 (by kernel_rfl)
theorem tok128 : TIok Tryz.prog 128 ⟨3, [.int .i64 0, .int .i64 0, .int .i64 0], .st [(0, 1), (1, 1), (2, 1)], 3⟩ := TIok.st (z := .agg #[.int .i64 0, .int .i64 0, .int .i64 0]) (by kernel_rfl) rfl Tryz.underlying128 ⟨rfl, (by kernel_rfl), (by decide), rfl, (by kernel_rfl), (by decide), rfl, (by kernel_rfl), (by decide), trivial⟩ (fun _ => EqOk.up (EqOk.of Tryz.underlying128 Tryz.eqGuardType128 Tryz.stoodInHeld128 (by simp [Tryz.underlying3]) rfl)) (fun _ => ScOk.of Tryz.underlying128 (by simp [Tryz.underlying3]))
theorem tok129 : TIok Tryz.prog 129 ⟨3, [.int .i64 0, .int .i64 0, .int .i64 0], .st [(0, 1), (1, 1), (2, 1)], 3⟩ := TIok.st (z := .agg #[.int .i64 0, .int .i64 0, .int .i64 0]) (by kernel_rfl) rfl Tryz.underlying129 ⟨rfl, (by kernel_rfl), (by decide), rfl, (by kernel_rfl), (by decide), rfl, (by kernel_rfl), (by decide), trivial⟩ (fun _ => EqOk.up (EqOk.of Tryz.underlying129 Tryz.eqGuardType129 Tryz.stoodInHeld129 (by simp [Tryz.underlying3]) rfl)) (fun _ => ScOk.of Tryz.underlying129 (by simp [Tryz.underlying3]))
theorem tok130 : TIok Tryz.prog 130 ⟨1, [.nilFunc], .scalar, 0⟩ := TIok.scalar (z := .nilFunc) (by kernel_rfl) rfl Tryz.underlying130 (by simp) (by simp)
theorem tok131 : TIok Tryz.prog 131 ⟨1, [.pointer none], .scalar, 0⟩ := TIok.scalar (z := .pointer none) (by kernel_rfl) rfl Tryz.underlying131 (by simp) (by simp)
theorem tok132 : TIok Tryz.prog 132 ⟨1, [.nilFunc], .scalar, 0⟩ := TIok.scalar (z := .nilFunc) (by kernel_rfl) rfl Tryz.underlying132 (by simp) (by simp)
theorem tok133 : TIok Tryz.prog 133 ⟨1, [.nilFunc], .scalar, 0⟩ := TIok.scalar (z := .nilFunc) (by kernel_rfl) rfl Tryz.underlying133 (by simp) (by simp)
theorem tok134 : TIok Tryz.prog 134 ⟨1, [.int .i64 0], .int .i64, 0⟩ := TIok.int (by kernel_rfl) Tryz.underlying134
theorem tok136 : TIok Tryz.prog 136 ⟨1, [.nilFunc], .scalar, 0⟩ := TIok.scalar (z := .nilFunc) (by kernel_rfl) rfl Tryz.underlying136 (by simp) (by simp)
theorem tok137 : TIok Tryz.prog 137 ⟨1, [.pointer none], .scalar, 0⟩ := TIok.scalar (z := .pointer none) (by kernel_rfl) rfl Tryz.underlying137 (by simp) (by simp)
theorem tok138 : TIok Tryz.prog 138 ⟨1, [.nilFunc], .scalar, 0⟩ := TIok.scalar (z := .nilFunc) (by kernel_rfl) rfl Tryz.underlying138 (by simp) (by simp)
theorem tok139 : TIok Tryz.prog 139 ⟨1, [.nilFunc], .scalar, 0⟩ := TIok.scalar (z := .nilFunc) (by kernel_rfl) rfl Tryz.underlying139 (by simp) (by simp)
theorem tok140 : TIok Tryz.prog 140 ⟨1, [.nilFunc], .scalar, 0⟩ := TIok.scalar (z := .nilFunc) (by kernel_rfl) rfl Tryz.underlying140 (by simp) (by simp)
theorem tok141 : TIok Tryz.prog 141 ⟨1, [.nilFunc], .scalar, 0⟩ := TIok.scalar (z := .nilFunc) (by kernel_rfl) rfl Tryz.underlying141 (by simp) (by simp)
theorem tok142 : TIok Tryz.prog 142 ⟨1, [.nilFunc], .scalar, 0⟩ := TIok.scalar (z := .nilFunc) (by kernel_rfl) rfl Tryz.underlying142 (by simp) (by simp)
theorem tok143 : TIok Tryz.prog 143 ⟨1, [.nilFunc], .scalar, 0⟩ := TIok.scalar (z := .nilFunc) (by kernel_rfl) rfl Tryz.underlying143 (by simp) (by simp)
theorem tok144 : TIok Tryz.prog 144 ⟨24, [.int .u8 0, .int .u8 0, .int .u8 0, .int .u8 0, .int .u8 0, .int .u8 0, .int .u8 0, .int .u8 0, .int .u8 0, .int .u8 0, .int .u8 0, .int .u8 0, .int .u8 0, .int .u8 0, .int .u8 0, .int .u8 0, .int .u8 0, .int .u8 0, .int .u8 0, .int .u8 0, .int .u8 0, .int .u8 0, .int .u8 0, .int .u8 0], .arr 24 5 1, 0⟩ := TIok.arr (z := .agg #[.int .u8 0, .int .u8 0, .int .u8 0, .int .u8 0, .int .u8 0, .int .u8 0, .int .u8 0, .int .u8 0, .int .u8 0, .int .u8 0, .int .u8 0, .int .u8 0, .int .u8 0, .int .u8 0, .int .u8 0, .int .u8 0, .int .u8 0, .int .u8 0, .int .u8 0, .int .u8 0, .int .u8 0, .int .u8 0, .int .u8 0, .int .u8 0]) (by kernel_rfl) rfl Tryz.underlying144 (by kernel_rfl)
theorem tok145 : TIok Tryz.prog 145 ⟨1, [.int .u64 0], .int .u64, 0⟩ := TIok.int (by kernel_rfl) Tryz.underlying145
theorem tok146 : TIok Tryz.prog 146 ⟨1, [.nilFunc], .scalar, 0⟩ := TIok.scalar (z := .nilFunc) (by kernel_rfl) rfl Tryz.underlying146 (by simp) (by simp)
theorem tok147 : TIok Tryz.prog 147 ⟨1, [.nilFunc], .scalar, 0⟩ := TIok.scalar (z := .nilFunc) (by kernel_rfl) rfl Tryz.underlying147 (by simp) (by simp)
theorem tok149 : TIok Tryz.prog 149 ⟨1, [.nilFunc], .scalar, 0⟩ := TIok.scalar (z := .nilFunc) (by kernel_rfl) rfl Tryz.underlying149 (by simp) (by simp)
theorem tok151 : TIok Tryz.prog 151 ⟨1, [.nilFunc], .scalar, 0⟩ := TIok.scalar (z := .nilFunc) (by kernel_rfl) rfl Tryz.underlying151 (by simp) (by simp)
theorem tok152 : TIok Tryz.prog 152 ⟨1, [.nilFunc], .scalar, 0⟩ := TIok.scalar (z := .nilFunc) (by kernel_rfl) rfl Tryz.underlying152 (by simp) (by simp)
theorem tok153 : TIok Tryz.prog 153 ⟨1, [.nilFunc], .scalar, 0⟩ := TIok.scalar (z := .nilFunc) (by kernel_rfl) rfl Tryz.underlying153 (by simp) (by simp)
theorem tok155 : TIok Tryz.prog 155 ⟨1, [.nilFunc], .scalar, 0⟩ := TIok.scalar (z := .nilFunc) (by kernel_rfl) rfl Tryz.underlying155 (by simp) (by simp)
theorem tok156 : TIok Tryz.prog 156 ⟨1, [.nilFunc], .scalar, 0⟩ := TIok.scalar (z := .nilFunc) (by kernel_rfl) rfl Tryz.underlying156 (by simp) (by simp)
theorem tok158 : TIok Tryz.prog 158 ⟨1, [.nilFunc], .scalar, 0⟩ := TIok.scalar (z := .nilFunc) (by kernel_rfl) rfl Tryz.underlying158 (by simp) (by simp)
theorem tok159 : TIok Tryz.prog 159 ⟨1, [.int .u64 0], .int .u64, 0⟩ := TIok.int (by kernel_rfl) Tryz.underlying159
theorem tok160 : TIok Tryz.prog 160 ⟨1, [.nilFunc], .scalar, 0⟩ := TIok.scalar (z := .nilFunc) (by kernel_rfl) rfl Tryz.underlying160 (by simp) (by simp)
theorem tok161 : TIok Tryz.prog 161 ⟨3, [.string ⟨#[]⟩, .string ⟨#[]⟩, .nilIface], .st [(0, 1), (1, 1), (2, 1)], 0⟩ := TIok.st (z := .agg #[.string ⟨#[]⟩, .string ⟨#[]⟩, .nilIface]) (by kernel_rfl) rfl Tryz.underlying161 ⟨rfl, (by kernel_rfl), (by decide), rfl, (by kernel_rfl), (by decide), rfl, (by kernel_rfl), (by decide), trivial⟩ (fun h => absurd rfl h) (fun h => absurd rfl h)
theorem tok162 : TIok Tryz.prog 162 ⟨3, [.string ⟨#[]⟩, .string ⟨#[]⟩, .nilIface], .st [(0, 1), (1, 1), (2, 1)], 0⟩ := TIok.st (z := .agg #[.string ⟨#[]⟩, .string ⟨#[]⟩, .nilIface]) (by kernel_rfl) rfl Tryz.underlying162 ⟨rfl, (by kernel_rfl), (by decide), rfl, (by kernel_rfl), (by decide), rfl, (by kernel_rfl), (by decide), trivial⟩ (fun h => absurd rfl h) (fun h => absurd rfl h)
theorem tok163 : TIok Tryz.prog 163 ⟨1, [.nilFunc], .scalar, 0⟩ := TIok.scalar (z := .nilFunc) (by kernel_rfl) rfl Tryz.underlying163 (by simp) (by simp)
theorem tok164 : TIok Tryz.prog 164 ⟨1, [.nilFunc], .scalar, 0⟩ := TIok.scalar (z := .nilFunc) (by kernel_rfl) rfl Tryz.underlying164 (by simp) (by simp)
theorem tok165 : TIok Tryz.prog 165 ⟨20, [.int .u64 0, .int .u64 0, .int .u64 0, .int .u64 0, .int .u64 0, .int .u64 0, .int .u64 0, .int .u64 0, .int .u64 0, .int .u64 0, .int .u64 0, .int .u64 0, .int .u64 0, .int .u64 0, .int .u64 0, .int .u64 0, .int .u64 0, .int .u64 0, .int .u64 0, .int .u64 0], .arr 20 145 1, 0⟩ := TIok.arr (z := .agg #[.int .u64 0, .int .u64 0, .int .u64 0, .int .u64 0, .int .u64 0, .int .u64 0, .int .u64 0, .int .u64 0, .int .u64 0, .int .u64 0, .int .u64 0, .int .u64 0, .int .u64 0, .int .u64 0, .int .u64 0, .int .u64 0, .int .u64 0, .int .u64 0, .int .u64 0, .int .u64 0]) (by kernel_rfl) rfl Tryz.underlying165 (by kernel_rfl)
theorem tok166 : TIok Tryz.prog 166 ⟨1, [.int .u32 0], .int .u32, 0⟩ := TIok.int (by kernel_rfl) Tryz.underlying166
theorem tok168 : TIok Tryz.prog 168 ⟨1, [.nilFunc], .scalar, 0⟩ := TIok.scalar (z := .nilFunc) (by kernel_rfl) rfl Tryz.underlying168 (by simp) (by simp)
theorem tok169 : TIok Tryz.prog 169 ⟨1, [.nilFunc], .scalar, 0⟩ := TIok.scalar (z := .nilFunc) (by kernel_rfl) rfl Tryz.underlying169 (by simp) (by simp)
theorem tok170 : TIok Tryz.prog 170 ⟨1, [.pointer none], .scalar, 0⟩ := TIok.scalar (z := .pointer none) (by kernel_rfl) rfl Tryz.underlying170 (by simp) (by simp)
theorem tok171 : TIok Tryz.prog 171 ⟨1, [.string ⟨#[]⟩], .st [(0, 1)], 1000002⟩ := TIok.st (z := .agg #[.string ⟨#[]⟩]) (by kernel_rfl) rfl Tryz.underlying171 ⟨rfl, (by kernel_rfl), (by decide), trivial⟩ (fun _ => EqS.up (c := 2) (EqS.of Tryz.underlying171 Tryz.eqGuardType171 Tryz.stoodInHeld171 (by simp [flOk, Tryz.underlying9]))) (fun _ => ScOk.ofS (c := 2) Tryz.underlying171 (by simp [flOk, Tryz.underlying9]))
theorem tok172 : TIok Tryz.prog 172 ⟨1, [.string ⟨#[]⟩], .st [(0, 1)], 1000002⟩ := TIok.st (z := .agg #[.string ⟨#[]⟩]) (by kernel_rfl) rfl Tryz.underlying172 ⟨rfl, (by kernel_rfl), (by decide), trivial⟩ (fun _ => EqS.up (c := 2) (EqS.of Tryz.underlying172 Tryz.eqGuardType172 Tryz.stoodInHeld172 (by simp [flOk, Tryz.underlying9]))) (fun _ => ScOk.ofS (c := 2) Tryz.underlying172 (by simp [flOk, Tryz.underlying9]))
theorem tok173 : TIok Tryz.prog 173 ⟨1, [.nilFunc], .scalar, 0⟩ := TIok.scalar (z := .nilFunc) (by kernel_rfl) rfl Tryz.underlying173 (by simp) (by simp)
theorem tok175 : TIok Tryz.prog 175 ⟨2, [.int .u8 0, .int .u8 0], .st [(0, 1), (1, 1)], 0⟩ := TIok.st (z := .agg #[.int .u8 0, .int .u8 0]) (by kernel_rfl) rfl Tryz.underlying175 ⟨rfl, (by kernel_rfl), (by decide), rfl, (by kernel_rfl), (by decide), trivial⟩ (fun h => absurd rfl h) (fun h => absurd rfl h)
theorem tok176 : TIok Tryz.prog 176 ⟨2, [.int .u8 0, .int .u8 0], .st [(0, 1), (1, 1)], 0⟩ := TIok.st (z := .agg #[.int .u8 0, .int .u8 0]) (by kernel_rfl) rfl Tryz.underlying176 ⟨rfl, (by kernel_rfl), (by decide), rfl, (by kernel_rfl), (by decide), trivial⟩ (fun h => absurd rfl h) (fun h => absurd rfl h)
theorem tok177 : TIok Tryz.prog 177 ⟨32, [.int .u8 0, .int .u8 0, .int .u8 0, .int .u8 0, .int .u8 0, .int .u8 0, .int .u8 0, .int .u8 0, .int .u8 0, .int .u8 0, .int .u8 0, .int .u8 0, .int .u8 0, .int .u8 0, .int .u8 0, .int .u8 0, .int .u8 0, .int .u8 0, .int .u8 0, .int .u8 0, .int .u8 0, .int .u8 0, .int .u8 0, .int .u8 0, .int .u8 0, .int .u8 0, .int .u8 0, .int .u8 0, .int .u8 0, .int .u8 0, .int .u8 0, .int .u8 0], .arr 16 176 2, 0⟩ := TIok.arr (z := .agg #[.int .u8 0, .int .u8 0, .int .u8 0, .int .u8 0, .int .u8 0, .int .u8 0, .int .u8 0, .int .u8 0, .int .u8 0, .int .u8 0, .int .u8 0, .int .u8 0, .int .u8 0, .int .u8 0, .int .u8 0, .int .u8 0, .int .u8 0, .int .u8 0, .int .u8 0, .int .u8 0, .int .u8 0, .int .u8 0, .int .u8 0, .int .u8 0, .int .u8 0, .int .u8 0, .int .u8 0, .int .u8 0, .int .u8 0, .int .u8 0, .int .u8 0, .int .u8 0]) (by kernel_rfl) rfl Tryz.underlying177 (by kernel_rfl)
theorem tok179 : TIok Tryz.prog 179 ⟨1, [.nilFunc], .scalar, 0⟩ := TIok.scalar (z := .nilFunc) (by kernel_rfl) rfl Tryz.underlying179 (by simp) (by simp)
theorem tok180 : TIok Tryz.prog 180 ⟨32, [.int .u8 0, .int .u8 0, .int .u8 0, .int .u8 0, .int .u8 0, .int .u8 0, .int .u8 0, .int .u8 0, .int .u8 0, .int .u8 0, .int .u8 0, .int .u8 0, .int .u8 0, .int .u8 0, .int .u8 0, .int .u8 0, .int .u8 0, .int .u8 0, .int .u8 0, .int .u8 0, .int .u8 0, .int .u8 0, .int .u8 0, .int .u8 0, .int .u8 0, .int .u8 0, .int .u8 0, .int .u8 0, .int .u8 0, .int .u8 0, .int .u8 0, .int .u8 0], .arr 32 5 1, 0⟩ := TIok.arr (z := .agg #[.int .u8 0, .int .u8 0, .int .u8 0, .int .u8 0, .int .u8 0, .int .u8 0, .int .u8 0, .int .u8 0, .int .u8 0, .int .u8 0, .int .u8 0, .int .u8 0, .int .u8 0, .int .u8 0, .int .u8 0, .int .u8 0, .int .u8 0, .int .u8 0, .int .u8 0, .int .u8 0, .int .u8 0, .int .u8 0, .int .u8 0, .int .u8 0, .int .u8 0, .int .u8 0, .int .u8 0, .int .u8 0, .int .u8 0, .int .u8 0, .int .u8 0, .int .u8 0]) (by kernel_rfl) rfl Tryz.underlying180 (by kernel_rfl)
theorem tok181 : TIok Tryz.prog 181 ⟨64, [.int .u8 0, .int .u8 0, .int .u8 0, .int .u8 0, .int .u8 0, .int .u8 0, .int .u8 0, .int .u8 0, .int .u8 0, .int .u8 0, .int .u8 0, .int .u8 0, .int .u8 0, .int .u8 0, .int .u8 0, .int .u8 0, .int .u8 0, .int .u8 0, .int .u8 0, .int .u8 0, .int .u8 0, .int .u8 0, .int .u8 0, .int .u8 0, .int .u8 0, .int .u8 0, .int .u8 0, .int .u8 0, .int .u8 0, .int .u8 0, .int .u8 0, .int .u8 0, .int .u8 0, .int .u8 0, .int .u8 0, .int .u8 0, .int .u8 0, .int .u8 0, .int .u8 0, .int .u8 0, .int .u8 0, .int .u8 0, .int .u8 0, .int .u8 0, .int .u8 0, .int .u8 0, .int .u8 0, .int .u8 0, .int .u8 0, .int .u8 0, .int .u8 0, .int .u8 0, .int .u8 0, .int .u8 0, .int .u8 0, .int .u8 0, .int .u8 0, .int .u8 0, .int .u8 0, .int .u8 0, .int .u8 0, .int .u8 0, .int .u8 0, .int .u8 0], .arr 64 5 1, 0⟩ := TIok.arr (z := .agg #[.int .u8 0, .int .u8 0, .int .u8 0, .int .u8 0, .int .u8 0, .int .u8 0, .int .u8 0, .int .u8 0, .int .u8 0, .int .u8 0, .int .u8 0, .int .u8 0, .int .u8 0, .int .u8 0, .int .u8 0, .int .u8 0, .int .u8 0, .int .u8 0, .int .u8 0, .int .u8 0, .int .u8 0, .int .u8 0, .int .u8 0, .int .u8 0, .int .u8 0, .int .u8 0, .int .u8 0, .int .u8 0, .int .u8 0, .int .u8 0, .int .u8 0, .int .u8 0, .int .u8 0, .int .u8 0, .int .u8 0, .int .u8 0, .int .u8 0, .int .u8 0, .int .u8 0, .int .u8 0, .int .u8 0, .int .u8 0, .int .u8 0, .int .u8 0, .int .u8 0, .int .u8 0, .int .u8 0, .int .u8 0, .int .u8 0, .int .u8 0, .int .u8 0, .int .u8 0, .int .u8 0, .int .u8 0, .int .u8 0, .int .u8 0, .int .u8 0, .int .u8 0, .int .u8 0, .int .u8 0, .int .u8 0, .int .u8 0, .int .u8 0, .int .u8 0]) (by kernel_rfl) rfl Tryz.underlying181 (by kernel_rfl)
theorem tok182 : TIok Tryz.prog 182 ⟨4, [.pointer none, .pointer none, .pointer none, .string ⟨#[]⟩], .st [(0, 1), (1, 1), (2, 1), (3, 1)], 0⟩ := TIok.st (z := .agg #[.pointer none, .pointer none, .pointer none, .string ⟨#[]⟩]) (by kernel_rfl) rfl Tryz.underlying182 ⟨rfl, (by kernel_rfl), (by decide), rfl, (by kernel_rfl), (by decide), rfl, (by kernel_rfl), (by decide), rfl, (by kernel_rfl), (by decide), trivial⟩ (fun h => absurd rfl h) (fun h => absurd rfl h)
theorem tok183 : TIok Tryz.prog 183 ⟨4, [.pointer none, .pointer none, .pointer none, .string ⟨#[]⟩], .st [(0, 1), (1, 1), (2, 1), (3, 1)], 0⟩ := TIok.st (z := .agg #[.pointer none, .pointer none, .pointer none, .string ⟨#[]⟩]) (by kernel_rfl) rfl Tryz.underlying183 ⟨rfl, (by kernel_rfl), (by decide), rfl, (by kernel_rfl), (by decide), rfl, (by kernel_rfl), (by decide), rfl, (by kernel_rfl), (by decide), trivial⟩ (fun h => absurd rfl h) (fun h => absurd rfl h)
theorem tok184 : TIok Tryz.prog 184 ⟨0, [], .arr 0 16 1, 0⟩ := TIok.arr (z := .agg #[]) (by kernel_rfl) rfl Tryz.underlying184 (by kernel_rfl)
theorem tok187 : TIok Tryz.prog 187 ⟨1, [.int .u8 0], .int .u8, 0⟩ := TIok.int (by kernel_rfl) Tryz.underlying187
theorem tok188 : TIok Tryz.prog 188 ⟨1, [.int .u8 0], .int .u8, 0⟩ := TIok.int (by kernel_rfl) Tryz.underlying188
theorem tok189 : TIok Tryz.prog 189 ⟨1, [.nilFunc], .scalar, 0⟩ := TIok.scalar (z := .nilFunc) (by kernel_rfl) rfl Tryz.underlying189 (by simp) (by simp)
theorem tok190 : TIok Tryz.prog 190 ⟨1, [.int .i32 0], .int .i32, 0⟩ := TIok.int (by kernel_rfl) Tryz.underlying190
theorem tok191 : TIok Tryz.prog 191 ⟨1, [.int .i32 0], .int .i32, 0⟩ := TIok.int (by kernel_rfl) Tryz.underlying191
theorem tok192 : TIok Tryz.prog 192 ⟨11, [.int .u64 0, .int .u64 0, .int .u32 0, .int .u8 0, .int .u8 0, .int .u8 0, .int .u8 0, .nilFunc, .pointer none, .int .i32 0, .int .i32 0], .st [(0, 1), (1, 1), (2, 1), (3, 1), (4, 1), (5, 1), (6, 1), (7, 1), (8, 1), (9, 1), (10, 1)], 0⟩ := TIok.st (z := .agg #[.int .u64 0, .int .u64 0, .int .u32 0, .int .u8 0, .int .u8 0, .int .u8 0, .int .u8 0, .nilFunc, .pointer none, .int .i32 0, .int .i32 0]) (by kernel_rfl) rfl Tryz.underlying192 ⟨rfl, (by kernel_rfl), (by decide), rfl, (by kernel_rfl), (by decide), rfl, (by kernel_rfl), (by decide), rfl, (by kernel_rfl), (by decide), rfl, (by kernel_rfl), (by decide), rfl, (by kernel_rfl), (by decide), rfl, (by kernel_rfl), (by decide), rfl, (by kernel_rfl), (by decide), rfl, (by kernel_rfl), (by decide), rfl, (by kernel_rfl), (by decide), rfl, (by kernel_rfl), (by decide), trivial⟩ (fun h => absurd rfl h) (fun h => absurd rfl h)
theorem tok193 : TIok Tryz.prog 193 ⟨11, [.int .u64 0, .int .u64 0, .int .u32 0, .int .u8 0, .int .u8 0, .int .u8 0, .int .u8 0, .nilFunc, .pointer none, .int .i32 0, .int .i32 0], .st [(0, 1), (1, 1), (2, 1), (3, 1), (4, 1), (5, 1), (6, 1), (7, 1), (8, 1), (9, 1), (10, 1)], 0⟩ := TIok.st (z := .agg #[.int .u64 0, .int .u64 0, .int .u32 0, .int .u8 0, .int .u8 0, .int .u8 0, .int .u8 0, .nilFunc, .pointer none, .int .i32 0, .int .i32 0]) (by kernel_rfl) rfl Tryz.underlying193 ⟨rfl, (by kernel_rfl), (by decide), rfl, (by kernel_rfl), (by decide), rfl, (by kernel_rfl), (by decide), rfl, (by kernel_rfl), (by decide), rfl, (by kernel_rfl), (by decide), rfl, (by kernel_rfl), (by decide), rfl, (by kernel_rfl), (by decide), rfl, (by kernel_rfl), (by decide), rfl, (by kernel_rfl), (by decide), rfl, (by kernel_rfl), (by decide), rfl, (by kernel_rfl), (by decide), trivial⟩ (fun h => absurd rfl h) (fun h => absurd rfl h)
set_option maxRecDepth 20000 in
theorem Tok : TabOk Tryz.prog Tt :=
  TabOk.cons tok1 <| TabOk.cons tok2 <| TabOk.cons tok3 <| TabOk.cons tok4 <| TabOk.cons tok5 <| TabOk.cons tok6 <| TabOk.cons tok7 <| TabOk.cons tok8 <| TabOk.cons tok9 <| TabOk.cons tok10 <| TabOk.cons tok11 <| TabOk.cons tok12 <| TabOk.cons tok13 <| TabOk.cons tok14 <| TabOk.cons tok15 <| TabOk.cons tok16 <| TabOk.cons tok17 <| TabOk.cons tok18 <| TabOk.cons tok19 <| TabOk.cons tok20 <| TabOk.cons tok21 <| TabOk.cons tok22 <| TabOk.cons tok23 <| TabOk.cons tok24 <| TabOk.cons tok25 <| TabOk.cons tok26 <| TabOk.cons tok27 <| TabOk.cons tok28 <| TabOk.cons tok29 <| TabOk.cons tok31 <| TabOk.cons tok33 <| TabOk.cons tok34 <| TabOk.cons tok35 <| TabOk.cons tok36 <| TabOk.cons tok38 <| TabOk.cons tok39 <| TabOk.cons tok40 <| TabOk.cons tok41 <| TabOk.cons tok42 <| TabOk.cons tok44 <| TabOk.cons tok45 <| TabOk.cons tok46 <| TabOk.cons tok47 <| TabOk.cons tok48 <| TabOk.cons tok49 <| TabOk.cons tok50 <| TabOk.cons tok52 <| TabOk.cons tok53 <| TabOk.cons tok54 <| TabOk.cons tok55 <| TabOk.cons tok56 <| TabOk.cons tok57 <| TabOk.cons tok59 <| TabOk.cons tok60 <| TabOk.cons tok61 <| TabOk.cons tok62 <| TabOk.cons tok63 <| TabOk.cons tok64 <| TabOk.cons tok65 <| TabOk.cons tok66 <| TabOk.cons tok67 <| TabOk.cons tok68 <| TabOk.cons tok69 <| TabOk.cons tok70 <| TabOk.cons tok71 <| TabOk.cons tok72 <| TabOk.cons tok74 <| TabOk.cons tok75 <| TabOk.cons tok76 <| TabOk.cons tok77 <| TabOk.cons tok78 <| TabOk.cons tok80 <| TabOk.cons tok81 <| TabOk.cons tok82 <| TabOk.cons tok83 <| TabOk.cons tok84 <| TabOk.cons tok85 <| TabOk.cons tok86 <| TabOk.cons tok87 <| TabOk.cons tok89 <| TabOk.cons tok90 <| TabOk.cons tok91 <| TabOk.cons tok92 <| TabOk.cons tok93 <| TabOk.cons tok94 <| TabOk.cons tok95 <| TabOk.cons tok96 <| TabOk.cons tok97 <| TabOk.cons tok98 <| TabOk.cons tok99 <| TabOk.cons tok100 <| TabOk.cons tok101 <| TabOk.cons tok102 <| TabOk.cons tok103 <| TabOk.cons tok104 <| TabOk.cons tok105 <| TabOk.cons tok106 <| TabOk.cons tok107 <| TabOk.cons tok108 <| TabOk.cons tok109 <| TabOk.cons tok110 <| TabOk.cons tok111 <| TabOk.cons tok112 <| TabOk.cons tok113 <| TabOk.cons tok114 <| TabOk.cons tok115 <| TabOk.cons tok116 <| TabOk.cons tok117 <| TabOk.cons tok118 <| TabOk.cons tok119 <| TabOk.cons tok120 <| TabOk.cons tok121 <| TabOk.cons tok122 <| TabOk.cons tok123 <| TabOk.cons tok124 <| TabOk.cons tok125 <| TabOk.cons tok126 <| TabOk.cons tok127 <| TabOk.cons tok128 <| TabOk.cons tok129 <| TabOk.cons tok130 <| TabOk.cons tok131 <| TabOk.cons tok132 <| TabOk.cons tok133 <| TabOk.cons tok134 <| TabOk.cons tok136 <| TabOk.cons tok137 <| TabOk.cons tok138 <| TabOk.cons tok139 <| TabOk.cons tok140 <| TabOk.cons tok141 <| TabOk.cons tok142 <| TabOk.cons tok143 <| TabOk.cons tok144 <| TabOk.cons tok145 <| TabOk.cons tok146 <| TabOk.cons tok147 <| TabOk.cons tok149 <| TabOk.cons tok151 <| TabOk.cons tok152 <| TabOk.cons tok153 <| TabOk.cons tok155 <| TabOk.cons tok156 <| TabOk.cons tok158 <| TabOk.cons tok159 <| TabOk.cons tok160 <| TabOk.cons tok161 <| TabOk.cons tok162 <| TabOk.cons tok163 <| TabOk.cons tok164 <| TabOk.cons tok165 <| TabOk.cons tok166 <| TabOk.cons tok168 <| TabOk.cons tok169 <| TabOk.cons tok170 <| TabOk.cons tok171 <| TabOk.cons tok172 <| TabOk.cons tok173 <| TabOk.cons tok175 <| TabOk.cons tok176 <| TabOk.cons tok177 <| TabOk.cons tok179 <| TabOk.cons tok180 <| TabOk.cons tok181 <| TabOk.cons tok182 <| TabOk.cons tok183 <| TabOk.cons tok184 <| TabOk.cons tok187 <| TabOk.cons tok188 <| TabOk.cons tok189 <| TabOk.cons tok190 <| TabOk.cons tok191 <| TabOk.cons tok192 <| TabOk.cons tok193 <| TabOk.nil
set_option maxRecDepth 20000 in
theorem tys :
    (tlook Tt 1 = some ⟨1, [.nilFunc], .scalar, 0⟩) ∧
    (tlook Tt 2 = some ⟨1, [.int .i64 0], .int .i64, 0⟩) ∧
    (tlook Tt 3 = some ⟨1, [.int .i64 0], .int .i64, 0⟩) ∧
    (tlook Tt 4 = some ⟨1, [.bool false], .scalar, 0⟩) ∧
    (tlook Tt 5 = some ⟨1, [.int .u8 0], .int .u8, 0⟩) ∧
    (tlook Tt 6 = some ⟨1, [.int .u8 0], .int .u8, 0⟩) ∧
    (tlook Tt 7 = some ⟨4, [.int .i64 0, .int .i64 0, .bool false, .int .u8 0], .st [(0, 1), (1, 1), (2, 1), (3, 1)], 0⟩) ∧
    (tlook Tt 8 = some ⟨4, [.int .i64 0, .int .i64 0, .bool false, .int .u8 0], .st [(0, 1), (1, 1), (2, 1), (3, 1)], 0⟩) ∧
    (tlook Tt 9 = some ⟨1, [.string ⟨#[]⟩], .str, 0⟩) ∧
    (tlook Tt 10 = some ⟨1, [.string ⟨#[]⟩], .str, 0⟩) ∧
    (tlook Tt 11 = some ⟨1, [.string ⟨#[]⟩], .str, 0⟩) ∧
    (tlook Tt 12 = some ⟨1, [.int .u64 0], .int .u64, 0⟩) ∧
    (tlook Tt 13 = some ⟨2, [.string ⟨#[]⟩, .int .u64 0], .st [(0, 1), (1, 1)], 0⟩) ∧
    (tlook Tt 14 = some ⟨2, [.string ⟨#[]⟩, .int .u64 0], .st [(0, 1), (1, 1)], 0⟩) ∧
    (tlook Tt 15 = some ⟨1, [.pointer none], .scalar, 0⟩) ∧
    (tlook Tt 16 = some ⟨1, [.pointer none], .scalar, 0⟩) ∧
    (tlook Tt 17 = some ⟨1, [.pointer none], .scalar, 0⟩) ∧
    (tlook Tt 18 = some ⟨1, [.pointer none], .st [(0, 1)], 0⟩) ∧
    (tlook Tt 19 = some ⟨1, [.pointer none], .st [(0, 1)], 0⟩) ∧
    (tlook Tt 20 = some ⟨1, [.nilIface], .ifc, 0⟩) ∧
    (tlook Tt 21 = some ⟨1, [.int .i32 0], .int .i32, 0⟩) ∧
    (tlook Tt 22 = some ⟨1, [.slice none 0 0], .sl 9 1 16 [.string ⟨#[]⟩], 0⟩) ∧
    (tlook Tt 23 = some ⟨7, [.string ⟨#[]⟩, .int .i64 0, .int .i64 0, .int .i64 0, .slice none 0 0, .int .i64 0, .int .i64 0], .st [(0, 1), (1, 1), (2, 1), (3, 1), (4, 1), (5, 1), (6, 1)], 0⟩) ∧
    (tlook Tt 24 = some ⟨7, [.string ⟨#[]⟩, .int .i64 0, .int .i64 0, .int .i64 0, .slice none 0 0, .int .i64 0, .int .i64 0], .st [(0, 1), (1, 1), (2, 1), (3, 1), (4, 1), (5, 1), (6, 1)], 0⟩) ∧
    (tlook Tt 25 = some ⟨1, [.nilFunc], .scalar, 0⟩) ∧
    (tlook Tt 26 = some ⟨1, [.nilFunc], .scalar, 0⟩) ∧
    (tlook Tt 27 = some ⟨1, [.nilFunc], .scalar, 0⟩) ∧
    (tlook Tt 28 = some ⟨1, [.nilFunc], .scalar, 0⟩) ∧
    (tlook Tt 29 = some ⟨1, [.int .i64 0], .int .i64, 0⟩) ∧
    (tlook Tt 31 = some ⟨1, [.nilFunc], .scalar, 0⟩) ∧
    (tlook Tt 33 = some ⟨1, [.nilFunc], .scalar, 0⟩) ∧
    (tlook Tt 34 = some ⟨1, [.nilFunc], .scalar, 0⟩) ∧
    (tlook Tt 35 = some ⟨1, [.nilFunc], .scalar, 0⟩) ∧
    (tlook Tt 36 = some ⟨1, [.nilFunc], .scalar, 0⟩) ∧
    (tlook Tt 38 = some ⟨1, [.nilFunc], .scalar, 0⟩) ∧
    (tlook Tt 39 = some ⟨1, [.nilFunc], .scalar, 0⟩) ∧
    (tlook Tt 40 = some ⟨3, [.int .i64 0, .int .i64 0, .int .i64 0], .st [(0, 1), (1, 1), (2, 1)], 3⟩) ∧
    (tlook Tt 41 = some ⟨3, [.int .i64 0, .int .i64 0, .int .i64 0], .st [(0, 1), (1, 1), (2, 1)], 3⟩) ∧
    (tlook Tt 42 = some ⟨2, [.int .i64 0, .int .i64 0], .arr 2 3 1, 2⟩) ∧
    (tlook Tt 44 = some ⟨1, [.nilFunc], .scalar, 0⟩) ∧
    (tlook Tt 45 = some ⟨2, [.int .i64 0, .int .i64 0], .st [(0, 1), (1, 1)], 2⟩) ∧
    (tlook Tt 46 = some ⟨2, [.int .i64 0, .int .i64 0], .st [(0, 1), (1, 1)], 2⟩) ∧
    (tlook Tt 47 = some ⟨4, [.int .i64 0, .int .i64 0, .int .i64 0, .int .i64 0], .st [(0, 1), (1, 1), (2, 2)], 0⟩) ∧
    (tlook Tt 48 = some ⟨4, [.int .i64 0, .int .i64 0, .int .i64 0, .int .i64 0], .st [(0, 1), (1, 1), (2, 2)], 0⟩) ∧
    (tlook Tt 49 = some ⟨1, [.slice none 0 0], .sl 3 1 8 [.int .i64 0], 0⟩) ∧
    (tlook Tt 50 = some ⟨1, [.slice none 0 0], .sl 126 2 32 [.int .i64 0, .slice none 0 0], 0⟩) ∧
    (tlook Tt 52 = some ⟨1, [.nilFunc], .scalar, 0⟩) ∧
    (tlook Tt 53 = some ⟨1, [.slice none 0 0], .sl 49 1 24 [.slice none 0 0], 0⟩) ∧
    (tlook Tt 54 = some ⟨2, [.slice none 0 0, .slice none 0 0], .st [(0, 1), (1, 1)], 0⟩) ∧
    (tlook Tt 55 = some ⟨2, [.slice none 0 0, .slice none 0 0], .st [(0, 1), (1, 1)], 0⟩) ∧
    (tlook Tt 56 = some ⟨1, [.nilFunc], .scalar, 0⟩) ∧
    (tlook Tt 57 = some ⟨1, [.slice none 0 0], .sl 129 3 24 [.int .i64 0, .int .i64 0, .int .i64 0], 0⟩) ∧
    (tlook Tt 59 = some ⟨1, [.nilFunc], .scalar, 0⟩) ∧
    (tlook Tt 60 = some ⟨1, [.slice none 0 0], .sl 109 4 40 [.string ⟨#[]⟩, .int .i64 0, .int .i64 0, .int .i64 0], 0⟩) ∧
    (tlook Tt 61 = some ⟨1, [.nilFunc], .scalar, 0⟩) ∧
    (tlook Tt 62 = some ⟨1, [.nilFunc], .scalar, 0⟩) ∧
    (tlook Tt 63 = some ⟨1, [.slice none 0 0], .sl 66 1 8 [.pointer none], 0⟩) ∧
    (tlook Tt 64 = some ⟨1, [.nilFunc], .scalar, 0⟩) ∧
    (tlook Tt 65 = some ⟨1, [.pointer none], .scalar, 0⟩) ∧
    (tlook Tt 66 = some ⟨1, [.pointer none], .scalar, 0⟩) ∧
    (tlook Tt 67 = some ⟨1, [.nilFunc], .scalar, 0⟩) ∧
    (tlook Tt 68 = some ⟨1, [.nilFunc], .scalar, 0⟩) ∧
    (tlook Tt 69 = some ⟨1, [.nilFunc], .scalar, 0⟩) ∧
    (tlook Tt 70 = some ⟨1, [.nilFunc], .scalar, 0⟩) ∧
    (tlook Tt 71 = some ⟨1, [.nilIface], .ifc, 0⟩) ∧
    (tlook Tt 72 = some ⟨1, [.nilIface], .ifc, 0⟩) ∧
    (tlook Tt 74 = some ⟨1, [.nilFunc], .scalar, 0⟩) ∧
    (tlook Tt 75 = some ⟨1, [.nilFunc], .scalar, 0⟩) ∧
    (tlook Tt 76 = some ⟨1, [.nilFunc], .scalar, 0⟩) ∧
    (tlook Tt 77 = some ⟨1, [.nilFunc], .scalar, 0⟩) ∧
    (tlook Tt 78 = some ⟨5, [.int .i64 0, .int .i64 0, .int .i64 0, .int .i64 0, .int .i64 0], .arr 5 3 1, 5⟩) ∧
    (tlook Tt 80 = some ⟨1, [.nilFunc], .scalar, 0⟩) ∧
    (tlook Tt 81 = some ⟨1, [.nilFunc], .scalar, 0⟩) ∧
    (tlook Tt 82 = some ⟨1, [.nilFunc], .scalar, 0⟩) ∧
    (tlook Tt 83 = some ⟨1, [.nilFunc], .scalar, 0⟩) ∧
    (tlook Tt 84 = some ⟨1, [.nilFunc], .scalar, 0⟩) ∧
    (tlook Tt 85 = some ⟨3, [.int .i64 0, .int .i64 0, .int .i64 0], .arr 3 3 1, 3⟩) ∧
    (tlook Tt 86 = some ⟨1, [.nilFunc], .scalar, 0⟩) ∧
    (tlook Tt 87 = some ⟨1, [.nilFunc], .scalar, 0⟩) ∧
    (tlook Tt 89 = some ⟨1, [.nilFunc], .scalar, 0⟩) ∧
    (tlook Tt 90 = some ⟨1, [.nilFunc], .scalar, 0⟩) ∧
    (tlook Tt 91 = some ⟨1, [.pointer none], .scalar, 0⟩) ∧
    (tlook Tt 92 = some ⟨2, [.slice none 0 0, .slice none 0 0], .st [(0, 2)], 0⟩) ∧
    (tlook Tt 93 = some ⟨2, [.slice none 0 0, .slice none 0 0], .st [(0, 2)], 0⟩) ∧
    (tlook Tt 94 = some ⟨4, [.slice none 0 0, .slice none 0 0, .int .i64 0, .slice none 0 0], .st [(0, 2), (2, 1), (3, 1)], 0⟩) ∧
    (tlook Tt 95 = some ⟨4, [.slice none 0 0, .slice none 0 0, .int .i64 0, .slice none 0 0], .st [(0, 2), (2, 1), (3, 1)], 0⟩) ∧
    (tlook Tt 96 = some ⟨1, [.nilFunc], .scalar, 0⟩) ∧
    (tlook Tt 97 = some ⟨1, [.nilFunc], .scalar, 0⟩) ∧
    (tlook Tt 98 = some ⟨3, [.slice none 0 0, .slice none 0 0, .bool false], .st [(0, 1), (1, 1), (2, 1)], 0⟩) ∧
    (tlook Tt 99 = some ⟨3, [.slice none 0 0, .slice none 0 0, .bool false], .st [(0, 1), (1, 1), (2, 1)], 0⟩) ∧
    (tlook Tt 100 = some ⟨1, [.nilFunc], .scalar, 0⟩) ∧
    (tlook Tt 101 = some ⟨1, [.nilFunc], .scalar, 0⟩) ∧
    (tlook Tt 102 = some ⟨1, [.nilFunc], .scalar, 0⟩) ∧
    (tlook Tt 103 = some ⟨1, [.nilFunc], .scalar, 0⟩) ∧
    (tlook Tt 104 = some ⟨1, [.nilFunc], .scalar, 0⟩) ∧
    (tlook Tt 105 = some ⟨1, [.nilFunc], .scalar, 0⟩) ∧
    (tlook Tt 106 = some ⟨1, [.nilFunc], .scalar, 0⟩) ∧
    (tlook Tt 107 = some ⟨1, [.nilFunc], .scalar, 0⟩) ∧
    (tlook Tt 108 = some ⟨4, [.string ⟨#[]⟩, .int .i64 0, .int .i64 0, .int .i64 0], .st [(0, 1), (1, 1), (2, 1), (3, 1)], 1000030⟩) ∧
    (tlook Tt 109 = some ⟨4, [.string ⟨#[]⟩, .int .i64 0, .int .i64 0, .int .i64 0], .st [(0, 1), (1, 1), (2, 1), (3, 1)], 1000030⟩) ∧
    (tlook Tt 110 = some ⟨1, [.pointer none], .scalar, 0⟩) ∧
    (tlook Tt 111 = some ⟨1, [.slice none 0 0], .sl 5 1 1 [.int .u8 0], 0⟩) ∧
    (tlook Tt 112 = some ⟨2, [.pointer none, .slice none 0 0], .st [(0, 1), (1, 1)], 0⟩) ∧
    (tlook Tt 113 = some ⟨2, [.pointer none, .slice none 0 0], .st [(0, 1), (1, 1)], 0⟩) ∧
    (tlook Tt 114 = some ⟨1, [.nilFunc], .scalar, 0⟩) ∧
    (tlook Tt 115 = some ⟨1, [.nilFunc], .scalar, 0⟩) ∧
    (tlook Tt 116 = some ⟨1, [.nilFunc], .scalar, 0⟩) ∧
    (tlook Tt 117 = some ⟨1, [.nilFunc], .scalar, 0⟩) ∧
    (tlook Tt 118 = some ⟨1, [.nilFunc], .scalar, 0⟩) ∧
    (tlook Tt 119 = some ⟨1, [.nilFunc], .scalar, 0⟩) ∧
    (tlook Tt 120 = some ⟨1, [.nilFunc], .scalar, 0⟩) ∧
    (tlook Tt 121 = some ⟨1, [.nilFunc], .scalar, 0⟩) ∧
    (tlook Tt 122 = some ⟨1, [.nilFunc], .scalar, 0⟩) ∧
    (tlook Tt 123 = some ⟨1, [.nilFunc], .scalar, 0⟩) ∧
    (tlook Tt 124 = some ⟨1, [.nilFunc], .scalar, 0⟩) ∧
    (tlook Tt 125 = some ⟨2, [.int .i64 0, .slice none 0 0], .st [(0, 1), (1, 1)], 0⟩) ∧
    (tlook Tt 126 = some ⟨2, [.int .i64 0, .slice none 0 0], .st [(0, 1), (1, 1)], 0⟩) ∧
    (tlook Tt 127 = some ⟨1, [.map none], .mp none (.bool false), 0⟩) ∧
    (tlook Tt 128 = some ⟨3, [.int .i64 0, .int .i64 0, .int .i64 0], .st [(0, 1), (1, 1), (2, 1)], 3⟩) ∧
    (tlook Tt 129 = some ⟨3, [.int .i64 0, .int .i64 0, .int .i64 0], .st [(0, 1), (1, 1), (2, 1)], 3⟩) ∧
    (tlook Tt 130 = some ⟨1, [.nilFunc], .scalar, 0⟩) ∧
    (tlook Tt 131 = some ⟨1, [.pointer none], .scalar, 0⟩) ∧
    (tlook Tt 132 = some ⟨1, [.nilFunc], .scalar, 0⟩) ∧
    (tlook Tt 133 = some ⟨1, [.nilFunc], .scalar, 0⟩) ∧
    (tlook Tt 134 = some ⟨1, [.int .i64 0], .int .i64, 0⟩) ∧
    (tlook Tt 136 = some ⟨1, [.nilFunc], .scalar, 0⟩) ∧
    (tlook Tt 137 = some ⟨1, [.pointer none], .scalar, 0⟩) ∧
    (tlook Tt 138 = some ⟨1, [.nilFunc], .scalar, 0⟩) ∧
    (tlook Tt 139 = some ⟨1, [.nilFunc], .scalar, 0⟩) ∧
    (tlook Tt 140 = some ⟨1, [.nilFunc], .scalar, 0⟩) ∧
    (tlook Tt 141 = some ⟨1, [.nilFunc], .scalar, 0⟩) ∧
    (tlook Tt 142 = some ⟨1, [.nilFunc], .scalar, 0⟩) ∧
    (tlook Tt 143 = some ⟨1, [.nilFunc], .scalar, 0⟩) ∧
    (tlook Tt 144 = some ⟨24, [.int .u8 0, .int .u8 0, .int .u8 0, .int .u8 0, .int .u8 0, .int .u8 0, .int .u8 0, .int .u8 0, .int .u8 0, .int .u8 0, .int .u8 0, .int .u8 0, .int .u8 0, .int .u8 0, .int .u8 0, .int .u8 0, .int .u8 0, .int .u8 0, .int .u8 0, .int .u8 0, .int .u8 0, .int .u8 0, .int .u8 0, .int .u8 0], .arr 24 5 1, 0⟩) ∧
    (tlook Tt 145 = some ⟨1, [.int .u64 0], .int .u64, 0⟩) ∧
    (tlook Tt 146 = some ⟨1, [.nilFunc], .scalar, 0⟩) ∧
    (tlook Tt 147 = some ⟨1, [.nilFunc], .scalar, 0⟩) ∧
    (tlook Tt 149 = some ⟨1, [.nilFunc], .scalar, 0⟩) ∧
    (tlook Tt 151 = some ⟨1, [.nilFunc], .scalar, 0⟩) ∧
    (tlook Tt 152 = some ⟨1, [.nilFunc], .scalar, 0⟩) ∧
    (tlook Tt 153 = some ⟨1, [.nilFunc], .scalar, 0⟩) ∧
    (tlook Tt 155 = some ⟨1, [.nilFunc], .scalar, 0⟩) ∧
    (tlook Tt 156 = some ⟨1, [.nilFunc], .scalar, 0⟩) ∧
    (tlook Tt 158 = some ⟨1, [.nilFunc], .scalar, 0⟩) ∧
    (tlook Tt 159 = some ⟨1, [.int .u64 0], .int .u64, 0⟩) ∧
    (tlook Tt 160 = some ⟨1, [.nilFunc], .scalar, 0⟩) ∧
    (tlook Tt 161 = some ⟨3, [.string ⟨#[]⟩, .string ⟨#[]⟩, .nilIface], .st [(0, 1), (1, 1), (2, 1)], 0⟩) ∧
    (tlook Tt 162 = some ⟨3, [.string ⟨#[]⟩, .string ⟨#[]⟩, .nilIface], .st [(0, 1), (1, 1), (2, 1)], 0⟩) ∧
    (tlook Tt 163 = some ⟨1, [.nilFunc], .scalar, 0⟩) ∧
    (tlook Tt 164 = some ⟨1, [.nilFunc], .scalar, 0⟩) ∧
    (tlook Tt 165 = some ⟨20, [.int .u64 0, .int .u64 0, .int .u64 0, .int .u64 0, .int .u64 0, .int .u64 0, .int .u64 0, .int .u64 0, .int .u64 0, .int .u64 0, .int .u64 0, .int .u64 0, .int .u64 0, .int .u64 0, .int .u64 0, .int .u64 0, .int .u64 0, .int .u64 0, .int .u64 0, .int .u64 0], .arr 20 145 1, 0⟩) ∧
    (tlook Tt 166 = some ⟨1, [.int .u32 0], .int .u32, 0⟩) ∧
    (tlook Tt 168 = some ⟨1, [.nilFunc], .scalar, 0⟩) ∧
    (tlook Tt 169 = some ⟨1, [.nilFunc], .scalar, 0⟩) ∧
    (tlook Tt 170 = some ⟨1, [.pointer none], .scalar, 0⟩) ∧
    (tlook Tt 171 = some ⟨1, [.string ⟨#[]⟩], .st [(0, 1)], 1000002⟩) ∧
    (tlook Tt 172 = some ⟨1, [.string ⟨#[]⟩], .st [(0, 1)], 1000002⟩) ∧
    (tlook Tt 173 = some ⟨1, [.nilFunc], .scalar, 0⟩) ∧
    (tlook Tt 175 = some ⟨2, [.int .u8 0, .int .u8 0], .st [(0, 1), (1, 1)], 0⟩) ∧
    (tlook Tt 176 = some ⟨2, [.int .u8 0, .int .u8 0], .st [(0, 1), (1, 1)], 0⟩) ∧
    (tlook Tt 177 = some ⟨32, [.int .u8 0, .int .u8 0, .int .u8 0, .int .u8 0, .int .u8 0, .int .u8 0, .int .u8 0, .int .u8 0, .int .u8 0, .int .u8 0, .int .u8 0, .int .u8 0, .int .u8 0, .int .u8 0, .int .u8 0, .int .u8 0, .int .u8 0, .int .u8 0, .int .u8 0, .int .u8 0, .int .u8 0, .int .u8 0, .int .u8 0, .int .u8 0, .int .u8 0, .int .u8 0, .int .u8 0, .int .u8 0, .int .u8 0, .int .u8 0, .int .u8 0, .int .u8 0], .arr 16 176 2, 0⟩) ∧
    (tlook Tt 179 = some ⟨1, [.nilFunc], .scalar, 0⟩) ∧
    (tlook Tt 180 = some ⟨32, [.int .u8 0, .int .u8 0, .int .u8 0, .int .u8 0, .int .u8 0, .int .u8 0, .int .u8 0, .int .u8 0, .int .u8 0, .int .u8 0, .int .u8 0, .int .u8 0, .int .u8 0, .int .u8 0, .int .u8 0, .int .u8 0, .int .u8 0, .int .u8 0, .int .u8 0, .int .u8 0, .int .u8 0, .int .u8 0, .int .u8 0, .int .u8 0, .int .u8 0, .int .u8 0, .int .u8 0, .int .u8 0, .int .u8 0, .int .u8 0, .int .u8 0, .int .u8 0], .arr 32 5 1, 0⟩) ∧
    (tlook Tt 181 = some ⟨64, [.int .u8 0, .int .u8 0, .int .u8 0, .int .u8 0, .int .u8 0, .int .u8 0, .int .u8 0, .int .u8 0, .int .u8 0, .int .u8 0, .int .u8 0, .int .u8 0, .int .u8 0, .int .u8 0, .int .u8 0, .int .u8 0, .int .u8 0, .int .u8 0, .int .u8 0, .int .u8 0, .int .u8 0, .int .u8 0, .int .u8 0, .int .u8 0, .int .u8 0, .int .u8 0, .int .u8 0, .int .u8 0, .int .u8 0, .int .u8 0, .int .u8 0, .int .u8 0, .int .u8 0, .int .u8 0, .int .u8 0, .int .u8 0, .int .u8 0, .int .u8 0, .int .u8 0, .int .u8 0, .int .u8 0, .int .u8 0, .int .u8 0, .int .u8 0, .int .u8 0, .int .u8 0, .int .u8 0, .int .u8 0, .int .u8 0, .int .u8 0, .int .u8 0, .int .u8 0, .int .u8 0, .int .u8 0, .int .u8 0, .int .u8 0, .int .u8 0, .int .u8 0, .int .u8 0, .int .u8 0, .int .u8 0, .int .u8 0, .int .u8 0, .int .u8 0], .arr 64 5 1, 0⟩) ∧
    (tlook Tt 182 = some ⟨4, [.pointer none, .pointer none, .pointer none, .string ⟨#[]⟩], .st [(0, 1), (1, 1), (2, 1), (3, 1)], 0⟩) ∧
    (tlook Tt 183 = some ⟨4, [.pointer none, .pointer none, .pointer none, .string ⟨#[]⟩], .st [(0, 1), (1, 1), (2, 1), (3, 1)], 0⟩) ∧
    (tlook Tt 184 = some ⟨0, [], .arr 0 16 1, 0⟩) ∧
    (tlook Tt 187 = some ⟨1, [.int .u8 0], .int .u8, 0⟩) ∧
    (tlook Tt 188 = some ⟨1, [.int .u8 0], .int .u8, 0⟩) ∧
    (tlook Tt 189 = some ⟨1, [.nilFunc], .scalar, 0⟩) ∧
    (tlook Tt 190 = some ⟨1, [.int .i32 0], .int .i32, 0⟩) ∧
    (tlook Tt 191 = some ⟨1, [.int .i32 0], .int .i32, 0⟩) ∧
    (tlook Tt 192 = some ⟨11, [.int .u64 0, .int .u64 0, .int .u32 0, .int .u8 0, .int .u8 0, .int .u8 0, .int .u8 0, .nilFunc, .pointer none, .int .i32 0, .int .i32 0], .st [(0, 1), (1, 1), (2, 1), (3, 1), (4, 1), (5, 1), (6, 1), (7, 1), (8, 1), (9, 1), (10, 1)], 0⟩) ∧
    (tlook Tt 193 = some ⟨11, [.int .u64 0, .int .u64 0, .int .u32 0, .int .u8 0, .int .u8 0, .int .u8 0, .int .u8 0, .nilFunc, .pointer none, .int .i32 0, .int .i32 0], .st [(0, 1), (1, 1), (2, 1), (3, 1), (4, 1), (5, 1), (6, 1), (7, 1), (8, 1), (9, 1), (10, 1)], 0⟩) :=
  ⟨rfl, rfl, rfl, rfl, rfl, rfl, rfl, rfl, rfl, rfl, rfl, rfl, rfl, rfl, rfl, rfl, rfl, rfl, rfl, rfl, rfl, rfl, rfl, rfl, rfl, rfl, rfl, rfl, rfl, rfl, rfl, rfl, rfl, rfl, rfl, rfl, rfl, rfl, rfl, rfl, rfl, rfl, rfl, rfl, rfl, rfl, rfl, rfl, rfl, rfl, rfl, rfl, rfl, rfl, rfl, rfl, rfl, rfl, rfl, rfl, rfl, rfl, rfl, rfl, rfl, rfl, rfl, rfl, rfl, rfl, rfl, rfl, rfl, rfl, rfl, rfl, rfl, rfl, rfl, rfl, rfl, rfl, rfl, rfl, rfl, rfl, rfl, rfl, rfl, rfl, rfl, rfl, rfl, rfl, rfl, rfl, rfl, rfl, rfl, rfl, rfl, rfl, rfl, rfl, rfl, rfl, rfl, rfl, rfl, rfl, rfl, rfl, rfl, rfl, rfl, rfl, rfl, rfl, rfl, rfl, rfl, rfl, rfl, rfl, rfl, rfl, rfl, rfl, rfl, rfl, rfl, rfl, rfl, rfl, rfl, rfl, rfl, rfl, rfl, rfl, rfl, rfl, rfl, rfl, rfl, rfl, rfl, rfl, rfl, rfl, rfl, rfl, rfl, rfl, rfl, rfl, rfl, rfl, rfl, rfl, rfl, rfl, rfl, rfl, rfl, rfl, rfl, rfl, rfl, rfl, rfl, rfl, rfl, rfl⟩
end Go.Proofs.YtfojggadhhaleaaGreatDoor
