/-
  The executor's table of this program's types, proved. Written by gen_t.py.
-/
import Derived.Test.YtaagelngbbkllaaVLib
import Derived.Test.YtaagelngbbkllaaVTabA
import Derived.Test.YtaagelngbbkllaaProg
import Derived.KernelRfl
namespace Go.Proofs.Ytaagelngbbkllaa
open Go Go.Vx
set_option linter.unusedSimpArgs false
def Tt : Tab := [
  (1, ⟨1, [.nilFunc], .scalar, 0⟩),
  (2, ⟨1, [.int .i64 0], .int .i64, 0⟩),
  (3, ⟨1, [.int .i64 0], .int .i64, 0⟩),
  (4, ⟨1, [.bool false], .scalar, 0⟩),
  (5, ⟨1, [.int .u8 0], .int .u8, 0⟩),
  (6, ⟨1, [.int .u8 0], .int .u8, 0⟩),
  (7, ⟨4, [.int .i64 0, .int .i64 0, .bool false, .int .u8 0], .st [(0, 1), (1, 1), (2, 1), (3, 1)], 0⟩),
  (8, ⟨4, [.int .i64 0, .int .i64 0, .bool false, .int .u8 0], .st [(0, 1), (1, 1), (2, 1), (3, 1)], 0⟩),
  (9, ⟨1, [.string ⟨#[]⟩], .str, 0⟩),
  (10, ⟨1, [.string ⟨#[]⟩], .str, 0⟩),
  (11, ⟨1, [.string ⟨#[]⟩], .str, 0⟩),
  (12, ⟨1, [.int .u64 0], .int .u64, 0⟩),
  (13, ⟨2, [.string ⟨#[]⟩, .int .u64 0], .st [(0, 1), (1, 1)], 0⟩),
  (14, ⟨2, [.string ⟨#[]⟩, .int .u64 0], .st [(0, 1), (1, 1)], 0⟩),
  (15, ⟨1, [.pointer none], .scalar, 0⟩),
  (16, ⟨1, [.pointer none], .scalar, 0⟩),
  (17, ⟨1, [.pointer none], .scalar, 0⟩),
  (18, ⟨1, [.pointer none], .st [(0, 1)], 0⟩),
  (19, ⟨1, [.pointer none], .st [(0, 1)], 0⟩),
  (20, ⟨1, [.nilIface], .scalar, 0⟩),
  (21, ⟨1, [.int .i32 0], .int .i32, 0⟩),
  (22, ⟨1, [.slice none 0 0], .sl 9 1 16 [.string ⟨#[]⟩], 0⟩),
  (23, ⟨7, [.string ⟨#[]⟩, .int .i64 0, .int .i64 0, .int .i64 0, .slice none 0 0, .int .i64 0, .int .i64 0], .st [(0, 1), (1, 1), (2, 1), (3, 1), (4, 1), (5, 1), (6, 1)], 0⟩),
  (24, ⟨7, [.string ⟨#[]⟩, .int .i64 0, .int .i64 0, .int .i64 0, .slice none 0 0, .int .i64 0, .int .i64 0], .st [(0, 1), (1, 1), (2, 1), (3, 1), (4, 1), (5, 1), (6, 1)], 0⟩),
  (25, ⟨3, [.int .i64 0, .int .i64 0, .int .i64 0], .st [(0, 1), (1, 1), (2, 1)], 3⟩),
  (26, ⟨3, [.int .i64 0, .int .i64 0, .int .i64 0], .st [(0, 1), (1, 1), (2, 1)], 3⟩),
  (27, ⟨1, [.nilFunc], .scalar, 0⟩),
  (28, ⟨1, [.nilFunc], .scalar, 0⟩),
  (29, ⟨1, [.int .i64 0], .int .i64, 0⟩),
  (31, ⟨1, [.nilFunc], .scalar, 0⟩),
  (32, ⟨1, [.nilFunc], .scalar, 0⟩),
  (33, ⟨1, [.nilFunc], .scalar, 0⟩),
  (34, ⟨1, [.nilFunc], .scalar, 0⟩),
  (35, ⟨1, [.nilFunc], .scalar, 0⟩),
  (36, ⟨1, [.nilFunc], .scalar, 0⟩),
  (37, ⟨1, [.nilFunc], .scalar, 0⟩),
  (38, ⟨1, [.nilFunc], .scalar, 0⟩),
  (39, ⟨2, [.int .i64 0, .int .i64 0], .st [(0, 1), (1, 1)], 2⟩),
  (40, ⟨2, [.int .i64 0, .int .i64 0], .st [(0, 1), (1, 1)], 2⟩),
  (41, ⟨4, [.int .i64 0, .int .i64 0, .int .i64 0, .int .i64 0], .st [(0, 1), (1, 1), (2, 2)], 0⟩),
  (42, ⟨4, [.int .i64 0, .int .i64 0, .int .i64 0, .int .i64 0], .st [(0, 1), (1, 1), (2, 2)], 0⟩),
  (43, ⟨2, [.int .i64 0, .int .i64 0], .arr 2 3 1, 2⟩),
  (45, ⟨1, [.nilFunc], .scalar, 0⟩),
  (47, ⟨1, [.nilFunc], .scalar, 0⟩),
  (48, ⟨1, [.nilFunc], .scalar, 0⟩),
  (49, ⟨1, [.nilFunc], .scalar, 0⟩),
  (50, ⟨1, [.nilFunc], .scalar, 0⟩),
  (51, ⟨1, [.nilFunc], .scalar, 0⟩),
  (52, ⟨1, [.nilFunc], .scalar, 0⟩),
  (53, ⟨1, [.nilFunc], .scalar, 0⟩),
  (54, ⟨1, [.nilFunc], .scalar, 0⟩),
  (55, ⟨1, [.nilFunc], .scalar, 0⟩),
  (56, ⟨1, [.slice none 0 0], .sl 143 4 40 [.string ⟨#[]⟩, .int .i64 0, .int .i64 0, .int .i64 0], 0⟩),
  (57, ⟨1, [.nilFunc], .scalar, 0⟩),
  (58, ⟨1, [.slice none 0 0], .sl 67 3 24 [.int .i64 0, .int .i64 0, .int .i64 0], 0⟩),
  (59, ⟨1, [.slice none 0 0], .sl 3 1 8 [.int .i64 0], 0⟩),
  (61, ⟨1, [.nilFunc], .scalar, 0⟩),
  (62, ⟨1, [.nilFunc], .scalar, 0⟩),
  (63, ⟨1, [.nilFunc], .scalar, 0⟩),
  (64, ⟨1, [.nilFunc], .scalar, 0⟩),
  (65, ⟨1, [.nilFunc], .scalar, 0⟩),
  (66, ⟨3, [.int .i64 0, .int .i64 0, .int .i64 0], .st [(0, 1), (1, 1), (2, 1)], 3⟩),
  (67, ⟨3, [.int .i64 0, .int .i64 0, .int .i64 0], .st [(0, 1), (1, 1), (2, 1)], 3⟩),
  (69, ⟨1, [.nilFunc], .scalar, 0⟩),
  (71, ⟨1, [.nilFunc], .scalar, 0⟩),
  (72, ⟨1, [.nilFunc], .scalar, 0⟩),
  (73, ⟨1, [.nilFunc], .scalar, 0⟩),
  (74, ⟨1, [.slice none 0 0], .sl 59 1 24 [.slice none 0 0], 0⟩),
  (75, ⟨2, [.slice none 0 0, .slice none 0 0], .st [(0, 1), (1, 1)], 0⟩),
  (76, ⟨2, [.slice none 0 0, .slice none 0 0], .st [(0, 1), (1, 1)], 0⟩),
  (77, ⟨1, [.nilFunc], .scalar, 0⟩),
  (78, ⟨1, [.nilFunc], .scalar, 0⟩),
  (79, ⟨1, [.nilFunc], .scalar, 0⟩),
  (80, ⟨1, [.nilFunc], .scalar, 0⟩),
  (81, ⟨1, [.nilFunc], .scalar, 0⟩),
  (82, ⟨1, [.nilFunc], .scalar, 0⟩),
  (84, ⟨1, [.nilFunc], .scalar, 0⟩),
  (85, ⟨1, [.nilFunc], .scalar, 0⟩),
  (86, ⟨1, [.slice none 0 0], .sl 96 6 48 [.int .i64 0, .int .i64 0, .int .i64 0, .int .i64 0, .int .i64 0, .int .i64 0], 0⟩),
  (87, ⟨2, [.int .i64 0, .int .i64 0], .st [(0, 1), (1, 1)], 2⟩),
  (88, ⟨2, [.int .i64 0, .int .i64 0], .st [(0, 1), (1, 1)], 2⟩),
  (89, ⟨6, [.int .i64 0, .int .i64 0, .int .i64 0, .int .i64 0, .int .i64 0, .int .i64 0], .arr 3 88 2, 6⟩),
  (91, ⟨1, [.nilFunc], .scalar, 0⟩),
  (92, ⟨1, [.nilFunc], .scalar, 0⟩),
  (93, ⟨1, [.nilFunc], .scalar, 0⟩),
  (94, ⟨1, [.nilFunc], .scalar, 0⟩),
  (95, ⟨6, [.int .i64 0, .int .i64 0, .int .i64 0, .int .i64 0, .int .i64 0, .int .i64 0], .st [(0, 2), (2, 2), (4, 2)], 0⟩),
  (96, ⟨6, [.int .i64 0, .int .i64 0, .int .i64 0, .int .i64 0, .int .i64 0, .int .i64 0], .st [(0, 2), (2, 2), (4, 2)], 0⟩),
  (97, ⟨1, [.nilFunc], .scalar, 0⟩),
  (98, ⟨1, [.nilFunc], .scalar, 0⟩),
  (99, ⟨1, [.nilFunc], .scalar, 0⟩),
  (100, ⟨1, [.nilFunc], .scalar, 0⟩),
  (102, ⟨1, [.nilFunc], .scalar, 0⟩),
  (103, ⟨1, [.nilFunc], .scalar, 0⟩),
  (104, ⟨1, [.nilFunc], .scalar, 0⟩),
  (105, ⟨1, [.nilFunc], .scalar, 0⟩),
  (106, ⟨1, [.nilFunc], .scalar, 0⟩),
  (107, ⟨1, [.nilFunc], .scalar, 0⟩),
  (108, ⟨1, [.slice none 0 0], .sl 173 2 32 [.int .i64 0, .slice none 0 0], 0⟩),
  (110, ⟨1, [.nilFunc], .scalar, 0⟩),
  (112, ⟨1, [.nilFunc], .scalar, 0⟩),
  (113, ⟨1, [.nilFunc], .scalar, 0⟩),
  (114, ⟨1, [.nilFunc], .scalar, 0⟩),
  (115, ⟨1, [.nilFunc], .scalar, 0⟩),
  (116, ⟨1, [.nilFunc], .scalar, 0⟩),
  (117, ⟨1, [.nilFunc], .scalar, 0⟩),
  (118, ⟨1, [.nilFunc], .scalar, 0⟩),
  (119, ⟨1, [.nilFunc], .scalar, 0⟩),
  (120, ⟨1, [.nilFunc], .scalar, 0⟩),
  (122, ⟨1, [.nilFunc], .scalar, 0⟩),
  (123, ⟨1, [.nilFunc], .scalar, 0⟩),
  (125, ⟨1, [.nilFunc], .scalar, 0⟩),
  (126, ⟨1, [.nilFunc], .scalar, 0⟩),
  (127, ⟨1, [.nilFunc], .scalar, 0⟩),
  (128, ⟨2, [.int .i64 0, .slice none 0 0], .st [(0, 1), (1, 1)], 0⟩),
  (129, ⟨2, [.int .i64 0, .slice none 0 0], .st [(0, 1), (1, 1)], 0⟩),
  (130, ⟨1, [.nilFunc], .scalar, 0⟩),
  (131, ⟨1, [.nilFunc], .scalar, 0⟩),
  (132, ⟨1, [.nilFunc], .scalar, 0⟩),
  (133, ⟨1, [.nilFunc], .scalar, 0⟩),
  (134, ⟨1, [.nilFunc], .scalar, 0⟩),
  (135, ⟨3, [.int .i64 0, .int .i64 0, .int .i64 0], .arr 3 3 1, 3⟩),
  (136, ⟨1, [.nilFunc], .scalar, 0⟩),
  (137, ⟨1, [.nilFunc], .scalar, 0⟩),
  (138, ⟨1, [.nilFunc], .scalar, 0⟩),
  (139, ⟨1, [.nilFunc], .scalar, 0⟩),
  (140, ⟨1, [.nilFunc], .scalar, 0⟩),
  (141, ⟨1, [.nilFunc], .scalar, 0⟩),
  (142, ⟨4, [.string ⟨#[]⟩, .int .i64 0, .int .i64 0, .int .i64 0], .st [(0, 1), (1, 1), (2, 1), (3, 1)], 0⟩),
  (143, ⟨4, [.string ⟨#[]⟩, .int .i64 0, .int .i64 0, .int .i64 0], .st [(0, 1), (1, 1), (2, 1), (3, 1)], 0⟩),
  (144, ⟨1, [.nilFunc], .scalar, 0⟩),
  (145, ⟨1, [.nilFunc], .scalar, 0⟩),
  (146, ⟨1, [.nilFunc], .scalar, 0⟩),
  (147, ⟨1, [.nilFunc], .scalar, 0⟩),
  (148, ⟨1, [.map none], .mp none (.bool false), 0⟩),
  (149, ⟨1, [.nilFunc], .scalar, 0⟩),
  (150, ⟨3, [.slice none 0 0, .slice none 0 0, .bool false], .st [(0, 1), (1, 1), (2, 1)], 0⟩),
  (151, ⟨3, [.slice none 0 0, .slice none 0 0, .bool false], .st [(0, 1), (1, 1), (2, 1)], 0⟩),
  (152, ⟨2, [.slice none 0 0, .slice none 0 0], .st [(0, 2)], 0⟩),
  (153, ⟨2, [.slice none 0 0, .slice none 0 0], .st [(0, 2)], 0⟩),
  (154, ⟨1, [.nilFunc], .scalar, 0⟩),
  (155, ⟨1, [.nilFunc], .scalar, 0⟩),
  (156, ⟨1, [.nilFunc], .scalar, 0⟩),
  (157, ⟨1, [.nilFunc], .scalar, 0⟩),
  (158, ⟨1, [.nilFunc], .scalar, 0⟩),
  (159, ⟨1, [.nilFunc], .scalar, 0⟩),
  (160, ⟨1, [.slice none 0 0], .sl 88 2 16 [.int .i64 0, .int .i64 0], 0⟩),
  (161, ⟨1, [.nilFunc], .scalar, 0⟩),
  (162, ⟨1, [.nilFunc], .scalar, 0⟩),
  (163, ⟨1, [.pointer none], .scalar, 0⟩),
  (164, ⟨4, [.slice none 0 0, .slice none 0 0, .int .i64 0, .slice none 0 0], .st [(0, 2), (2, 1), (3, 1)], 0⟩),
  (165, ⟨4, [.slice none 0 0, .slice none 0 0, .int .i64 0, .slice none 0 0], .st [(0, 2), (2, 1), (3, 1)], 0⟩),
  (166, ⟨1, [.nilFunc], .scalar, 0⟩),
  (167, ⟨1, [.nilFunc], .scalar, 0⟩),
  (168, ⟨1, [.nilFunc], .scalar, 0⟩),
  (169, ⟨1, [.nilFunc], .scalar, 0⟩),
  (170, ⟨4, [.slice none 0 0, .slice none 0 0, .int .i64 0, .slice none 0 0], .st [(0, 2), (2, 1), (3, 1)], 0⟩),
  (171, ⟨1, [.nilFunc], .scalar, 0⟩),
  (172, ⟨2, [.int .i64 0, .slice none 0 0], .st [(0, 1), (1, 1)], 0⟩),
  (173, ⟨2, [.int .i64 0, .slice none 0 0], .st [(0, 1), (1, 1)], 0⟩),
  (174, ⟨1, [.nilFunc], .scalar, 0⟩),
  (175, ⟨1, [.slice none 0 0], .sl 5 1 1 [.int .u8 0], 0⟩),
  (176, ⟨1, [.nilFunc], .scalar, 0⟩),
  (177, ⟨1, [.nilFunc], .scalar, 0⟩),
  (178, ⟨1, [.nilFunc], .scalar, 0⟩),
  (179, ⟨1, [.nilFunc], .scalar, 0⟩),
  (180, ⟨1, [.nilFunc], .scalar, 0⟩),
  (181, ⟨1, [.nilFunc], .scalar, 0⟩),
  (182, ⟨1, [.int .u64 0], .int .u64, 0⟩),
  (184, ⟨1, [.nilFunc], .scalar, 0⟩),
  (185, ⟨1, [.nilFunc], .scalar, 0⟩),
  (186, ⟨1, [.nilFunc], .scalar, 0⟩),
  (187, ⟨1, [.int .u64 0], .int .u64, 0⟩),
  (188, ⟨1, [.nilFunc], .scalar, 0⟩),
  (189, ⟨4, [.pointer none, .pointer none, .pointer none, .string ⟨#[]⟩], .st [(0, 1), (1, 1), (2, 1), (3, 1)], 0⟩),
  (190, ⟨4, [.pointer none, .pointer none, .pointer none, .string ⟨#[]⟩], .st [(0, 1), (1, 1), (2, 1), (3, 1)], 0⟩),
  (191, ⟨0, [], .arr 0 16 1, 0⟩),
  (194, ⟨1, [.int .u32 0], .int .u32, 0⟩),
  (195, ⟨1, [.int .u8 0], .int .u8, 0⟩),
  (196, ⟨1, [.int .u8 0], .int .u8, 0⟩),
  (197, ⟨1, [.nilFunc], .scalar, 0⟩),
  (198, ⟨1, [.pointer none], .scalar, 0⟩),
  (199, ⟨1, [.int .i32 0], .int .i32, 0⟩),
  (200, ⟨1, [.int .i32 0], .int .i32, 0⟩),
  (201, ⟨11, [.int .u64 0, .int .u64 0, .int .u32 0, .int .u8 0, .int .u8 0, .int .u8 0, .int .u8 0, .nilFunc, .pointer none, .int .i32 0, .int .i32 0], .st [(0, 1), (1, 1), (2, 1), (3, 1), (4, 1), (5, 1), (6, 1), (7, 1), (8, 1), (9, 1), (10, 1)], 0⟩),
  (202, ⟨11, [.int .u64 0, .int .u64 0, .int .u32 0, .int .u8 0, .int .u8 0, .int .u8 0, .int .u8 0, .nilFunc, .pointer none, .int .i32 0, .int .i32 0], .st [(0, 1), (1, 1), (2, 1), (3, 1), (4, 1), (5, 1), (6, 1), (7, 1), (8, 1), (9, 1), (10, 1)], 0⟩)]
theorem tok1 : TIok Try.prog 1 ⟨1, [.nilFunc], .scalar, 0⟩ := TIok.scalar (z := .nilFunc) (by kernel_rfl) rfl Try.underlying1 (by simp) (by simp)
theorem tok2 : TIok Try.prog 2 ⟨1, [.int .i64 0], .int .i64, 0⟩ := TIok.int (by kernel_rfl) Try.underlying2
theorem tok3 : TIok Try.prog 3 ⟨1, [.int .i64 0], .int .i64, 0⟩ := TIok.int (by kernel_rfl) Try.underlying3
theorem tok4 : TIok Try.prog 4 ⟨1, [.bool false], .scalar, 0⟩ := TIok.scalar (z := .bool false) (by kernel_rfl) rfl Try.underlying4 (by simp) (by simp)
theorem tok5 : TIok Try.prog 5 ⟨1, [.int .u8 0], .int .u8, 0⟩ := TIok.int (by kernel_rfl) Try.underlying5
theorem tok6 : TIok Try.prog 6 ⟨1, [.int .u8 0], .int .u8, 0⟩ := TIok.int (by kernel_rfl) Try.underlying6
theorem tok7 : TIok Try.prog 7 ⟨4, [.int .i64 0, .int .i64 0, .bool false, .int .u8 0], .st [(0, 1), (1, 1), (2, 1), (3, 1)], 0⟩ := TIok.st (z := .agg #[.int .i64 0, .int .i64 0, .bool false, .int .u8 0]) (by kernel_rfl) rfl Try.underlying7 ⟨rfl, (by kernel_rfl), (by decide), rfl, (by kernel_rfl), (by decide), rfl, (by kernel_rfl), (by decide), rfl, (by kernel_rfl), (by decide), trivial⟩ (fun h => absurd rfl h)
theorem tok8 : TIok Try.prog 8 ⟨4, [.int .i64 0, .int .i64 0, .bool false, .int .u8 0], .st [(0, 1), (1, 1), (2, 1), (3, 1)], 0⟩ := TIok.st (z := .agg #[.int .i64 0, .int .i64 0, .bool false, .int .u8 0]) (by kernel_rfl) rfl Try.underlying8 ⟨rfl, (by kernel_rfl), (by decide), rfl, (by kernel_rfl), (by decide), rfl, (by kernel_rfl), (by decide), rfl, (by kernel_rfl), (by decide), trivial⟩ (fun h => absurd rfl h)
theorem tok9 : TIok Try.prog 9 ⟨1, [.string ⟨#[]⟩], .str, 0⟩ := TIok.str (by kernel_rfl) Try.underlying9
theorem tok10 : TIok Try.prog 10 ⟨1, [.string ⟨#[]⟩], .str, 0⟩ := TIok.str (by kernel_rfl) Try.underlying10
theorem tok11 : TIok Try.prog 11 ⟨1, [.string ⟨#[]⟩], .str, 0⟩ := TIok.str (by kernel_rfl) Try.underlying11
theorem tok12 : TIok Try.prog 12 ⟨1, [.int .u64 0], .int .u64, 0⟩ := TIok.int (by kernel_rfl) Try.underlying12
theorem tok13 : TIok Try.prog 13 ⟨2, [.string ⟨#[]⟩, .int .u64 0], .st [(0, 1), (1, 1)], 0⟩ := TIok.st (z := .agg #[.string ⟨#[]⟩, .int .u64 0]) (by kernel_rfl) rfl Try.underlying13 ⟨rfl, (by kernel_rfl), (by decide), rfl, (by kernel_rfl), (by decide), trivial⟩ (fun h => absurd rfl h)
theorem tok14 : TIok Try.prog 14 ⟨2, [.string ⟨#[]⟩, .int .u64 0], .st [(0, 1), (1, 1)], 0⟩ := TIok.st (z := .agg #[.string ⟨#[]⟩, .int .u64 0]) (by kernel_rfl) rfl Try.underlying14 ⟨rfl, (by kernel_rfl), (by decide), rfl, (by kernel_rfl), (by decide), trivial⟩ (fun h => absurd rfl h)
theorem tok15 : TIok Try.prog 15 ⟨1, [.pointer none], .scalar, 0⟩ := TIok.scalar (z := .pointer none) (by kernel_rfl) rfl Try.underlying15 (by simp) (by simp)
theorem tok16 : TIok Try.prog 16 ⟨1, [.pointer none], .scalar, 0⟩ := TIok.scalar (z := .pointer none) (by kernel_rfl) rfl Try.underlying16 (by simp) (by simp)
theorem tok17 : TIok Try.prog 17 ⟨1, [.pointer none], .scalar, 0⟩ := TIok.scalar (z := .pointer none) (by kernel_rfl) rfl Try.underlying17 (by simp) (by simp)
theorem tok18 : TIok Try.prog 18 ⟨1, [.pointer none], .st [(0, 1)], 0⟩ := TIok.st (z := .agg #[.pointer none]) (by kernel_rfl) rfl Try.underlying18 ⟨rfl, (by kernel_rfl), (by decide), trivial⟩ (fun h => absurd rfl h)
theorem tok19 : TIok Try.prog 19 ⟨1, [.pointer none], .st [(0, 1)], 0⟩ := TIok.st (z := .agg #[.pointer none]) (by kernel_rfl) rfl Try.underlying19 ⟨rfl, (by kernel_rfl), (by decide), trivial⟩ (fun h => absurd rfl h)
theorem tok20 : TIok Try.prog 20 ⟨1, [.nilIface], .scalar, 0⟩ := TIok.scalar (z := .nilIface) (by kernel_rfl) rfl Try.underlying20 (by simp) (by simp)
theorem tok21 : TIok Try.prog 21 ⟨1, [.int .i32 0], .int .i32, 0⟩ := TIok.int (by kernel_rfl) Try.underlying21
theorem tok22 : TIok Try.prog 22 ⟨1, [.slice none 0 0], .sl 9 1 16 [.string ⟨#[]⟩], 0⟩ := TIok.sl (z := .string ⟨#[]⟩) (by kernel_rfl) Try.underlying22 (by kernel_rfl) rfl (by decide) (by decide) rfl rfl
theorem tok23 : TIok Try.prog 23 ⟨7, [.string ⟨#[]⟩, .int .i64 0, .int .i64 0, .int .i64 0, .slice none 0 0, .int .i64 0, .int .i64 0], .st [(0, 1), (1, 1), (2, 1), (3, 1), (4, 1), (5, 1), (6, 1)], 0⟩ := TIok.st (z := .agg #[.string ⟨#[]⟩, .int .i64 0, .int .i64 0, .int .i64 0, .slice none 0 0, .int .i64 0, .int .i64 0]) (by kernel_rfl) rfl Try.underlying23 ⟨rfl, (by kernel_rfl), (by decide), rfl, (by kernel_rfl), (by decide), rfl, (by kernel_rfl), (by decide), rfl, (by kernel_rfl), (by decide), rfl, (by kernel_rfl), (by decide), rfl, (by kernel_rfl), (by decide), rfl, (by kernel_rfl), (by decide), trivial⟩ (fun h => absurd rfl h)
theorem tok24 : TIok Try.prog 24 ⟨7, [.string ⟨#[]⟩, .int .i64 0, .int .i64 0, .int .i64 0, .slice none 0 0, .int .i64 0, .int .i64 0], .st [(0, 1), (1, 1), (2, 1), (3, 1), (4, 1), (5, 1), (6, 1)], 0⟩ := TIok.st (z := .agg #[.string ⟨#[]⟩, .int .i64 0, .int .i64 0, .int .i64 0, .slice none 0 0, .int .i64 0, .int .i64 0]) (by kernel_rfl) rfl Try.underlying24 ⟨rfl, (by kernel_rfl), (by decide), rfl, (by kernel_rfl), (by decide), rfl, (by kernel_rfl), (by decide), rfl, (by kernel_rfl), (by decide), rfl, (by kernel_rfl), (by decide), rfl, (by kernel_rfl), (by decide), rfl, (by kernel_rfl), (by decide), trivial⟩ (fun h => absurd rfl h)
theorem tok25 : TIok Try.prog 25 ⟨3, [.int .i64 0, .int .i64 0, .int .i64 0], .st [(0, 1), (1, 1), (2, 1)], 3⟩ := TIok.st (z := .agg #[.int .i64 0, .int .i64 0, .int .i64 0]) (by kernel_rfl) rfl Try.underlying25 ⟨rfl, (by kernel_rfl), (by decide), rfl, (by kernel_rfl), (by decide), rfl, (by kernel_rfl), (by decide), trivial⟩ (fun _ => EqOk.of Try.underlying25 Try.eqGuardType25 Try.stoodInHeld25 (by simp [Try.underlying3]) rfl)
theorem tok26 : TIok Try.prog 26 ⟨3, [.int .i64 0, .int .i64 0, .int .i64 0], .st [(0, 1), (1, 1), (2, 1)], 3⟩ := TIok.st (z := .agg #[.int .i64 0, .int .i64 0, .int .i64 0]) (by kernel_rfl) rfl Try.underlying26 ⟨rfl, (by kernel_rfl), (by decide), rfl, (by kernel_rfl), (by decide), rfl, (by kernel_rfl), (by decide), trivial⟩ (fun _ => EqOk.of Try.underlying26 Try.eqGuardType26 Try.stoodInHeld26 (by simp [Try.underlying3]) rfl)
theorem tok27 : TIok Try.prog 27 ⟨1, [.nilFunc], .scalar, 0⟩ := TIok.scalar (z := .nilFunc) (by kernel_rfl) rfl Try.underlying27 (by simp) (by simp)
theorem tok28 : TIok Try.prog 28 ⟨1, [.nilFunc], .scalar, 0⟩ := TIok.scalar (z := .nilFunc) (by kernel_rfl) rfl Try.underlying28 (by simp) (by simp)
theorem tok29 : TIok Try.prog 29 ⟨1, [.int .i64 0], .int .i64, 0⟩ := TIok.int (by kernel_rfl) Try.underlying29
theorem tok31 : TIok Try.prog 31 ⟨1, [.nilFunc], .scalar, 0⟩ := TIok.scalar (z := .nilFunc) (by kernel_rfl) rfl Try.underlying31 (by simp) (by simp)
theorem tok32 : TIok Try.prog 32 ⟨1, [.nilFunc], .scalar, 0⟩ := TIok.scalar (z := .nilFunc) (by kernel_rfl) rfl Try.underlying32 (by simp) (by simp)
theorem tok33 : TIok Try.prog 33 ⟨1, [.nilFunc], .scalar, 0⟩ := TIok.scalar (z := .nilFunc) (by kernel_rfl) rfl Try.underlying33 (by simp) (by simp)
theorem tok34 : TIok Try.prog 34 ⟨1, [.nilFunc], .scalar, 0⟩ := TIok.scalar (z := .nilFunc) (by kernel_rfl) rfl Try.underlying34 (by simp) (by simp)
theorem tok35 : TIok Try.prog 35 ⟨1, [.nilFunc], .scalar, 0⟩ := TIok.scalar (z := .nilFunc) (by kernel_rfl) rfl Try.underlying35 (by simp) (by simp)
theorem tok36 : TIok Try.prog 36 ⟨1, [.nilFunc], .scalar, 0⟩ := TIok.scalar (z := .nilFunc) (by kernel_rfl) rfl Try.underlying36 (by simp) (by simp)
theorem tok37 : TIok Try.prog 37 ⟨1, [.nilFunc], .scalar, 0⟩ := TIok.scalar (z := .nilFunc) (by kernel_rfl) rfl Try.underlying37 (by simp) (by simp)
theorem tok38 : TIok Try.prog 38 ⟨1, [.nilFunc], .scalar, 0⟩ := TIok.scalar (z := .nilFunc) (by kernel_rfl) rfl Try.underlying38 (by simp) (by simp)
theorem tok39 : TIok Try.prog 39 ⟨2, [.int .i64 0, .int .i64 0], .st [(0, 1), (1, 1)], 2⟩ := TIok.st (z := .agg #[.int .i64 0, .int .i64 0]) (by kernel_rfl) rfl Try.underlying39 ⟨rfl, (by kernel_rfl), (by decide), rfl, (by kernel_rfl), (by decide), trivial⟩ (fun _ => EqOk.of Try.underlying39 Try.eqGuardType39 Try.stoodInHeld39 (by simp [Try.underlying3]) rfl)
theorem tok40 : TIok Try.prog 40 ⟨2, [.int .i64 0, .int .i64 0], .st [(0, 1), (1, 1)], 2⟩ := TIok.st (z := .agg #[.int .i64 0, .int .i64 0]) (by kernel_rfl) rfl Try.underlying40 ⟨rfl, (by kernel_rfl), (by decide), rfl, (by kernel_rfl), (by decide), trivial⟩ (fun _ => EqOk.of Try.underlying40 Try.eqGuardType40 Try.stoodInHeld40 (by simp [Try.underlying3]) rfl)
theorem tok41 : TIok Try.prog 41 ⟨4, [.int .i64 0, .int .i64 0, .int .i64 0, .int .i64 0], .st [(0, 1), (1, 1), (2, 2)], 0⟩ := TIok.st (z := .agg #[.int .i64 0, .int .i64 0, .int .i64 0, .int .i64 0]) (by kernel_rfl) rfl Try.underlying41 ⟨rfl, (by kernel_rfl), (by decide), rfl, (by kernel_rfl), (by decide), rfl, (by kernel_rfl), (by decide), trivial⟩ (fun h => absurd rfl h)
theorem tok42 : TIok Try.prog 42 ⟨4, [.int .i64 0, .int .i64 0, .int .i64 0, .int .i64 0], .st [(0, 1), (1, 1), (2, 2)], 0⟩ := TIok.st (z := .agg #[.int .i64 0, .int .i64 0, .int .i64 0, .int .i64 0]) (by kernel_rfl) rfl Try.underlying42 ⟨rfl, (by kernel_rfl), (by decide), rfl, (by kernel_rfl), (by decide), rfl, (by kernel_rfl), (by decide), trivial⟩ (fun h => absurd rfl h)
theorem tok43 : TIok Try.prog 43 ⟨2, [.int .i64 0, .int .i64 0], .arr 2 3 1, 2⟩ := TIok.arrE (z := .agg #[.int .i64 0, .int .i64 0]) (by kernel_rfl) rfl Try.underlying43 (by kernel_rfl) rfl Try.eqGuardType43 (PartEq.int Try.underlying3)
theorem tok45 : TIok Try.prog 45 ⟨1, [.nilFunc], .scalar, 0⟩ := TIok.scalar (z := .nilFunc) (by kernel_rfl) rfl Try.underlying45 (by simp) (by simp)
theorem tok47 : TIok Try.prog 47 ⟨1, [.nilFunc], .scalar, 0⟩ := TIok.scalar (z := .nilFunc) (by kernel_rfl) rfl Try.underlying47 (by simp) (by simp)
theorem tok48 : TIok Try.prog 48 ⟨1, [.nilFunc], .scalar, 0⟩ := TIok.scalar (z := .nilFunc) (by kernel_rfl) rfl Try.underlying48 (by simp) (by simp)
theorem tok49 : TIok Try.prog 49 ⟨1, [.nilFunc], .scalar, 0⟩ := TIok.scalar (z := .nilFunc) (by kernel_rfl) rfl Try.underlying49 (by simp) (by simp)
theorem tok50 : TIok Try.prog 50 ⟨1, [.nilFunc], .scalar, 0⟩ := TIok.scalar (z := .nilFunc) (by kernel_rfl) rfl Try.underlying50 (by simp) (by simp)
theorem tok51 : TIok Try.prog 51 ⟨1, [.nilFunc], .scalar, 0⟩ := TIok.scalar (z := .nilFunc) (by kernel_rfl) rfl Try.underlying51 (by simp) (by simp)
theorem tok52 : TIok Try.prog 52 ⟨1, [.nilFunc], .scalar, 0⟩ := TIok.scalar (z := .nilFunc) (by kernel_rfl) rfl Try.underlying52 (by simp) (by simp)
theorem tok53 : TIok Try.prog 53 ⟨1, [.nilFunc], .scalar, 0⟩ := TIok.scalar (z := .nilFunc) (by kernel_rfl) rfl Try.underlying53 (by simp) (by simp)
theorem tok54 : TIok Try.prog 54 ⟨1, [.nilFunc], .scalar, 0⟩ := TIok.scalar (z := .nilFunc) (by kernel_rfl) rfl Try.underlying54 (by simp) (by simp)
theorem tok55 : TIok Try.prog 55 ⟨1, [.nilFunc], .scalar, 0⟩ := TIok.scalar (z := .nilFunc) (by kernel_rfl) rfl Try.underlying55 (by simp) (by simp)
theorem tok56 : TIok Try.prog 56 ⟨1, [.slice none 0 0], .sl 143 4 40 [.string ⟨#[]⟩, .int .i64 0, .int .i64 0, .int .i64 0], 0⟩ := TIok.sl (z := .agg #[.string ⟨#[]⟩, .int .i64 0, .int .i64 0, .int .i64 0]) (by kernel_rfl) Try.underlying56 (by kernel_rfl) rfl (by decide) (by decide) rfl rfl
theorem tok57 : TIok Try.prog 57 ⟨1, [.nilFunc], .scalar, 0⟩ := TIok.scalar (z := .nilFunc) (by kernel_rfl) rfl Try.underlying57 (by simp) (by simp)
theorem tok58 : TIok Try.prog 58 ⟨1, [.slice none 0 0], .sl 67 3 24 [.int .i64 0, .int .i64 0, .int .i64 0], 0⟩ := TIok.sl (z := .agg #[.int .i64 0, .int .i64 0, .int .i64 0]) (by kernel_rfl) Try.underlying58 (by kernel_rfl) rfl (by decide) (by decide) rfl rfl
theorem tok59 : TIok Try.prog 59 ⟨1, [.slice none 0 0], .sl 3 1 8 [.int .i64 0], 0⟩ := TIok.sl (z := .int .i64 0) (by kernel_rfl) Try.underlying59 (by kernel_rfl) rfl (by decide) (by decide) rfl rfl
theorem tok61 : TIok Try.prog 61 ⟨1, [.nilFunc], .scalar, 0⟩ := TIok.scalar (z := .nilFunc) (by kernel_rfl) rfl Try.underlying61 (by simp) (by simp)
theorem tok62 : TIok Try.prog 62 ⟨1, [.nilFunc], .scalar, 0⟩ := TIok.scalar (z := .nilFunc) (by kernel_rfl) rfl Try.underlying62 (by simp) (by simp)
theorem tok63 : TIok Try.prog 63 ⟨1, [.nilFunc], .scalar, 0⟩ := TIok.scalar (z := .nilFunc) (by kernel_rfl) rfl Try.underlying63 (by simp) (by simp)
theorem tok64 : TIok Try.prog 64 ⟨1, [.nilFunc], .scalar, 0⟩ := TIok.scalar (z := .nilFunc) (by kernel_rfl) rfl Try.underlying64 (by simp) (by simp)
theorem tok65 : TIok Try.prog 65 ⟨1, [.nilFunc], .scalar, 0⟩ := TIok.scalar (z := .nilFunc) (by kernel_rfl) rfl Try.underlying65 (by simp) (by simp)
theorem tok66 : TIok Try.prog 66 ⟨3, [.int .i64 0, .int .i64 0, .int .i64 0], .st [(0, 1), (1, 1), (2, 1)], 3⟩ := TIok.st (z := .agg #[.int .i64 0, .int .i64 0, .int .i64 0]) (by kernel_rfl) rfl Try.underlying66 ⟨rfl, (by kernel_rfl), (by decide), rfl, (by kernel_rfl), (by decide), rfl, (by kernel_rfl), (by decide), trivial⟩ (fun _ => EqOk.of Try.underlying66 Try.eqGuardType66 Try.stoodInHeld66 (by simp [Try.underlying3]) rfl)
theorem tok67 : TIok Try.prog 67 ⟨3, [.int .i64 0, .int .i64 0, .int .i64 0], .st [(0, 1), (1, 1), (2, 1)], 3⟩ := TIok.st (z := .agg #[.int .i64 0, .int .i64 0, .int .i64 0]) (by kernel_rfl) rfl Try.underlying67 ⟨rfl, (by kernel_rfl), (by decide), rfl, (by kernel_rfl), (by decide), rfl, (by kernel_rfl), (by decide), trivial⟩ (fun _ => EqOk.of Try.underlying67 Try.eqGuardType67 Try.stoodInHeld67 (by simp [Try.underlying3]) rfl)
theorem tok69 : TIok Try.prog 69 ⟨1, [.nilFunc], .scalar, 0⟩ := TIok.scalar (z := .nilFunc) (by kernel_rfl) rfl Try.underlying69 (by simp) (by simp)
theorem tok71 : TIok Try.prog 71 ⟨1, [.nilFunc], .scalar, 0⟩ := TIok.scalar (z := .nilFunc) (by kernel_rfl) rfl Try.underlying71 (by simp) (by simp)
theorem tok72 : TIok Try.prog 72 ⟨1, [.nilFunc], .scalar, 0⟩ := TIok.scalar (z := .nilFunc) (by kernel_rfl) rfl Try.underlying72 (by simp) (by simp)
theorem tok73 : TIok Try.prog 73 ⟨1, [.nilFunc], .scalar, 0⟩ := TIok.scalar (z := .nilFunc) (by kernel_rfl) rfl Try.underlying73 (by simp) (by simp)
theorem tok74 : TIok Try.prog 74 ⟨1, [.slice none 0 0], .sl 59 1 24 [.slice none 0 0], 0⟩ := TIok.sl (z := .slice none 0 0) (by kernel_rfl) Try.underlying74 (by kernel_rfl) rfl (by decide) (by decide) rfl rfl
theorem tok75 : TIok Try.prog 75 ⟨2, [.slice none 0 0, .slice none 0 0], .st [(0, 1), (1, 1)], 0⟩ := TIok.st (z := .agg #[.slice none 0 0, .slice none 0 0]) (by kernel_rfl) rfl Try.underlying75 ⟨rfl, (by kernel_rfl), (by decide), rfl, (by kernel_rfl), (by decide), trivial⟩ (fun h => absurd rfl h)
theorem tok76 : TIok Try.prog 76 ⟨2, [.slice none 0 0, .slice none 0 0], .st [(0, 1), (1, 1)], 0⟩ := TIok.st (z := .agg #[.slice none 0 0, .slice none 0 0]) (by kernel_rfl) rfl Try.underlying76 ⟨rfl, (by kernel_rfl), (by decide), rfl, (by kernel_rfl), (by decide), trivial⟩ (fun h => absurd rfl h)
theorem tok77 : TIok Try.prog 77 ⟨1, [.nilFunc], .scalar, 0⟩ := TIok.scalar (z := .nilFunc) (by kernel_rfl) rfl Try.underlying77 (by simp) (by simp)
theorem tok78 : TIok Try.prog 78 ⟨1, [.nilFunc], .scalar, 0⟩ := TIok.scalar (z := .nilFunc) (by kernel_rfl) rfl Try.underlying78 (by simp) (by simp)
theorem tok79 : TIok Try.prog 79 ⟨1, [.nilFunc], .scalar, 0⟩ := TIok.scalar (z := .nilFunc) (by kernel_rfl) rfl Try.underlying79 (by simp) (by simp)
theorem tok80 : TIok Try.prog 80 ⟨1, [.nilFunc], .scalar, 0⟩ := TIok.scalar (z := .nilFunc) (by kernel_rfl) rfl Try.underlying80 (by simp) (by simp)
theorem tok81 : TIok Try.prog 81 ⟨1, [.nilFunc], .scalar, 0⟩ := TIok.scalar (z := .nilFunc) (by kernel_rfl) rfl Try.underlying81 (by simp) (by simp)
theorem tok82 : TIok Try.prog 82 ⟨1, [.nilFunc], .scalar, 0⟩ := TIok.scalar (z := .nilFunc) (by kernel_rfl) rfl Try.underlying82 (by simp) (by simp)
theorem tok84 : TIok Try.prog 84 ⟨1, [.nilFunc], .scalar, 0⟩ := TIok.scalar (z := .nilFunc) (by kernel_rfl) rfl Try.underlying84 (by simp) (by simp)
theorem tok85 : TIok Try.prog 85 ⟨1, [.nilFunc], .scalar, 0⟩ := TIok.scalar (z := .nilFunc) (by kernel_rfl) rfl Try.underlying85 (by simp) (by simp)
theorem tok86 : TIok Try.prog 86 ⟨1, [.slice none 0 0], .sl 96 6 48 [.int .i64 0, .int .i64 0, .int .i64 0, .int .i64 0, .int .i64 0, .int .i64 0], 0⟩ := TIok.sl (z := .agg #[.int .i64 0, .int .i64 0, .int .i64 0, .int .i64 0, .int .i64 0, .int .i64 0]) (by kernel_rfl) Try.underlying86 (by kernel_rfl) rfl (by decide) (by decide) rfl rfl
theorem tok87 : TIok Try.prog 87 ⟨2, [.int .i64 0, .int .i64 0], .st [(0, 1), (1, 1)], 2⟩ := TIok.st (z := .agg #[.int .i64 0, .int .i64 0]) (by kernel_rfl) rfl Try.underlying87 ⟨rfl, (by kernel_rfl), (by decide), rfl, (by kernel_rfl), (by decide), trivial⟩ (fun _ => EqOk.of Try.underlying87 Try.eqGuardType87 Try.stoodInHeld87 (by simp [Try.underlying3]) rfl)
theorem tok88 : TIok Try.prog 88 ⟨2, [.int .i64 0, .int .i64 0], .st [(0, 1), (1, 1)], 2⟩ := TIok.st (z := .agg #[.int .i64 0, .int .i64 0]) (by kernel_rfl) rfl Try.underlying88 ⟨rfl, (by kernel_rfl), (by decide), rfl, (by kernel_rfl), (by decide), trivial⟩ (fun _ => EqOk.of Try.underlying88 Try.eqGuardType88 Try.stoodInHeld88 (by simp [Try.underlying3]) rfl)
theorem tok89 : TIok Try.prog 89 ⟨6, [.int .i64 0, .int .i64 0, .int .i64 0, .int .i64 0, .int .i64 0, .int .i64 0], .arr 3 88 2, 6⟩ := TIok.arrE (z := .agg #[.int .i64 0, .int .i64 0, .int .i64 0, .int .i64 0, .int .i64 0, .int .i64 0]) (by kernel_rfl) rfl Try.underlying89 (by kernel_rfl) rfl Try.eqGuardType89 (PartEq.st' Try.underlying88 (by kernel_rfl) Try.stoodInHeld88 (by simp [Try.underlying3]) rfl)
theorem tok91 : TIok Try.prog 91 ⟨1, [.nilFunc], .scalar, 0⟩ := TIok.scalar (z := .nilFunc) (by kernel_rfl) rfl Try.underlying91 (by simp) (by simp)
theorem tok92 : TIok Try.prog 92 ⟨1, [.nilFunc], .scalar, 0⟩ := TIok.scalar (z := .nilFunc) (by kernel_rfl) rfl Try.underlying92 (by simp) (by simp)
theorem tok93 : TIok Try.prog 93 ⟨1, [.nilFunc], .scalar, 0⟩ := TIok.scalar (z := .nilFunc) (by kernel_rfl) rfl Try.underlying93 (by simp) (by simp)
theorem tok94 : TIok Try.prog 94 ⟨1, [.nilFunc], .scalar, 0⟩ := TIok.scalar (z := .nilFunc) (by kernel_rfl) rfl Try.underlying94 (by simp) (by simp)
theorem tok95 : TIok Try.prog 95 ⟨6, [.int .i64 0, .int .i64 0, .int .i64 0, .int .i64 0, .int .i64 0, .int .i64 0], .st [(0, 2), (2, 2), (4, 2)], 0⟩ := TIok.st (z := .agg #[.int .i64 0, .int .i64 0, .int .i64 0, .int .i64 0, .int .i64 0, .int .i64 0]) (by kernel_rfl) rfl Try.underlying95 ⟨rfl, (by kernel_rfl), (by decide), rfl, (by kernel_rfl), (by decide), rfl, (by kernel_rfl), (by decide), trivial⟩ (fun h => absurd rfl h)
theorem tok96 : TIok Try.prog 96 ⟨6, [.int .i64 0, .int .i64 0, .int .i64 0, .int .i64 0, .int .i64 0, .int .i64 0], .st [(0, 2), (2, 2), (4, 2)], 0⟩ := TIok.st (z := .agg #[.int .i64 0, .int .i64 0, .int .i64 0, .int .i64 0, .int .i64 0, .int .i64 0]) (by kernel_rfl) rfl Try.underlying96 ⟨rfl, (by kernel_rfl), (by decide), rfl, (by kernel_rfl), (by decide), rfl, (by kernel_rfl), (by decide), trivial⟩ (fun h => absurd rfl h)
theorem tok97 : TIok Try.prog 97 ⟨1, [.nilFunc], .scalar, 0⟩ := TIok.scalar (z := .nilFunc) (by kernel_rfl) rfl Try.underlying97 (by simp) (by simp)
theorem tok98 : TIok Try.prog 98 ⟨1, [.nilFunc], .scalar, 0⟩ := TIok.scalar (z := .nilFunc) (by kernel_rfl) rfl Try.underlying98 (by simp) (by simp)
theorem tok99 : TIok Try.prog 99 ⟨1, [.nilFunc], .scalar, 0⟩ := TIok.scalar (z := .nilFunc) (by kernel_rfl) rfl Try.underlying99 (by simp) (by simp)
theorem tok100 : TIok Try.prog 100 ⟨1, [.nilFunc], .scalar, 0⟩ := TIok.scalar (z := .nilFunc) (by kernel_rfl) rfl Try.underlying100 (by simp) (by simp)
theorem tok102 : TIok Try.prog 102 ⟨1, [.nilFunc], .scalar, 0⟩ := TIok.scalar (z := .nilFunc) (by kernel_rfl) rfl Try.underlying102 (by simp) (by simp)
theorem tok103 : TIok Try.prog 103 ⟨1, [.nilFunc], .scalar, 0⟩ := TIok.scalar (z := .nilFunc) (by kernel_rfl) rfl Try.underlying103 (by simp) (by simp)
theorem tok104 : TIok Try.prog 104 ⟨1, [.nilFunc], .scalar, 0⟩ := TIok.scalar (z := .nilFunc) (by kernel_rfl) rfl Try.underlying104 (by simp) (by simp)
theorem tok105 : TIok Try.prog 105 ⟨1, [.nilFunc], .scalar, 0⟩ := TIok.scalar (z := .nilFunc) (by kernel_rfl) rfl Try.underlying105 (by simp) (by simp)
theorem tok106 : TIok Try.prog 106 ⟨1, [.nilFunc], .scalar, 0⟩ := TIok.scalar (z := .nilFunc) (by kernel_rfl) rfl Try.underlying106 (by simp) (by simp)
theorem tok107 : TIok Try.prog 107 ⟨1, [.nilFunc], .scalar, 0⟩ := TIok.scalar (z := .nilFunc) (by kernel_rfl) rfl Try.underlying107 (by simp) (by simp)
theorem tok108 : TIok Try.prog 108 ⟨1, [.slice none 0 0], .sl 173 2 32 [.int .i64 0, .slice none 0 0], 0⟩ := TIok.sl (z := .agg #[.int .i64 0, .slice none 0 0]) (by kernel_rfl) Try.underlying108 (by kernel_rfl) rfl (by decide) (by decide) rfl rfl
theorem tok110 : TIok Try.prog 110 ⟨1, [.nilFunc], .scalar, 0⟩ := TIok.scalar (z := .nilFunc) (by kernel_rfl) rfl Try.underlying110 (by simp) (by simp)
theorem tok112 : TIok Try.prog 112 ⟨1, [.nilFunc], .scalar, 0⟩ := TIok.scalar (z := .nilFunc) (by kernel_rfl) rfl Try.underlying112 (by simp) (by simp)
theorem tok113 : TIok Try.prog 113 ⟨1, [.nilFunc], .scalar, 0⟩ := TIok.scalar (z := .nilFunc) (by kernel_rfl) rfl Try.underlying113 (by simp) (by simp)
theorem tok114 : TIok Try.prog 114 ⟨1, [.nilFunc], .scalar, 0⟩ := TIok.scalar (z := .nilFunc) (by kernel_rfl) rfl Try.underlying114 (by simp) (by simp)
theorem tok115 : TIok Try.prog 115 ⟨1, [.nilFunc], .scalar, 0⟩ := TIok.scalar (z := .nilFunc) (by kernel_rfl) rfl Try.underlying115 (by simp) (by simp)
theorem tok116 : TIok Try.prog 116 ⟨1, [.nilFunc], .scalar, 0⟩ := TIok.scalar (z := .nilFunc) (by kernel_rfl) rfl Try.underlying116 (by simp) (by simp)
theorem tok117 : TIok Try.prog 117 ⟨1, [.nilFunc], .scalar, 0⟩ := TIok.scalar (z := .nilFunc) (by kernel_rfl) rfl Try.underlying117 (by simp) (by simp)
theorem tok118 : TIok Try.prog 118 ⟨1, [.nilFunc], .scalar, 0⟩ := TIok.scalar (z := .nilFunc) (by kernel_rfl) rfl Try.underlying118 (by simp) (by simp)
theorem tok119 : TIok Try.prog 119 ⟨1, [.nilFunc], .scalar, 0⟩ := TIok.scalar (z := .nilFunc) (by kernel_rfl) rfl Try.underlying119 (by simp) (by simp)
theorem tok120 : TIok Try.prog 120 ⟨1, [.nilFunc], .scalar, 0⟩ := TIok.scalar (z := .nilFunc) (by kernel_rfl) rfl Try.underlying120 (by simp) (by simp)
theorem tok122 : TIok Try.prog 122 ⟨1, [.nilFunc], .scalar, 0⟩ := TIok.scalar (z := .nilFunc) (by kernel_rfl) rfl Try.underlying122 (by simp) (by simp)
theorem tok123 : TIok Try.prog 123 ⟨1, [.nilFunc], .scalar, 0⟩ := TIok.scalar (z := .nilFunc) (by kernel_rfl) rfl Try.underlying123 (by simp) (by simp)
theorem tok125 : TIok Try.prog 125 ⟨1, [.nilFunc], .scalar, 0⟩ := TIok.scalar (z := .nilFunc) (by kernel_rfl) rfl Try.underlying125 (by simp) (by simp)
theorem tok126 : TIok Try.prog 126 ⟨1, [.nilFunc], .scalar, 0⟩ := TIok.scalar (z := .nilFunc) (by kernel_rfl) rfl Try.underlying126 (by simp) (by simp)
theorem tok127 : TIok Try.prog 127 ⟨1, [.nilFunc], .scalar, 0⟩ := TIok.scalar (z := .nilFunc) (by kernel_rfl) rfl Try.underlying127 (by simp) (by simp)
theorem tok128 : TIok Try.prog 128 ⟨2, [.int .i64 0, .slice none 0 0], .st [(0, 1), (1, 1)], 0⟩ := TIok.st (z := .agg #[.int .i64 0, .slice none 0 0]) (by kernel_rfl) rfl Try.underlying128 ⟨rfl, (by kernel_rfl), (by decide), rfl, (by kernel_rfl), (by decide), trivial⟩ (fun h => absurd rfl h)
theorem tok129 : TIok Try.prog 129 ⟨2, [.int .i64 0, .slice none 0 0], .st [(0, 1), (1, 1)], 0⟩ := TIok.st (z := .agg #[.int .i64 0, .slice none 0 0]) (by kernel_rfl) rfl Try.underlying129 ⟨rfl, (by kernel_rfl), (by decide), rfl, (by kernel_rfl), (by decide), trivial⟩ (fun h => absurd rfl h)
theorem tok130 : TIok Try.prog 130 ⟨1, [.nilFunc], .scalar, 0⟩ := TIok.scalar (z := .nilFunc) (by kernel_rfl) rfl Try.underlying130 (by simp) (by simp)
theorem tok131 : TIok Try.prog 131 ⟨1, [.nilFunc], .scalar, 0⟩ := TIok.scalar (z := .nilFunc) (by kernel_rfl) rfl Try.underlying131 (by simp) (by simp)
theorem tok132 : TIok Try.prog 132 ⟨1, [.nilFunc], .scalar, 0⟩ := TIok.scalar (z := .nilFunc) (by kernel_rfl) rfl Try.underlying132 (by simp) (by simp)
theorem tok133 : TIok Try.prog 133 ⟨1, [.nilFunc], .scalar, 0⟩ := TIok.scalar (z := .nilFunc) (by kernel_rfl) rfl Try.underlying133 (by simp) (by simp)
theorem tok134 : TIok Try.prog 134 ⟨1, [.nilFunc], .scalar, 0⟩ := TIok.scalar (z := .nilFunc) (by kernel_rfl) rfl Try.underlying134 (by simp) (by simp)
theorem tok135 : TIok Try.prog 135 ⟨3, [.int .i64 0, .int .i64 0, .int .i64 0], .arr 3 3 1, 3⟩ := TIok.arrE (z := .agg #[.int .i64 0, .int .i64 0, .int .i64 0]) (by kernel_rfl) rfl Try.underlying135 (by kernel_rfl) rfl Try.eqGuardType135 (PartEq.int Try.underlying3)
theorem tok136 : TIok Try.prog 136 ⟨1, [.nilFunc], .scalar, 0⟩ := TIok.scalar (z := .nilFunc) (by kernel_rfl) rfl Try.underlying136 (by simp) (by simp)
theorem tok137 : TIok Try.prog 137 ⟨1, [.nilFunc], .scalar, 0⟩ := TIok.scalar (z := .nilFunc) (by kernel_rfl) rfl Try.underlying137 (by simp) (by simp)
theorem tok138 : TIok Try.prog 138 ⟨1, [.nilFunc], .scalar, 0⟩ := TIok.scalar (z := .nilFunc) (by kernel_rfl) rfl Try.underlying138 (by simp) (by simp)
theorem tok139 : TIok Try.prog 139 ⟨1, [.nilFunc], .scalar, 0⟩ := TIok.scalar (z := .nilFunc) (by kernel_rfl) rfl Try.underlying139 (by simp) (by simp)
theorem tok140 : TIok Try.prog 140 ⟨1, [.nilFunc], .scalar, 0⟩ := TIok.scalar (z := .nilFunc) (by kernel_rfl) rfl Try.underlying140 (by simp) (by simp)
theorem tok141 : TIok Try.prog 141 ⟨1, [.nilFunc], .scalar, 0⟩ := TIok.scalar (z := .nilFunc) (by kernel_rfl) rfl Try.underlying141 (by simp) (by simp)
theorem tok142 : TIok Try.prog 142 ⟨4, [.string ⟨#[]⟩, .int .i64 0, .int .i64 0, .int .i64 0], .st [(0, 1), (1, 1), (2, 1), (3, 1)], 0⟩ := TIok.st (z := .agg #[.string ⟨#[]⟩, .int .i64 0, .int .i64 0, .int .i64 0]) (by kernel_rfl) rfl Try.underlying142 ⟨rfl, (by kernel_rfl), (by decide), rfl, (by kernel_rfl), (by decide), rfl, (by kernel_rfl), (by decide), rfl, (by kernel_rfl), (by decide), trivial⟩ (fun h => absurd rfl h)
theorem tok143 : TIok Try.prog 143 ⟨4, [.string ⟨#[]⟩, .int .i64 0, .int .i64 0, .int .i64 0], .st [(0, 1), (1, 1), (2, 1), (3, 1)], 0⟩ := TIok.st (z := .agg #[.string ⟨#[]⟩, .int .i64 0, .int .i64 0, .int .i64 0]) (by kernel_rfl) rfl Try.underlying143 ⟨rfl, (by kernel_rfl), (by decide), rfl, (by kernel_rfl), (by decide), rfl, (by kernel_rfl), (by decide), rfl, (by kernel_rfl), (by decide), trivial⟩ (fun h => absurd rfl h)
theorem tok144 : TIok Try.prog 144 ⟨1, [.nilFunc], .scalar, 0⟩ := TIok.scalar (z := .nilFunc) (by kernel_rfl) rfl Try.underlying144 (by simp) (by simp)
theorem tok145 : TIok Try.prog 145 ⟨1, [.nilFunc], .scalar, 0⟩ := TIok.scalar (z := .nilFunc) (by kernel_rfl) rfl Try.underlying145 (by simp) (by simp)
theorem tok146 : TIok Try.prog 146 ⟨1, [.nilFunc], .scalar, 0⟩ := TIok.scalar (z := .nilFunc) (by kernel_rfl) rfl Try.underlying146 (by simp) (by simp)
theorem tok147 : TIok Try.prog 147 ⟨1, [.nilFunc], .scalar, 0⟩ := TIok.scalar (z := .nilFunc) (by kernel_rfl) rfl Try.underlying147 (by simp) (by simp)
theorem tok148 : TIok Try.prog 148 ⟨1, [.map none], .mp none (.bool false), 0⟩ := TIok.mp (by kernel_rfl) Try.underlying148 Try.underlying9 (by kernel_rfl)
theorem tok149 : TIok Try.prog 149 ⟨1, [.nilFunc], .scalar, 0⟩ := TIok.scalar (z := .nilFunc) (by kernel_rfl) rfl Try.underlying149 (by simp) (by simp)
theorem tok150 : TIok Try.prog 150 ⟨3, [.slice none 0 0, .slice none 0 0, .bool false], .st [(0, 1), (1, 1), (2, 1)], 0⟩ := TIok.st (z := .agg #[.slice none 0 0, .slice none 0 0, .bool false]) (by kernel_rfl) rfl Try.underlying150 ⟨rfl, (by kernel_rfl), (by decide), rfl, (by kernel_rfl), (by decide), rfl, (by kernel_rfl), (by decide), trivial⟩ (fun h => absurd rfl h)
theorem tok151 : TIok Try.prog 151 ⟨3, [.slice none 0 0, .slice none 0 0, .bool false], .st [(0, 1), (1, 1), (2, 1)], 0⟩ := TIok.st (z := .agg #[.slice none 0 0, .slice none 0 0, .bool false]) (by kernel_rfl) rfl Try.underlying151 ⟨rfl, (by kernel_rfl), (by decide), rfl, (by kernel_rfl), (by decide), rfl, (by kernel_rfl), (by decide), trivial⟩ (fun h => absurd rfl h)
theorem tok152 : TIok Try.prog 152 ⟨2, [.slice none 0 0, .slice none 0 0], .st [(0, 2)], 0⟩ := TIok.st (z := .agg #[.slice none 0 0, .slice none 0 0]) (by kernel_rfl) rfl Try.underlying152 ⟨rfl, (by kernel_rfl), (by decide), trivial⟩ (fun h => absurd rfl h)
theorem tok153 : TIok Try.prog 153 ⟨2, [.slice none 0 0, .slice none 0 0], .st [(0, 2)], 0⟩ := TIok.st (z := .agg #[.slice none 0 0, .slice none 0 0]) (by kernel_rfl) rfl Try.underlying153 ⟨rfl, (by kernel_rfl), (by decide), trivial⟩ (fun h => absurd rfl h)
theorem tok154 : TIok Try.prog 154 ⟨1, [.nilFunc], .scalar, 0⟩ := TIok.scalar (z := .nilFunc) (by kernel_rfl) rfl Try.underlying154 (by simp) (by simp)
theorem tok155 : TIok Try.prog 155 ⟨1, [.nilFunc], .scalar, 0⟩ := TIok.scalar (z := .nilFunc) (by kernel_rfl) rfl Try.underlying155 (by simp) (by simp)
theorem tok156 : TIok Try.prog 156 ⟨1, [.nilFunc], .scalar, 0⟩ := TIok.scalar (z := .nilFunc) (by kernel_rfl) rfl Try.underlying156 (by simp) (by simp)
theorem tok157 : TIok Try.prog 157 ⟨1, [.nilFunc], .scalar, 0⟩ := TIok.scalar (z := .nilFunc) (by kernel_rfl) rfl Try.underlying157 (by simp) (by simp)
theorem tok158 : TIok Try.prog 158 ⟨1, [.nilFunc], .scalar, 0⟩ := TIok.scalar (z := .nilFunc) (by kernel_rfl) rfl Try.underlying158 (by simp) (by simp)
theorem tok159 : TIok Try.prog 159 ⟨1, [.nilFunc], .scalar, 0⟩ := TIok.scalar (z := .nilFunc) (by kernel_rfl) rfl Try.underlying159 (by simp) (by simp)
theorem tok160 : TIok Try.prog 160 ⟨1, [.slice none 0 0], .sl 88 2 16 [.int .i64 0, .int .i64 0], 0⟩ := TIok.sl (z := .agg #[.int .i64 0, .int .i64 0]) (by kernel_rfl) Try.underlying160 (by kernel_rfl) rfl (by decide) (by decide) rfl rfl
theorem tok161 : TIok Try.prog 161 ⟨1, [.nilFunc], .scalar, 0⟩ := TIok.scalar (z := .nilFunc) (by kernel_rfl) rfl Try.underlying161 (by simp) (by simp)
theorem tok162 : TIok Try.prog 162 ⟨1, [.nilFunc], .scalar, 0⟩ := TIok.scalar (z := .nilFunc) (by kernel_rfl) rfl Try.underlying162 (by simp) (by simp)
theorem tok163 : TIok Try.prog 163 ⟨1, [.pointer none], .scalar, 0⟩ := TIok.scalar (z := .pointer none) (by kernel_rfl) rfl Try.underlying163 (by simp) (by simp)
theorem tok164 : TIok Try.prog 164 ⟨4, [.slice none 0 0, .slice none 0 0, .int .i64 0, .slice none 0 0], .st [(0, 2), (2, 1), (3, 1)], 0⟩ := TIok.st (z := .agg #[.slice none 0 0, .slice none 0 0, .int .i64 0, .slice none 0 0]) (by kernel_rfl) rfl Try.underlying164 ⟨rfl, (by kernel_rfl), (by decide), rfl, (by kernel_rfl), (by decide), rfl, (by kernel_rfl), (by decide), trivial⟩ (fun h => absurd rfl h)
theorem tok165 : TIok Try.prog 165 ⟨4, [.slice none 0 0, .slice none 0 0, .int .i64 0, .slice none 0 0], .st [(0, 2), (2, 1), (3, 1)], 0⟩ := TIok.st (z := .agg #[.slice none 0 0, .slice none 0 0, .int .i64 0, .slice none 0 0]) (by kernel_rfl) rfl Try.underlying165 ⟨rfl, (by kernel_rfl), (by decide), rfl, (by kernel_rfl), (by decide), rfl, (by kernel_rfl), (by decide), trivial⟩ (fun h => absurd rfl h)
theorem tok166 : TIok Try.prog 166 ⟨1, [.nilFunc], .scalar, 0⟩ := TIok.scalar (z := .nilFunc) (by kernel_rfl) rfl Try.underlying166 (by simp) (by simp)
theorem tok167 : TIok Try.prog 167 ⟨1, [.nilFunc], .scalar, 0⟩ := TIok.scalar (z := .nilFunc) (by kernel_rfl) rfl Try.underlying167 (by simp) (by simp)
theorem tok168 : TIok Try.prog 168 ⟨1, [.nilFunc], .scalar, 0⟩ := TIok.scalar (z := .nilFunc) (by kernel_rfl) rfl Try.underlying168 (by simp) (by simp)
theorem tok169 : TIok Try.prog 169 ⟨1, [.nilFunc], .scalar, 0⟩ := TIok.scalar (z := .nilFunc) (by kernel_rfl) rfl Try.underlying169 (by simp) (by simp)
theorem tok170 : TIok Try.prog 170 ⟨4, [.slice none 0 0, .slice none 0 0, .int .i64 0, .slice none 0 0], .st [(0, 2), (2, 1), (3, 1)], 0⟩ := TIok.st (z := .agg #[.slice none 0 0, .slice none 0 0, .int .i64 0, .slice none 0 0]) (by kernel_rfl) rfl Try.underlying170 ⟨rfl, (by kernel_rfl), (by decide), rfl, (by kernel_rfl), (by decide), rfl, (by kernel_rfl), (by decide), trivial⟩ (fun h => absurd rfl h)
theorem tok171 : TIok Try.prog 171 ⟨1, [.nilFunc], .scalar, 0⟩ := TIok.scalar (z := .nilFunc) (by kernel_rfl) rfl Try.underlying171 (by simp) (by simp)
theorem tok172 : TIok Try.prog 172 ⟨2, [.int .i64 0, .slice none 0 0], .st [(0, 1), (1, 1)], 0⟩ := TIok.st (z := .agg #[.int .i64 0, .slice none 0 0]) (by kernel_rfl) rfl Try.underlying172 ⟨rfl, (by kernel_rfl), (by decide), rfl, (by kernel_rfl), (by decide), trivial⟩ (fun h => absurd rfl h)
theorem tok173 : TIok Try.prog 173 ⟨2, [.int .i64 0, .slice none 0 0], .st [(0, 1), (1, 1)], 0⟩ := TIok.st (z := .agg #[.int .i64 0, .slice none 0 0]) (by kernel_rfl) rfl Try.underlying173 ⟨rfl, (by kernel_rfl), (by decide), rfl, (by kernel_rfl), (by decide), trivial⟩ (fun h => absurd rfl h)
theorem tok174 : TIok Try.prog 174 ⟨1, [.nilFunc], .scalar, 0⟩ := TIok.scalar (z := .nilFunc) (by kernel_rfl) rfl Try.underlying174 (by simp) (by simp)
theorem tok175 : TIok Try.prog 175 ⟨1, [.slice none 0 0], .sl 5 1 1 [.int .u8 0], 0⟩ := TIok.sl (z := .int .u8 0) (by kernel_rfl) Try.underlying175 (by kernel_rfl) rfl (by decide) (by decide) rfl rfl
theorem tok176 : TIok Try.prog 176 ⟨1, [.nilFunc], .scalar, 0⟩ := TIok.scalar (z := .nilFunc) (by kernel_rfl) rfl Try.underlying176 (by simp) (by simp)
theorem tok177 : TIok Try.prog 177 ⟨1, [.nilFunc], .scalar, 0⟩ := TIok.scalar (z := .nilFunc) (by kernel_rfl) rfl Try.underlying177 (by simp) (by simp)
theorem tok178 : TIok Try.prog 178 ⟨1, [.nilFunc], .scalar, 0⟩ := TIok.scalar (z := .nilFunc) (by kernel_rfl) rfl Try.underlying178 (by simp) (by simp)
theorem tok179 : TIok Try.prog 179 ⟨1, [.nilFunc], .scalar, 0⟩ := TIok.scalar (z := .nilFunc) (by kernel_rfl) rfl Try.underlying179 (by simp) (by simp)
theorem tok180 : TIok Try.prog 180 ⟨1, [.nilFunc], .scalar, 0⟩ := TIok.scalar (z := .nilFunc) (by kernel_rfl) rfl Try.underlying180 (by simp) (by simp)
theorem tok181 : TIok Try.prog 181 ⟨1, [.nilFunc], .scalar, 0⟩ := TIok.scalar (z := .nilFunc) (by kernel_rfl) rfl Try.underlying181 (by simp) (by simp)
theorem tok182 : TIok Try.prog 182 ⟨1, [.int .u64 0], .int .u64, 0⟩ := TIok.int (by kernel_rfl) Try.underlying182
theorem tok184 : TIok Try.prog 184 ⟨1, [.nilFunc], .scalar, 0⟩ := TIok.scalar (z := .nilFunc) (by kernel_rfl) rfl Try.underlying184 (by simp) (by simp)
theorem tok185 : TIok Try.prog 185 ⟨1, [.nilFunc], .scalar, 0⟩ := TIok.scalar (z := .nilFunc) (by kernel_rfl) rfl Try.underlying185 (by simp) (by simp)
theorem tok186 : TIok Try.prog 186 ⟨1, [.nilFunc], .scalar, 0⟩ := TIok.scalar (z := .nilFunc) (by kernel_rfl) rfl Try.underlying186 (by simp) (by simp)
theorem tok187 : TIok Try.prog 187 ⟨1, [.int .u64 0], .int .u64, 0⟩ := TIok.int (by kernel_rfl) Try.underlying187
theorem tok188 : TIok Try.prog 188 ⟨1, [.nilFunc], .scalar, 0⟩ := TIok.scalar (z := .nilFunc) (by kernel_rfl) rfl Try.underlying188 (by simp) (by simp)
theorem tok189 : TIok Try.prog 189 ⟨4, [.pointer none, .pointer none, .pointer none, .string ⟨#[]⟩], .st [(0, 1), (1, 1), (2, 1), (3, 1)], 0⟩ := TIok.st (z := .agg #[.pointer none, .pointer none, .pointer none, .string ⟨#[]⟩]) (by kernel_rfl) rfl Try.underlying189 ⟨rfl, (by kernel_rfl), (by decide), rfl, (by kernel_rfl), (by decide), rfl, (by kernel_rfl), (by decide), rfl, (by kernel_rfl), (by decide), trivial⟩ (fun h => absurd rfl h)
theorem tok190 : TIok Try.prog 190 ⟨4, [.pointer none, .pointer none, .pointer none, .string ⟨#[]⟩], .st [(0, 1), (1, 1), (2, 1), (3, 1)], 0⟩ := TIok.st (z := .agg #[.pointer none, .pointer none, .pointer none, .string ⟨#[]⟩]) (by kernel_rfl) rfl Try.underlying190 ⟨rfl, (by kernel_rfl), (by decide), rfl, (by kernel_rfl), (by decide), rfl, (by kernel_rfl), (by decide), rfl, (by kernel_rfl), (by decide), trivial⟩ (fun h => absurd rfl h)
theorem tok191 : TIok Try.prog 191 ⟨0, [], .arr 0 16 1, 0⟩ := TIok.arr (z := .agg #[]) (by kernel_rfl) rfl Try.underlying191 (by kernel_rfl)
theorem tok194 : TIok Try.prog 194 ⟨1, [.int .u32 0], .int .u32, 0⟩ := TIok.int (by kernel_rfl) Try.underlying194
theorem tok195 : TIok Try.prog 195 ⟨1, [.int .u8 0], .int .u8, 0⟩ := TIok.int (by kernel_rfl) Try.underlying195
theorem tok196 : TIok Try.prog 196 ⟨1, [.int .u8 0], .int .u8, 0⟩ := TIok.int (by kernel_rfl) Try.underlying196
theorem tok197 : TIok Try.prog 197 ⟨1, [.nilFunc], .scalar, 0⟩ := TIok.scalar (z := .nilFunc) (by kernel_rfl) rfl Try.underlying197 (by simp) (by simp)
theorem tok198 : TIok Try.prog 198 ⟨1, [.pointer none], .scalar, 0⟩ := TIok.scalar (z := .pointer none) (by kernel_rfl) rfl Try.underlying198 (by simp) (by simp)
theorem tok199 : TIok Try.prog 199 ⟨1, [.int .i32 0], .int .i32, 0⟩ := TIok.int (by kernel_rfl) Try.underlying199
theorem tok200 : TIok Try.prog 200 ⟨1, [.int .i32 0], .int .i32, 0⟩ := TIok.int (by kernel_rfl) Try.underlying200
theorem tok201 : TIok Try.prog 201 ⟨11, [.int .u64 0, .int .u64 0, .int .u32 0, .int .u8 0, .int .u8 0, .int .u8 0, .int .u8 0, .nilFunc, .pointer none, .int .i32 0, .int .i32 0], .st [(0, 1), (1, 1), (2, 1), (3, 1), (4, 1), (5, 1), (6, 1), (7, 1), (8, 1), (9, 1), (10, 1)], 0⟩ := TIok.st (z := .agg #[.int .u64 0, .int .u64 0, .int .u32 0, .int .u8 0, .int .u8 0, .int .u8 0, .int .u8 0, .nilFunc, .pointer none, .int .i32 0, .int .i32 0]) (by kernel_rfl) rfl Try.underlying201 ⟨rfl, (by kernel_rfl), (by decide), rfl, (by kernel_rfl), (by decide), rfl, (by kernel_rfl), (by decide), rfl, (by kernel_rfl), (by decide), rfl, (by kernel_rfl), (by decide), rfl, (by kernel_rfl), (by decide), rfl, (by kernel_rfl), (by decide), rfl, (by kernel_rfl), (by decide), rfl, (by kernel_rfl), (by decide), rfl, (by kernel_rfl), (by decide), rfl, (by kernel_rfl), (by decide), trivial⟩ (fun h => absurd rfl h)
theorem tok202 : TIok Try.prog 202 ⟨11, [.int .u64 0, .int .u64 0, .int .u32 0, .int .u8 0, .int .u8 0, .int .u8 0, .int .u8 0, .nilFunc, .pointer none, .int .i32 0, .int .i32 0], .st [(0, 1), (1, 1), (2, 1), (3, 1), (4, 1), (5, 1), (6, 1), (7, 1), (8, 1), (9, 1), (10, 1)], 0⟩ := TIok.st (z := .agg #[.int .u64 0, .int .u64 0, .int .u32 0, .int .u8 0, .int .u8 0, .int .u8 0, .int .u8 0, .nilFunc, .pointer none, .int .i32 0, .int .i32 0]) (by kernel_rfl) rfl Try.underlying202 ⟨rfl, (by kernel_rfl), (by decide), rfl, (by kernel_rfl), (by decide), rfl, (by kernel_rfl), (by decide), rfl, (by kernel_rfl), (by decide), rfl, (by kernel_rfl), (by decide), rfl, (by kernel_rfl), (by decide), rfl, (by kernel_rfl), (by decide), rfl, (by kernel_rfl), (by decide), rfl, (by kernel_rfl), (by decide), rfl, (by kernel_rfl), (by decide), rfl, (by kernel_rfl), (by decide), trivial⟩ (fun h => absurd rfl h)
set_option maxRecDepth 20000 in
theorem Tok : TabOk Try.prog Tt :=
  TabOk.cons tok1 <| TabOk.cons tok2 <| TabOk.cons tok3 <| TabOk.cons tok4 <| TabOk.cons tok5 <| TabOk.cons tok6 <| TabOk.cons tok7 <| TabOk.cons tok8 <| TabOk.cons tok9 <| TabOk.cons tok10 <| TabOk.cons tok11 <| TabOk.cons tok12 <| TabOk.cons tok13 <| TabOk.cons tok14 <| TabOk.cons tok15 <| TabOk.cons tok16 <| TabOk.cons tok17 <| TabOk.cons tok18 <| TabOk.cons tok19 <| TabOk.cons tok20 <| TabOk.cons tok21 <| TabOk.cons tok22 <| TabOk.cons tok23 <| TabOk.cons tok24 <| TabOk.cons tok25 <| TabOk.cons tok26 <| TabOk.cons tok27 <| TabOk.cons tok28 <| TabOk.cons tok29 <| TabOk.cons tok31 <| TabOk.cons tok32 <| TabOk.cons tok33 <| TabOk.cons tok34 <| TabOk.cons tok35 <| TabOk.cons tok36 <| TabOk.cons tok37 <| TabOk.cons tok38 <| TabOk.cons tok39 <| TabOk.cons tok40 <| TabOk.cons tok41 <| TabOk.cons tok42 <| TabOk.cons tok43 <| TabOk.cons tok45 <| TabOk.cons tok47 <| TabOk.cons tok48 <| TabOk.cons tok49 <| TabOk.cons tok50 <| TabOk.cons tok51 <| TabOk.cons tok52 <| TabOk.cons tok53 <| TabOk.cons tok54 <| TabOk.cons tok55 <| TabOk.cons tok56 <| TabOk.cons tok57 <| TabOk.cons tok58 <| TabOk.cons tok59 <| TabOk.cons tok61 <| TabOk.cons tok62 <| TabOk.cons tok63 <| TabOk.cons tok64 <| TabOk.cons tok65 <| TabOk.cons tok66 <| TabOk.cons tok67 <| TabOk.cons tok69 <| TabOk.cons tok71 <| TabOk.cons tok72 <| TabOk.cons tok73 <| TabOk.cons tok74 <| TabOk.cons tok75 <| TabOk.cons tok76 <| TabOk.cons tok77 <| TabOk.cons tok78 <| TabOk.cons tok79 <| TabOk.cons tok80 <| TabOk.cons tok81 <| TabOk.cons tok82 <| TabOk.cons tok84 <| TabOk.cons tok85 <| TabOk.cons tok86 <| TabOk.cons tok87 <| TabOk.cons tok88 <| TabOk.cons tok89 <| TabOk.cons tok91 <| TabOk.cons tok92 <| TabOk.cons tok93 <| TabOk.cons tok94 <| TabOk.cons tok95 <| TabOk.cons tok96 <| TabOk.cons tok97 <| TabOk.cons tok98 <| TabOk.cons tok99 <| TabOk.cons tok100 <| TabOk.cons tok102 <| TabOk.cons tok103 <| TabOk.cons tok104 <| TabOk.cons tok105 <| TabOk.cons tok106 <| TabOk.cons tok107 <| TabOk.cons tok108 <| TabOk.cons tok110 <| TabOk.cons tok112 <| TabOk.cons tok113 <| TabOk.cons tok114 <| TabOk.cons tok115 <| TabOk.cons tok116 <| TabOk.cons tok117 <| TabOk.cons tok118 <| TabOk.cons tok119 <| TabOk.cons tok120 <| TabOk.cons tok122 <| TabOk.cons tok123 <| TabOk.cons tok125 <| TabOk.cons tok126 <| TabOk.cons tok127 <| TabOk.cons tok128 <| TabOk.cons tok129 <| TabOk.cons tok130 <| TabOk.cons tok131 <| TabOk.cons tok132 <| TabOk.cons tok133 <| TabOk.cons tok134 <| TabOk.cons tok135 <| TabOk.cons tok136 <| TabOk.cons tok137 <| TabOk.cons tok138 <| TabOk.cons tok139 <| TabOk.cons tok140 <| TabOk.cons tok141 <| TabOk.cons tok142 <| TabOk.cons tok143 <| TabOk.cons tok144 <| TabOk.cons tok145 <| TabOk.cons tok146 <| TabOk.cons tok147 <| TabOk.cons tok148 <| TabOk.cons tok149 <| TabOk.cons tok150 <| TabOk.cons tok151 <| TabOk.cons tok152 <| TabOk.cons tok153 <| TabOk.cons tok154 <| TabOk.cons tok155 <| TabOk.cons tok156 <| TabOk.cons tok157 <| TabOk.cons tok158 <| TabOk.cons tok159 <| TabOk.cons tok160 <| TabOk.cons tok161 <| TabOk.cons tok162 <| TabOk.cons tok163 <| TabOk.cons tok164 <| TabOk.cons tok165 <| TabOk.cons tok166 <| TabOk.cons tok167 <| TabOk.cons tok168 <| TabOk.cons tok169 <| TabOk.cons tok170 <| TabOk.cons tok171 <| TabOk.cons tok172 <| TabOk.cons tok173 <| TabOk.cons tok174 <| TabOk.cons tok175 <| TabOk.cons tok176 <| TabOk.cons tok177 <| TabOk.cons tok178 <| TabOk.cons tok179 <| TabOk.cons tok180 <| TabOk.cons tok181 <| TabOk.cons tok182 <| TabOk.cons tok184 <| TabOk.cons tok185 <| TabOk.cons tok186 <| TabOk.cons tok187 <| TabOk.cons tok188 <| TabOk.cons tok189 <| TabOk.cons tok190 <| TabOk.cons tok191 <| TabOk.cons tok194 <| TabOk.cons tok195 <| TabOk.cons tok196 <| TabOk.cons tok197 <| TabOk.cons tok198 <| TabOk.cons tok199 <| TabOk.cons tok200 <| TabOk.cons tok201 <| TabOk.cons tok202 <| TabOk.nil
set_option maxRecDepth 20000 in
theorem tys :
    (tlook Tt 1 = some ⟨1, [.nilFunc], .scalar, 0⟩) ∧
    (tlook Tt 2 = some ⟨1, [.int .i64 0], .int .i64, 0⟩) ∧
    (tlook Tt 3 = some ⟨1, [.int .i64 0], .int .i64, 0⟩) ∧
    (tlook Tt 4 = some ⟨1, [.bool false], .scalar, 0⟩) ∧
    (tlook Tt 5 = some ⟨1, [.int .u8 0], .int .u8, 0⟩) ∧
    (tlook Tt 6 = some ⟨1, [.int .u8 0], .int .u8, 0⟩) ∧
    (tlook Tt 7 = some ⟨4, [.int .i64 0, .int .i64 0, .bool false, .int .u8 0], .st [(0, 1), (1, 1), (2, 1), (3, 1)], 0⟩) ∧
    (tlook Tt 8 = some ⟨4, [.int .i64 0, .int .i64 0, .bool false, .int .u8 0], .st [(0, 1), (1, 1), (2, 1), (3, 1)], 0⟩) ∧
    (tlook Tt 9 = some ⟨1, [.string ⟨#[]⟩], .str, 0⟩) ∧
    (tlook Tt 10 = some ⟨1, [.string ⟨#[]⟩], .str, 0⟩) ∧
    (tlook Tt 11 = some ⟨1, [.string ⟨#[]⟩], .str, 0⟩) ∧
    (tlook Tt 12 = some ⟨1, [.int .u64 0], .int .u64, 0⟩) ∧
    (tlook Tt 13 = some ⟨2, [.string ⟨#[]⟩, .int .u64 0], .st [(0, 1), (1, 1)], 0⟩) ∧
    (tlook Tt 14 = some ⟨2, [.string ⟨#[]⟩, .int .u64 0], .st [(0, 1), (1, 1)], 0⟩) ∧
    (tlook Tt 15 = some ⟨1, [.pointer none], .scalar, 0⟩) ∧
    (tlook Tt 16 = some ⟨1, [.pointer none], .scalar, 0⟩) ∧
    (tlook Tt 17 = some ⟨1, [.pointer none], .scalar, 0⟩) ∧
    (tlook Tt 18 = some ⟨1, [.pointer none], .st [(0, 1)], 0⟩) ∧
    (tlook Tt 19 = some ⟨1, [.pointer none], .st [(0, 1)], 0⟩) ∧
    (tlook Tt 20 = some ⟨1, [.nilIface], .scalar, 0⟩) ∧
    (tlook Tt 21 = some ⟨1, [.int .i32 0], .int .i32, 0⟩) ∧
    (tlook Tt 22 = some ⟨1, [.slice none 0 0], .sl 9 1 16 [.string ⟨#[]⟩], 0⟩) ∧
    (tlook Tt 23 = some ⟨7, [.string ⟨#[]⟩, .int .i64 0, .int .i64 0, .int .i64 0, .slice none 0 0, .int .i64 0, .int .i64 0], .st [(0, 1), (1, 1), (2, 1), (3, 1), (4, 1), (5, 1), (6, 1)], 0⟩) ∧
    (tlook Tt 24 = some ⟨7, [.string ⟨#[]⟩, .int .i64 0, .int .i64 0, .int .i64 0, .slice none 0 0, .int .i64 0, .int .i64 0], .st [(0, 1), (1, 1), (2, 1), (3, 1), (4, 1), (5, 1), (6, 1)], 0⟩) ∧
    (tlook Tt 25 = some ⟨3, [.int .i64 0, .int .i64 0, .int .i64 0], .st [(0, 1), (1, 1), (2, 1)], 3⟩) ∧
    (tlook Tt 26 = some ⟨3, [.int .i64 0, .int .i64 0, .int .i64 0], .st [(0, 1), (1, 1), (2, 1)], 3⟩) ∧
    (tlook Tt 27 = some ⟨1, [.nilFunc], .scalar, 0⟩) ∧
    (tlook Tt 28 = some ⟨1, [.nilFunc], .scalar, 0⟩) ∧
    (tlook Tt 29 = some ⟨1, [.int .i64 0], .int .i64, 0⟩) ∧
    (tlook Tt 31 = some ⟨1, [.nilFunc], .scalar, 0⟩) ∧
    (tlook Tt 32 = some ⟨1, [.nilFunc], .scalar, 0⟩) ∧
    (tlook Tt 33 = some ⟨1, [.nilFunc], .scalar, 0⟩) ∧
    (tlook Tt 34 = some ⟨1, [.nilFunc], .scalar, 0⟩) ∧
    (tlook Tt 35 = some ⟨1, [.nilFunc], .scalar, 0⟩) ∧
    (tlook Tt 36 = some ⟨1, [.nilFunc], .scalar, 0⟩) ∧
    (tlook Tt 37 = some ⟨1, [.nilFunc], .scalar, 0⟩) ∧
    (tlook Tt 38 = some ⟨1, [.nilFunc], .scalar, 0⟩) ∧
    (tlook Tt 39 = some ⟨2, [.int .i64 0, .int .i64 0], .st [(0, 1), (1, 1)], 2⟩) ∧
    (tlook Tt 40 = some ⟨2, [.int .i64 0, .int .i64 0], .st [(0, 1), (1, 1)], 2⟩) ∧
    (tlook Tt 41 = some ⟨4, [.int .i64 0, .int .i64 0, .int .i64 0, .int .i64 0], .st [(0, 1), (1, 1), (2, 2)], 0⟩) ∧
    (tlook Tt 42 = some ⟨4, [.int .i64 0, .int .i64 0, .int .i64 0, .int .i64 0], .st [(0, 1), (1, 1), (2, 2)], 0⟩) ∧
    (tlook Tt 43 = some ⟨2, [.int .i64 0, .int .i64 0], .arr 2 3 1, 2⟩) ∧
    (tlook Tt 45 = some ⟨1, [.nilFunc], .scalar, 0⟩) ∧
    (tlook Tt 47 = some ⟨1, [.nilFunc], .scalar, 0⟩) ∧
    (tlook Tt 48 = some ⟨1, [.nilFunc], .scalar, 0⟩) ∧
    (tlook Tt 49 = some ⟨1, [.nilFunc], .scalar, 0⟩) ∧
    (tlook Tt 50 = some ⟨1, [.nilFunc], .scalar, 0⟩) ∧
    (tlook Tt 51 = some ⟨1, [.nilFunc], .scalar, 0⟩) ∧
    (tlook Tt 52 = some ⟨1, [.nilFunc], .scalar, 0⟩) ∧
    (tlook Tt 53 = some ⟨1, [.nilFunc], .scalar, 0⟩) ∧
    (tlook Tt 54 = some ⟨1, [.nilFunc], .scalar, 0⟩) ∧
    (tlook Tt 55 = some ⟨1, [.nilFunc], .scalar, 0⟩) ∧
    (tlook Tt 56 = some ⟨1, [.slice none 0 0], .sl 143 4 40 [.string ⟨#[]⟩, .int .i64 0, .int .i64 0, .int .i64 0], 0⟩) ∧
    (tlook Tt 57 = some ⟨1, [.nilFunc], .scalar, 0⟩) ∧
    (tlook Tt 58 = some ⟨1, [.slice none 0 0], .sl 67 3 24 [.int .i64 0, .int .i64 0, .int .i64 0], 0⟩) ∧
    (tlook Tt 59 = some ⟨1, [.slice none 0 0], .sl 3 1 8 [.int .i64 0], 0⟩) ∧
    (tlook Tt 61 = some ⟨1, [.nilFunc], .scalar, 0⟩) ∧
    (tlook Tt 62 = some ⟨1, [.nilFunc], .scalar, 0⟩) ∧
    (tlook Tt 63 = some ⟨1, [.nilFunc], .scalar, 0⟩) ∧
    (tlook Tt 64 = some ⟨1, [.nilFunc], .scalar, 0⟩) ∧
    (tlook Tt 65 = some ⟨1, [.nilFunc], .scalar, 0⟩) ∧
    (tlook Tt 66 = some ⟨3, [.int .i64 0, .int .i64 0, .int .i64 0], .st [(0, 1), (1, 1), (2, 1)], 3⟩) ∧
    (tlook Tt 67 = some ⟨3, [.int .i64 0, .int .i64 0, .int .i64 0], .st [(0, 1), (1, 1), (2, 1)], 3⟩) ∧
    (tlook Tt 69 = some ⟨1, [.nilFunc], .scalar, 0⟩) ∧
    (tlook Tt 71 = some ⟨1, [.nilFunc], .scalar, 0⟩) ∧
    (tlook Tt 72 = some ⟨1, [.nilFunc], .scalar, 0⟩) ∧
    (tlook Tt 73 = some ⟨1, [.nilFunc], .scalar, 0⟩) ∧
    (tlook Tt 74 = some ⟨1, [.slice none 0 0], .sl 59 1 24 [.slice none 0 0], 0⟩) ∧
    (tlook Tt 75 = some ⟨2, [.slice none 0 0, .slice none 0 0], .st [(0, 1), (1, 1)], 0⟩) ∧
    (tlook Tt 76 = some ⟨2, [.slice none 0 0, .slice none 0 0], .st [(0, 1), (1, 1)], 0⟩) ∧
    (tlook Tt 77 = some ⟨1, [.nilFunc], .scalar, 0⟩) ∧
    (tlook Tt 78 = some ⟨1, [.nilFunc], .scalar, 0⟩) ∧
    (tlook Tt 79 = some ⟨1, [.nilFunc], .scalar, 0⟩) ∧
    (tlook Tt 80 = some ⟨1, [.nilFunc], .scalar, 0⟩) ∧
    (tlook Tt 81 = some ⟨1, [.nilFunc], .scalar, 0⟩) ∧
    (tlook Tt 82 = some ⟨1, [.nilFunc], .scalar, 0⟩) ∧
    (tlook Tt 84 = some ⟨1, [.nilFunc], .scalar, 0⟩) ∧
    (tlook Tt 85 = some ⟨1, [.nilFunc], .scalar, 0⟩) ∧
    (tlook Tt 86 = some ⟨1, [.slice none 0 0], .sl 96 6 48 [.int .i64 0, .int .i64 0, .int .i64 0, .int .i64 0, .int .i64 0, .int .i64 0], 0⟩) ∧
    (tlook Tt 87 = some ⟨2, [.int .i64 0, .int .i64 0], .st [(0, 1), (1, 1)], 2⟩) ∧
    (tlook Tt 88 = some ⟨2, [.int .i64 0, .int .i64 0], .st [(0, 1), (1, 1)], 2⟩) ∧
    (tlook Tt 89 = some ⟨6, [.int .i64 0, .int .i64 0, .int .i64 0, .int .i64 0, .int .i64 0, .int .i64 0], .arr 3 88 2, 6⟩) ∧
    (tlook Tt 91 = some ⟨1, [.nilFunc], .scalar, 0⟩) ∧
    (tlook Tt 92 = some ⟨1, [.nilFunc], .scalar, 0⟩) ∧
    (tlook Tt 93 = some ⟨1, [.nilFunc], .scalar, 0⟩) ∧
    (tlook Tt 94 = some ⟨1, [.nilFunc], .scalar, 0⟩) ∧
    (tlook Tt 95 = some ⟨6, [.int .i64 0, .int .i64 0, .int .i64 0, .int .i64 0, .int .i64 0, .int .i64 0], .st [(0, 2), (2, 2), (4, 2)], 0⟩) ∧
    (tlook Tt 96 = some ⟨6, [.int .i64 0, .int .i64 0, .int .i64 0, .int .i64 0, .int .i64 0, .int .i64 0], .st [(0, 2), (2, 2), (4, 2)], 0⟩) ∧
    (tlook Tt 97 = some ⟨1, [.nilFunc], .scalar, 0⟩) ∧
    (tlook Tt 98 = some ⟨1, [.nilFunc], .scalar, 0⟩) ∧
    (tlook Tt 99 = some ⟨1, [.nilFunc], .scalar, 0⟩) ∧
    (tlook Tt 100 = some ⟨1, [.nilFunc], .scalar, 0⟩) ∧
    (tlook Tt 102 = some ⟨1, [.nilFunc], .scalar, 0⟩) ∧
    (tlook Tt 103 = some ⟨1, [.nilFunc], .scalar, 0⟩) ∧
    (tlook Tt 104 = some ⟨1, [.nilFunc], .scalar, 0⟩) ∧
    (tlook Tt 105 = some ⟨1, [.nilFunc], .scalar, 0⟩) ∧
    (tlook Tt 106 = some ⟨1, [.nilFunc], .scalar, 0⟩) ∧
    (tlook Tt 107 = some ⟨1, [.nilFunc], .scalar, 0⟩) ∧
    (tlook Tt 108 = some ⟨1, [.slice none 0 0], .sl 173 2 32 [.int .i64 0, .slice none 0 0], 0⟩) ∧
    (tlook Tt 110 = some ⟨1, [.nilFunc], .scalar, 0⟩) ∧
    (tlook Tt 112 = some ⟨1, [.nilFunc], .scalar, 0⟩) ∧
    (tlook Tt 113 = some ⟨1, [.nilFunc], .scalar, 0⟩) ∧
    (tlook Tt 114 = some ⟨1, [.nilFunc], .scalar, 0⟩) ∧
    (tlook Tt 115 = some ⟨1, [.nilFunc], .scalar, 0⟩) ∧
    (tlook Tt 116 = some ⟨1, [.nilFunc], .scalar, 0⟩) ∧
    (tlook Tt 117 = some ⟨1, [.nilFunc], .scalar, 0⟩) ∧
    (tlook Tt 118 = some ⟨1, [.nilFunc], .scalar, 0⟩) ∧
    (tlook Tt 119 = some ⟨1, [.nilFunc], .scalar, 0⟩) ∧
    (tlook Tt 120 = some ⟨1, [.nilFunc], .scalar, 0⟩) ∧
    (tlook Tt 122 = some ⟨1, [.nilFunc], .scalar, 0⟩) ∧
    (tlook Tt 123 = some ⟨1, [.nilFunc], .scalar, 0⟩) ∧
    (tlook Tt 125 = some ⟨1, [.nilFunc], .scalar, 0⟩) ∧
    (tlook Tt 126 = some ⟨1, [.nilFunc], .scalar, 0⟩) ∧
    (tlook Tt 127 = some ⟨1, [.nilFunc], .scalar, 0⟩) ∧
    (tlook Tt 128 = some ⟨2, [.int .i64 0, .slice none 0 0], .st [(0, 1), (1, 1)], 0⟩) ∧
    (tlook Tt 129 = some ⟨2, [.int .i64 0, .slice none 0 0], .st [(0, 1), (1, 1)], 0⟩) ∧
    (tlook Tt 130 = some ⟨1, [.nilFunc], .scalar, 0⟩) ∧
    (tlook Tt 131 = some ⟨1, [.nilFunc], .scalar, 0⟩) ∧
    (tlook Tt 132 = some ⟨1, [.nilFunc], .scalar, 0⟩) ∧
    (tlook Tt 133 = some ⟨1, [.nilFunc], .scalar, 0⟩) ∧
    (tlook Tt 134 = some ⟨1, [.nilFunc], .scalar, 0⟩) ∧
    (tlook Tt 135 = some ⟨3, [.int .i64 0, .int .i64 0, .int .i64 0], .arr 3 3 1, 3⟩) ∧
    (tlook Tt 136 = some ⟨1, [.nilFunc], .scalar, 0⟩) ∧
    (tlook Tt 137 = some ⟨1, [.nilFunc], .scalar, 0⟩) ∧
    (tlook Tt 138 = some ⟨1, [.nilFunc], .scalar, 0⟩) ∧
    (tlook Tt 139 = some ⟨1, [.nilFunc], .scalar, 0⟩) ∧
    (tlook Tt 140 = some ⟨1, [.nilFunc], .scalar, 0⟩) ∧
    (tlook Tt 141 = some ⟨1, [.nilFunc], .scalar, 0⟩) ∧
    (tlook Tt 142 = some ⟨4, [.string ⟨#[]⟩, .int .i64 0, .int .i64 0, .int .i64 0], .st [(0, 1), (1, 1), (2, 1), (3, 1)], 0⟩) ∧
    (tlook Tt 143 = some ⟨4, [.string ⟨#[]⟩, .int .i64 0, .int .i64 0, .int .i64 0], .st [(0, 1), (1, 1), (2, 1), (3, 1)], 0⟩) ∧
    (tlook Tt 144 = some ⟨1, [.nilFunc], .scalar, 0⟩) ∧
    (tlook Tt 145 = some ⟨1, [.nilFunc], .scalar, 0⟩) ∧
    (tlook Tt 146 = some ⟨1, [.nilFunc], .scalar, 0⟩) ∧
    (tlook Tt 147 = some ⟨1, [.nilFunc], .scalar, 0⟩) ∧
    (tlook Tt 148 = some ⟨1, [.map none], .mp none (.bool false), 0⟩) ∧
    (tlook Tt 149 = some ⟨1, [.nilFunc], .scalar, 0⟩) ∧
    (tlook Tt 150 = some ⟨3, [.slice none 0 0, .slice none 0 0, .bool false], .st [(0, 1), (1, 1), (2, 1)], 0⟩) ∧
    (tlook Tt 151 = some ⟨3, [.slice none 0 0, .slice none 0 0, .bool false], .st [(0, 1), (1, 1), (2, 1)], 0⟩) ∧
    (tlook Tt 152 = some ⟨2, [.slice none 0 0, .slice none 0 0], .st [(0, 2)], 0⟩) ∧
    (tlook Tt 153 = some ⟨2, [.slice none 0 0, .slice none 0 0], .st [(0, 2)], 0⟩) ∧
    (tlook Tt 154 = some ⟨1, [.nilFunc], .scalar, 0⟩) ∧
    (tlook Tt 155 = some ⟨1, [.nilFunc], .scalar, 0⟩) ∧
    (tlook Tt 156 = some ⟨1, [.nilFunc], .scalar, 0⟩) ∧
    (tlook Tt 157 = some ⟨1, [.nilFunc], .scalar, 0⟩) ∧
    (tlook Tt 158 = some ⟨1, [.nilFunc], .scalar, 0⟩) ∧
    (tlook Tt 159 = some ⟨1, [.nilFunc], .scalar, 0⟩) ∧
    (tlook Tt 160 = some ⟨1, [.slice none 0 0], .sl 88 2 16 [.int .i64 0, .int .i64 0], 0⟩) ∧
    (tlook Tt 161 = some ⟨1, [.nilFunc], .scalar, 0⟩) ∧
    (tlook Tt 162 = some ⟨1, [.nilFunc], .scalar, 0⟩) ∧
    (tlook Tt 163 = some ⟨1, [.pointer none], .scalar, 0⟩) ∧
    (tlook Tt 164 = some ⟨4, [.slice none 0 0, .slice none 0 0, .int .i64 0, .slice none 0 0], .st [(0, 2), (2, 1), (3, 1)], 0⟩) ∧
    (tlook Tt 165 = some ⟨4, [.slice none 0 0, .slice none 0 0, .int .i64 0, .slice none 0 0], .st [(0, 2), (2, 1), (3, 1)], 0⟩) ∧
    (tlook Tt 166 = some ⟨1, [.nilFunc], .scalar, 0⟩) ∧
    (tlook Tt 167 = some ⟨1, [.nilFunc], .scalar, 0⟩) ∧
    (tlook Tt 168 = some ⟨1, [.nilFunc], .scalar, 0⟩) ∧
    (tlook Tt 169 = some ⟨1, [.nilFunc], .scalar, 0⟩) ∧
    (tlook Tt 170 = some ⟨4, [.slice none 0 0, .slice none 0 0, .int .i64 0, .slice none 0 0], .st [(0, 2), (2, 1), (3, 1)], 0⟩) ∧
    (tlook Tt 171 = some ⟨1, [.nilFunc], .scalar, 0⟩) ∧
    (tlook Tt 172 = some ⟨2, [.int .i64 0, .slice none 0 0], .st [(0, 1), (1, 1)], 0⟩) ∧
    (tlook Tt 173 = some ⟨2, [.int .i64 0, .slice none 0 0], .st [(0, 1), (1, 1)], 0⟩) ∧
    (tlook Tt 174 = some ⟨1, [.nilFunc], .scalar, 0⟩) ∧
    (tlook Tt 175 = some ⟨1, [.slice none 0 0], .sl 5 1 1 [.int .u8 0], 0⟩) ∧
    (tlook Tt 176 = some ⟨1, [.nilFunc], .scalar, 0⟩) ∧
    (tlook Tt 177 = some ⟨1, [.nilFunc], .scalar, 0⟩) ∧
    (tlook Tt 178 = some ⟨1, [.nilFunc], .scalar, 0⟩) ∧
    (tlook Tt 179 = some ⟨1, [.nilFunc], .scalar, 0⟩) ∧
    (tlook Tt 180 = some ⟨1, [.nilFunc], .scalar, 0⟩) ∧
    (tlook Tt 181 = some ⟨1, [.nilFunc], .scalar, 0⟩) ∧
    (tlook Tt 182 = some ⟨1, [.int .u64 0], .int .u64, 0⟩) ∧
    (tlook Tt 184 = some ⟨1, [.nilFunc], .scalar, 0⟩) ∧
    (tlook Tt 185 = some ⟨1, [.nilFunc], .scalar, 0⟩) ∧
    (tlook Tt 186 = some ⟨1, [.nilFunc], .scalar, 0⟩) ∧
    (tlook Tt 187 = some ⟨1, [.int .u64 0], .int .u64, 0⟩) ∧
    (tlook Tt 188 = some ⟨1, [.nilFunc], .scalar, 0⟩) ∧
    (tlook Tt 189 = some ⟨4, [.pointer none, .pointer none, .pointer none, .string ⟨#[]⟩], .st [(0, 1), (1, 1), (2, 1), (3, 1)], 0⟩) ∧
    (tlook Tt 190 = some ⟨4, [.pointer none, .pointer none, .pointer none, .string ⟨#[]⟩], .st [(0, 1), (1, 1), (2, 1), (3, 1)], 0⟩) ∧
    (tlook Tt 191 = some ⟨0, [], .arr 0 16 1, 0⟩) ∧
    (tlook Tt 194 = some ⟨1, [.int .u32 0], .int .u32, 0⟩) ∧
    (tlook Tt 195 = some ⟨1, [.int .u8 0], .int .u8, 0⟩) ∧
    (tlook Tt 196 = some ⟨1, [.int .u8 0], .int .u8, 0⟩) ∧
    (tlook Tt 197 = some ⟨1, [.nilFunc], .scalar, 0⟩) ∧
    (tlook Tt 198 = some ⟨1, [.pointer none], .scalar, 0⟩) ∧
    (tlook Tt 199 = some ⟨1, [.int .i32 0], .int .i32, 0⟩) ∧
    (tlook Tt 200 = some ⟨1, [.int .i32 0], .int .i32, 0⟩) ∧
    (tlook Tt 201 = some ⟨11, [.int .u64 0, .int .u64 0, .int .u32 0, .int .u8 0, .int .u8 0, .int .u8 0, .int .u8 0, .nilFunc, .pointer none, .int .i32 0, .int .i32 0], .st [(0, 1), (1, 1), (2, 1), (3, 1), (4, 1), (5, 1), (6, 1), (7, 1), (8, 1), (9, 1), (10, 1)], 0⟩) ∧
    (tlook Tt 202 = some ⟨11, [.int .u64 0, .int .u64 0, .int .u32 0, .int .u8 0, .int .u8 0, .int .u8 0, .int .u8 0, .nilFunc, .pointer none, .int .i32 0, .int .i32 0], .st [(0, 1), (1, 1), (2, 1), (3, 1), (4, 1), (5, 1), (6, 1), (7, 1), (8, 1), (9, 1), (10, 1)], 0⟩) :=
  ⟨rfl, rfl, rfl, rfl, rfl, rfl, rfl, rfl, rfl, rfl, rfl, rfl, rfl, rfl, rfl, rfl, rfl, rfl, rfl, rfl, rfl, rfl, rfl, rfl, rfl, rfl, rfl, rfl, rfl, rfl, rfl, rfl, rfl, rfl, rfl, rfl, rfl, rfl, rfl, rfl, rfl, rfl, rfl, rfl, rfl, rfl, rfl, rfl, rfl, rfl, rfl, rfl, rfl, rfl, rfl, rfl, rfl, rfl, rfl, rfl, rfl, rfl, rfl, rfl, rfl, rfl, rfl, rfl, rfl, rfl, rfl, rfl, rfl, rfl, rfl, rfl, rfl, rfl, rfl, rfl, rfl, rfl, rfl, rfl, rfl, rfl, rfl, rfl, rfl, rfl, rfl, rfl, rfl, rfl, rfl, rfl, rfl, rfl, rfl, rfl, rfl, rfl, rfl, rfl, rfl, rfl, rfl, rfl, rfl, rfl, rfl, rfl, rfl, rfl, rfl, rfl, rfl, rfl, rfl, rfl, rfl, rfl, rfl, rfl, rfl, rfl, rfl, rfl, rfl, rfl, rfl, rfl, rfl, rfl, rfl, rfl, rfl, rfl, rfl, rfl, rfl, rfl, rfl, rfl, rfl, rfl, rfl, rfl, rfl, rfl, rfl, rfl, rfl, rfl, rfl, rfl, rfl, rfl, rfl, rfl, rfl, rfl, rfl, rfl, rfl, rfl, rfl, rfl, rfl, rfl, rfl, rfl, rfl, rfl, rfl, rfl, rfl, rfl, rfl, rfl, rfl, rfl, rfl, rfl, rfl, rfl⟩
end Go.Proofs.Ytaagelngbbkllaa
