/-
  The executor's table of this program's types, proved. Written by gen_t.py.
-/
import Derived.Test.YtenohgpackcjbaaVLib
import Derived.Test.YtenohgpackcjbaaVTabA
import Derived.Test.YtenohgpackcjbaaProg
import Derived.KernelRfl
namespace Go.Proofs.Ytenohgpackcjbaa
open Go Go.Vx
set_option linter.unusedSimpArgs false
def Tt : Tab := [
  (1, ⟨1, [.nilFunc], .scalar, 0⟩),
  (2, ⟨1, [.int .i64 0], .int .i64, 0⟩),
  (3, ⟨1, [.int .i64 0], .int .i64, 0⟩),
  (4, ⟨1, [.bool false], .scalar, 0⟩),
  (5, ⟨1, [.int .u8 0], .int .u8, 0⟩),
  (6, ⟨1, [.int .u8 0], .int .u8, 0⟩),
  (7, ⟨4, [.int .i64 0, .int .i64 0, .bool false, .int .u8 0], .st [(0, 1), (1, 1), (2, 1), (3, 1)], 0⟩),
  (8, ⟨4, [.int .i64 0, .int .i64 0, .bool false, .int .u8 0], .st [(0, 1), (1, 1), (2, 1), (3, 1)], 0⟩),
  (9, ⟨1, [.string ⟨#[]⟩], .str, 0⟩),
  (10, ⟨1, [.string ⟨#[]⟩], .str, 0⟩),
  (11, ⟨1, [.string ⟨#[]⟩], .str, 0⟩),
  (12, ⟨1, [.int .u64 0], .int .u64, 0⟩),
  (13, ⟨2, [.string ⟨#[]⟩, .int .u64 0], .st [(0, 1), (1, 1)], 0⟩),
  (14, ⟨2, [.string ⟨#[]⟩, .int .u64 0], .st [(0, 1), (1, 1)], 0⟩),
  (15, ⟨1, [.pointer none], .scalar, 0⟩),
  (16, ⟨1, [.pointer none], .scalar, 0⟩),
  (17, ⟨1, [.pointer none], .scalar, 0⟩),
  (18, ⟨1, [.pointer none], .st [(0, 1)], 0⟩),
  (19, ⟨1, [.pointer none], .st [(0, 1)], 0⟩),
  (20, ⟨1, [.nilIface], .scalar, 0⟩),
  (21, ⟨1, [.int .i32 0], .int .i32, 0⟩),
  (22, ⟨1, [.slice none 0 0], .sl 93 2 32 [.int .i64 0, .slice none 0 0], 0⟩),
  (23, ⟨7, [.int .i64 0, .int .i64 0, .int .i64 0, .string ⟨#[]⟩, .string ⟨#[]⟩, .int .i64 0, .int .i64 0], .st [(0, 1), (1, 1), (2, 1), (3, 1), (4, 1), (5, 1), (6, 1)], 1000231⟩),
  (24, ⟨7, [.int .i64 0, .int .i64 0, .int .i64 0, .string ⟨#[]⟩, .string ⟨#[]⟩, .int .i64 0, .int .i64 0], .st [(0, 1), (1, 1), (2, 1), (3, 1), (4, 1), (5, 1), (6, 1)], 1000231⟩),
  (25, ⟨1, [.nilFunc], .scalar, 0⟩),
  (26, ⟨1, [.nilFunc], .scalar, 0⟩),
  (27, ⟨1, [.nilFunc], .scalar, 0⟩),
  (28, ⟨1, [.int .i64 0], .int .i64, 0⟩),
  (30, ⟨1, [.nilFunc], .scalar, 0⟩),
  (31, ⟨1, [.nilFunc], .scalar, 0⟩),
  (33, ⟨1, [.nilFunc], .scalar, 0⟩),
  (34, ⟨1, [.nilFunc], .scalar, 0⟩),
  (36, ⟨1, [.nilFunc], .scalar, 0⟩),
  (37, ⟨1, [.nilFunc], .scalar, 0⟩),
  (38, ⟨1, [.nilFunc], .scalar, 0⟩),
  (39, ⟨14, [.int .i64 0, .int .i64 0, .int .i64 0, .string ⟨#[]⟩, .string ⟨#[]⟩, .int .i64 0, .int .i64 0, .int .i64 0, .int .i64 0, .int .i64 0, .string ⟨#[]⟩, .string ⟨#[]⟩, .int .i64 0, .int .i64 0], .arr 2 24 7, 0⟩),
  (41, ⟨1, [.nilFunc], .scalar, 0⟩),
  (43, ⟨1, [.nilFunc], .scalar, 0⟩),
  (44, ⟨1, [.nilFunc], .scalar, 0⟩),
  (45, ⟨1, [.slice none 0 0], .sl 24 7 72 [.int .i64 0, .int .i64 0, .int .i64 0, .string ⟨#[]⟩, .string ⟨#[]⟩, .int .i64 0, .int .i64 0], 0⟩),
  (46, ⟨1, [.nilFunc], .scalar, 0⟩),
  (48, ⟨1, [.nilFunc], .scalar, 0⟩),
  (49, ⟨1, [.nilFunc], .scalar, 0⟩),
  (50, ⟨1, [.nilFunc], .scalar, 0⟩),
  (52, ⟨1, [.nilFunc], .scalar, 0⟩),
  (53, ⟨1, [.nilFunc], .scalar, 0⟩),
  (54, ⟨1, [.nilFunc], .scalar, 0⟩),
  (56, ⟨1, [.nilFunc], .scalar, 0⟩),
  (58, ⟨1, [.nilFunc], .scalar, 0⟩),
  (59, ⟨1, [.nilFunc], .scalar, 0⟩),
  (60, ⟨1, [.nilFunc], .scalar, 0⟩),
  (61, ⟨1, [.slice none 0 0], .sl 9 1 16 [.string ⟨#[]⟩], 0⟩),
  (62, ⟨1, [.slice none 0 0], .sl 3 1 8 [.int .i64 0], 0⟩),
  (63, ⟨1, [.slice none 0 0], .sl 100 2 16 [.int .i64 0, .int .i64 0], 0⟩),
  (64, ⟨2, [.slice none 0 0, .slice none 0 0], .st [(0, 1), (1, 1)], 0⟩),
  (65, ⟨2, [.slice none 0 0, .slice none 0 0], .st [(0, 1), (1, 1)], 0⟩),
  (66, ⟨1, [.nilFunc], .scalar, 0⟩),
  (68, ⟨1, [.nilFunc], .scalar, 0⟩),
  (69, ⟨1, [.nilFunc], .scalar, 0⟩),
  (70, ⟨1, [.nilFunc], .scalar, 0⟩),
  (71, ⟨1, [.nilFunc], .scalar, 0⟩),
  (72, ⟨1, [.nilFunc], .scalar, 0⟩),
  (73, ⟨1, [.nilFunc], .scalar, 0⟩),
  (74, ⟨1, [.nilFunc], .scalar, 0⟩),
  (76, ⟨1, [.nilFunc], .scalar, 0⟩),
  (78, ⟨1, [.nilFunc], .scalar, 0⟩),
  (79, ⟨1, [.nilFunc], .scalar, 0⟩),
  (81, ⟨1, [.nilFunc], .scalar, 0⟩),
  (82, ⟨1, [.nilFunc], .scalar, 0⟩),
  (83, ⟨1, [.nilFunc], .scalar, 0⟩),
  (84, ⟨2, [.int .i64 0, .int .i64 0], .arr 2 3 1, 2⟩),
  (86, ⟨1, [.nilFunc], .scalar, 0⟩),
  (88, ⟨1, [.nilFunc], .scalar, 0⟩),
  (89, ⟨1, [.nilFunc], .scalar, 0⟩),
  (90, ⟨1, [.nilFunc], .scalar, 0⟩),
  (91, ⟨1, [.nilFunc], .scalar, 0⟩),
  (92, ⟨2, [.int .i64 0, .slice none 0 0], .st [(0, 1), (1, 1)], 0⟩),
  (93, ⟨2, [.int .i64 0, .slice none 0 0], .st [(0, 1), (1, 1)], 0⟩),
  (94, ⟨1, [.nilFunc], .scalar, 0⟩),
  (95, ⟨1, [.nilFunc], .scalar, 0⟩),
  (96, ⟨1, [.slice none 0 0], .sl 84 2 16 [.int .i64 0, .int .i64 0], 0⟩),
  (98, ⟨1, [.nilFunc], .scalar, 0⟩),
  (99, ⟨2, [.int .i64 0, .int .i64 0], .st [(0, 1), (1, 1)], 2⟩),
  (100, ⟨2, [.int .i64 0, .int .i64 0], .st [(0, 1), (1, 1)], 2⟩),
  (101, ⟨1, [.nilFunc], .scalar, 0⟩),
  (102, ⟨1, [.nilFunc], .scalar, 0⟩),
  (103, ⟨1, [.nilFunc], .scalar, 0⟩),
  (104, ⟨1, [.nilFunc], .scalar, 0⟩),
  (105, ⟨1, [.nilFunc], .scalar, 0⟩),
  (106, ⟨1, [.nilFunc], .scalar, 0⟩),
  (107, ⟨1, [.nilFunc], .scalar, 0⟩),
  (109, ⟨1, [.nilFunc], .scalar, 0⟩),
  (110, ⟨1, [.nilFunc], .scalar, 0⟩),
  (111, ⟨1, [.nilFunc], .scalar, 0⟩),
  (112, ⟨2, [.slice none 0 0, .slice none 0 0], .st [(0, 1), (1, 1)], 0⟩),
  (113, ⟨2, [.slice none 0 0, .slice none 0 0], .st [(0, 1), (1, 1)], 0⟩),
  (114, ⟨1, [.nilFunc], .scalar, 0⟩),
  (115, ⟨1, [.nilFunc], .scalar, 0⟩),
  (116, ⟨1, [.nilFunc], .scalar, 0⟩),
  (117, ⟨1, [.nilFunc], .scalar, 0⟩),
  (118, ⟨1, [.nilFunc], .scalar, 0⟩),
  (119, ⟨1, [.pointer none], .scalar, 0⟩),
  (120, ⟨1, [.nilFunc], .scalar, 0⟩),
  (121, ⟨1, [.nilFunc], .scalar, 0⟩),
  (122, ⟨1, [.nilFunc], .scalar, 0⟩),
  (123, ⟨1, [.nilFunc], .scalar, 0⟩),
  (124, ⟨1, [.nilFunc], .scalar, 0⟩),
  (125, ⟨1, [.nilFunc], .scalar, 0⟩),
  (126, ⟨1, [.nilFunc], .scalar, 0⟩),
  (128, ⟨1, [.nilFunc], .scalar, 0⟩),
  (129, ⟨1, [.nilFunc], .scalar, 0⟩),
  (130, ⟨1, [.nilFunc], .scalar, 0⟩),
  (131, ⟨1, [.nilFunc], .scalar, 0⟩),
  (132, ⟨1, [.slice none 0 0], .sl 62 1 24 [.slice none 0 0], 0⟩),
  (133, ⟨1, [.nilFunc], .scalar, 0⟩),
  (134, ⟨1, [.nilFunc], .scalar, 0⟩),
  (135, ⟨4, [.string ⟨#[]⟩, .string ⟨#[]⟩, .int .i64 0, .int .i64 0], .st [(0, 1), (1, 1), (2, 1), (3, 1)], 1000028⟩),
  (136, ⟨4, [.string ⟨#[]⟩, .string ⟨#[]⟩, .int .i64 0, .int .i64 0], .st [(0, 1), (1, 1), (2, 1), (3, 1)], 1000028⟩),
  (137, ⟨1, [.nilFunc], .scalar, 0⟩),
  (138, ⟨1, [.nilFunc], .scalar, 0⟩),
  (139, ⟨1, [.slice none 0 0], .sl 61 1 24 [.slice none 0 0], 0⟩),
  (140, ⟨1, [.pointer none], .scalar, 0⟩),
  (141, ⟨2, [.pointer none, .pointer none], .st [(0, 1), (1, 1)], 0⟩),
  (142, ⟨2, [.pointer none, .pointer none], .st [(0, 1), (1, 1)], 0⟩),
  (143, ⟨1, [.nilFunc], .scalar, 0⟩),
  (144, ⟨1, [.slice none 0 0], .sl 45 1 24 [.slice none 0 0], 0⟩),
  (145, ⟨1, [.nilFunc], .scalar, 0⟩),
  (146, ⟨1, [.nilFunc], .scalar, 0⟩),
  (147, ⟨1, [.nilFunc], .scalar, 0⟩),
  (148, ⟨1, [.nilFunc], .scalar, 0⟩),
  (149, ⟨1, [.nilFunc], .scalar, 0⟩),
  (150, ⟨28, [.int .i64 0, .int .i64 0, .int .i64 0, .string ⟨#[]⟩, .string ⟨#[]⟩, .int .i64 0, .int .i64 0, .int .i64 0, .int .i64 0, .int .i64 0, .string ⟨#[]⟩, .string ⟨#[]⟩, .int .i64 0, .int .i64 0, .int .i64 0, .int .i64 0, .int .i64 0, .string ⟨#[]⟩, .string ⟨#[]⟩, .int .i64 0, .int .i64 0, .int .i64 0, .int .i64 0, .int .i64 0, .string ⟨#[]⟩, .string ⟨#[]⟩, .int .i64 0, .int .i64 0], .arr 2 39 14, 0⟩),
  (151, ⟨1, [.nilFunc], .scalar, 0⟩),
  (152, ⟨1, [.nilFunc], .scalar, 0⟩),
  (153, ⟨1, [.nilFunc], .scalar, 0⟩),
  (154, ⟨1, [.pointer none], .scalar, 0⟩),
  (155, ⟨1, [.map none], .mp (some .i64) (.int .i64 0), 0⟩),
  (156, ⟨1, [.nilFunc], .scalar, 0⟩),
  (157, ⟨1, [.nilFunc], .scalar, 0⟩),
  (158, ⟨1, [.nilFunc], .scalar, 0⟩),
  (159, ⟨1, [.nilFunc], .scalar, 0⟩),
  (160, ⟨1, [.nilFunc], .scalar, 0⟩),
  (161, ⟨1, [.slice none 0 0], .sl 5 1 1 [.int .u8 0], 0⟩),
  (162, ⟨1, [.nilFunc], .scalar, 0⟩),
  (163, ⟨1, [.nilFunc], .scalar, 0⟩),
  (164, ⟨1, [.nilFunc], .scalar, 0⟩),
  (165, ⟨2, [.int .i64 0, .int .i64 0], .st [(0, 1), (1, 1)], 2⟩),
  (166, ⟨2, [.int .i64 0, .int .i64 0], .st [(0, 1), (1, 1)], 2⟩),
  (167, ⟨1, [.nilFunc], .scalar, 0⟩),
  (168, ⟨1, [.nilFunc], .scalar, 0⟩),
  (169, ⟨1, [.nilFunc], .scalar, 0⟩),
  (170, ⟨1, [.nilFunc], .scalar, 0⟩),
  (171, ⟨1, [.nilFunc], .scalar, 0⟩),
  (172, ⟨1, [.nilFunc], .scalar, 0⟩),
  (173, ⟨1, [.nilFunc], .scalar, 0⟩),
  (174, ⟨4, [.pointer none, .pointer none, .pointer none, .string ⟨#[]⟩], .st [(0, 1), (1, 1), (2, 1), (3, 1)], 0⟩),
  (175, ⟨4, [.pointer none, .pointer none, .pointer none, .string ⟨#[]⟩], .st [(0, 1), (1, 1), (2, 1), (3, 1)], 0⟩),
  (176, ⟨0, [], .arr 0 16 1, 0⟩),
  (179, ⟨1, [.nilFunc], .scalar, 0⟩),
  (180, ⟨1, [.int .u32 0], .int .u32, 0⟩),
  (181, ⟨1, [.int .u8 0], .int .u8, 0⟩),
  (182, ⟨1, [.int .u8 0], .int .u8, 0⟩),
  (183, ⟨1, [.nilFunc], .scalar, 0⟩),
  (184, ⟨1, [.pointer none], .scalar, 0⟩),
  (185, ⟨1, [.int .i32 0], .int .i32, 0⟩),
  (186, ⟨1, [.int .i32 0], .int .i32, 0⟩),
  (187, ⟨11, [.int .u64 0, .int .u64 0, .int .u32 0, .int .u8 0, .int .u8 0, .int .u8 0, .int .u8 0, .nilFunc, .pointer none, .int .i32 0, .int .i32 0], .st [(0, 1), (1, 1), (2, 1), (3, 1), (4, 1), (5, 1), (6, 1), (7, 1), (8, 1), (9, 1), (10, 1)], 0⟩),
  (188, ⟨11, [.int .u64 0, .int .u64 0, .int .u32 0, .int .u8 0, .int .u8 0, .int .u8 0, .int .u8 0, .nilFunc, .pointer none, .int .i32 0, .int .i32 0], .st [(0, 1), (1, 1), (2, 1), (3, 1), (4, 1), (5, 1), (6, 1), (7, 1), (8, 1), (9, 1), (10, 1)], 0⟩)]
theorem tok1 : TIok Try.prog 1 ⟨1, [.nilFunc], .scalar, 0⟩ := TIok.scalar (z := .nilFunc) (by kernel_rfl) rfl Try.underlying1 (by simp) (by simp)
theorem tok2 : TIok Try.prog 2 ⟨1, [.int .i64 0], .int .i64, 0⟩ := TIok.int (by kernel_rfl) Try.underlying2
theorem tok3 : TIok Try.prog 3 ⟨1, [.int .i64 0], .int .i64, 0⟩ := TIok.int (by kernel_rfl) Try.underlying3
theorem tok4 : TIok Try.prog 4 ⟨1, [.bool false], .scalar, 0⟩ := TIok.scalar (z := .bool false) (by kernel_rfl) rfl Try.underlying4 (by simp) (by simp)
theorem tok5 : TIok Try.prog 5 ⟨1, [.int .u8 0], .int .u8, 0⟩ := TIok.int (by kernel_rfl) Try.underlying5
theorem tok6 : TIok Try.prog 6 ⟨1, [.int .u8 0], .int .u8, 0⟩ := TIok.int (by kernel_rfl) Try.underlying6
theorem tok7 : TIok Try.prog 7 ⟨4, [.int .i64 0, .int .i64 0, .bool false, .int .u8 0], .st [(0, 1), (1, 1), (2, 1), (3, 1)], 0⟩ := TIok.st (z := .agg #[.int .i64 0, .int .i64 0, .bool false, .int .u8 0]) (by kernel_rfl) rfl Try.underlying7 ⟨rfl, (by kernel_rfl), (by decide), rfl, (by kernel_rfl), (by decide), rfl, (by kernel_rfl), (by decide), rfl, (by kernel_rfl), (by decide), trivial⟩ (fun h => absurd rfl h) (fun h => absurd rfl h)
theorem tok8 : TIok Try.prog 8 ⟨4, [.int .i64 0, .int .i64 0, .bool false, .int .u8 0], .st [(0, 1), (1, 1), (2, 1), (3, 1)], 0⟩ := TIok.st (z := .agg #[.int .i64 0, .int .i64 0, .bool false, .int .u8 0]) (by kernel_rfl) rfl Try.underlying8 ⟨rfl, (by kernel_rfl), (by decide), rfl, (by kernel_rfl), (by decide), rfl, (by kernel_rfl), (by decide), rfl, (by kernel_rfl), (by decide), trivial⟩ (fun h => absurd rfl h) (fun h => absurd rfl h)
theorem tok9 : TIok Try.prog 9 ⟨1, [.string ⟨#[]⟩], .str, 0⟩ := TIok.str (by kernel_rfl) Try.underlying9
theorem tok10 : TIok Try.prog 10 ⟨1, [.string ⟨#[]⟩], .str, 0⟩ := TIok.str (by kernel_rfl) Try.underlying10
theorem tok11 : TIok Try.prog 11 ⟨1, [.string ⟨#[]⟩], .str, 0⟩ := TIok.str (by kernel_rfl) Try.underlying11
theorem tok12 : TIok Try.prog 12 ⟨1, [.int .u64 0], .int .u64, 0⟩ := TIok.int (by kernel_rfl) Try.underlying12
theorem tok13 : TIok Try.prog 13 ⟨2, [.string ⟨#[]⟩, .int .u64 0], .st [(0, 1), (1, 1)], 0⟩ := TIok.st (z := .agg #[.string ⟨#[]⟩, .int .u64 0]) (by kernel_rfl) rfl Try.underlying13 ⟨rfl, (by kernel_rfl), (by decide), rfl, (by kernel_rfl), (by decide), trivial⟩ (fun h => absurd rfl h) (fun h => absurd rfl h)
theorem tok14 : TIok Try.prog 14 ⟨2, [.string ⟨#[]⟩, .int .u64 0], .st [(0, 1), (1, 1)], 0⟩ := TIok.st (z := .agg #[.string ⟨#[]⟩, .int .u64 0]) (by kernel_rfl) rfl Try.underlying14 ⟨rfl, (by kernel_rfl), (by decide), rfl, (by kernel_rfl), (by decide), trivial⟩ (fun h => absurd rfl h) (fun h => absurd rfl h)
theorem tok15 : TIok Try.prog 15 ⟨1, [.pointer none], .scalar, 0⟩ := TIok.scalar (z := .pointer none) (by kernel_rfl) rfl Try.underlying15 (by simp) (by simp)
theorem tok16 : TIok Try.prog 16 ⟨1, [.pointer none], .scalar, 0⟩ := TIok.scalar (z := .pointer none) (by kernel_rfl) rfl Try.underlying16 (by simp) (by simp)
theorem tok17 : TIok Try.prog 17 ⟨1, [.pointer none], .scalar, 0⟩ := TIok.scalar (z := .pointer none) (by kernel_rfl) rfl Try.underlying17 (by simp) (by simp)
theorem tok18 : TIok Try.prog 18 ⟨1, [.pointer none], .st [(0, 1)], 0⟩ := TIok.st (z := .agg #[.pointer none]) (by kernel_rfl) rfl Try.underlying18 ⟨rfl, (by kernel_rfl), (by decide), trivial⟩ (fun h => absurd rfl h) (fun h => absurd rfl h)
theorem tok19 : TIok Try.prog 19 ⟨1, [.pointer none], .st [(0, 1)], 0⟩ := TIok.st (z := .agg #[.pointer none]) (by kernel_rfl) rfl Try.underlying19 ⟨rfl, (by kernel_rfl), (by decide), trivial⟩ (fun h => absurd rfl h) (fun h => absurd rfl h)
theorem tok20 : TIok Try.prog 20 ⟨1, [.nilIface], .scalar, 0⟩ := TIok.scalar (z := .nilIface) (by kernel_rfl) rfl Try.underlying20 (by simp) (by simp)
theorem tok21 : TIok Try.prog 21 ⟨1, [.int .i32 0], .int .i32, 0⟩ := TIok.int (by kernel_rfl) Try.underlying21
theorem tok22 : TIok Try.prog 22 ⟨1, [.slice none 0 0], .sl 93 2 32 [.int .i64 0, .slice none 0 0], 0⟩ := TIok.sl (z := .agg #[.int .i64 0, .slice none 0 0]) (by kernel_rfl) Try.underlying22 (by kernel_rfl) rfl (by decide) (by decide) rfl rfl
theorem tok23 : TIok Try.prog 23 ⟨7, [.int .i64 0, .int .i64 0, .int .i64 0, .string ⟨#[]⟩, .string ⟨#[]⟩, .int .i64 0, .int .i64 0], .st [(0, 1), (1, 1), (2, 1), (3, 1), (4, 1), (5, 1), (6, 1)], 1000231⟩ := TIok.st (z := .agg #[.int .i64 0, .int .i64 0, .int .i64 0, .string ⟨#[]⟩, .string ⟨#[]⟩, .int .i64 0, .int .i64 0]) (by kernel_rfl) rfl Try.underlying23 ⟨rfl, (by kernel_rfl), (by decide), rfl, (by kernel_rfl), (by decide), rfl, (by kernel_rfl), (by decide), rfl, (by kernel_rfl), (by decide), rfl, (by kernel_rfl), (by decide), rfl, (by kernel_rfl), (by decide), rfl, (by kernel_rfl), (by decide), trivial⟩ (fun _ => EqS.up (c := 231) (EqS.of Try.underlying23 Try.eqGuardType23 Try.stoodInHeld23 (by simp [flOk, Try.underlying3, Try.underlying9]))) (fun _ => ScOk.ofS (c := 231) Try.underlying23 (by simp [flOk, Try.underlying3, Try.underlying9]))
theorem tok24 : TIok Try.prog 24 ⟨7, [.int .i64 0, .int .i64 0, .int .i64 0, .string ⟨#[]⟩, .string ⟨#[]⟩, .int .i64 0, .int .i64 0], .st [(0, 1), (1, 1), (2, 1), (3, 1), (4, 1), (5, 1), (6, 1)], 1000231⟩ := TIok.st (z := .agg #[.int .i64 0, .int .i64 0, .int .i64 0, .string ⟨#[]⟩, .string ⟨#[]⟩, .int .i64 0, .int .i64 0]) (by kernel_rfl) rfl Try.underlying24 ⟨rfl, (by kernel_rfl), (by decide), rfl, (by kernel_rfl), (by decide), rfl, (by kernel_rfl), (by decide), rfl, (by kernel_rfl), (by decide), rfl, (by kernel_rfl), (by decide), rfl, (by kernel_rfl), (by decide), rfl, (by kernel_rfl), (by decide), trivial⟩ (fun _ => EqS.up (c := 231) (EqS.of Try.underlying24 Try.eqGuardType24 Try.stoodInHeld24 (by simp [flOk, Try.underlying3, Try.underlying9]))) (fun _ => ScOk.ofS (c := 231) Try.underlying24 (by simp [flOk, Try.underlying3, Try.underlying9]))
theorem tok25 : TIok Try.prog 25 ⟨1, [.nilFunc], .scalar, 0⟩ := TIok.scalar (z := .nilFunc) (by kernel_rfl) rfl Try.underlying25 (by simp) (by simp)
theorem tok26 : TIok Try.prog 26 ⟨1, [.nilFunc], .scalar, 0⟩ := TIok.scalar (z := .nilFunc) (by kernel_rfl) rfl Try.underlying26 (by simp) (by simp)
theorem tok27 : TIok Try.prog 27 ⟨1, [.nilFunc], .scalar, 0⟩ := TIok.scalar (z := .nilFunc) (by kernel_rfl) rfl Try.underlying27 (by simp) (by simp)
theorem tok28 : TIok Try.prog 28 ⟨1, [.int .i64 0], .int .i64, 0⟩ := TIok.int (by kernel_rfl) Try.underlying28
theorem tok30 : TIok Try.prog 30 ⟨1, [.nilFunc], .scalar, 0⟩ := TIok.scalar (z := .nilFunc) (by kernel_rfl) rfl Try.underlying30 (by simp) (by simp)
theorem tok31 : TIok Try.prog 31 ⟨1, [.nilFunc], .scalar, 0⟩ := TIok.scalar (z := .nilFunc) (by kernel_rfl) rfl Try.underlying31 (by simp) (by simp)
theorem tok33 : TIok Try.prog 33 ⟨1, [.nilFunc], .scalar, 0⟩ := TIok.scalar (z := .nilFunc) (by kernel_rfl) rfl Try.underlying33 (by simp) (by simp)
theorem tok34 : TIok Try.prog 34 ⟨1, [.nilFunc], .scalar, 0⟩ := TIok.scalar (z := .nilFunc) (by kernel_rfl) rfl Try.underlying34 (by simp) (by simp)
theorem tok36 : TIok Try.prog 36 ⟨1, [.nilFunc], .scalar, 0⟩ := TIok.scalar (z := .nilFunc) (by kernel_rfl) rfl Try.underlying36 (by simp) (by simp)
theorem tok37 : TIok Try.prog 37 ⟨1, [.nilFunc], .scalar, 0⟩ := TIok.scalar (z := .nilFunc) (by kernel_rfl) rfl Try.underlying37 (by simp) (by simp)
theorem tok38 : TIok Try.prog 38 ⟨1, [.nilFunc], .scalar, 0⟩ := TIok.scalar (z := .nilFunc) (by kernel_rfl) rfl Try.underlying38 (by simp) (by simp)
theorem tok39 : TIok Try.prog 39 ⟨14, [.int .i64 0, .int .i64 0, .int .i64 0, .string ⟨#[]⟩, .string ⟨#[]⟩, .int .i64 0, .int .i64 0, .int .i64 0, .int .i64 0, .int .i64 0, .string ⟨#[]⟩, .string ⟨#[]⟩, .int .i64 0, .int .i64 0], .arr 2 24 7, 0⟩ := TIok.arr (z := .agg #[.int .i64 0, .int .i64 0, .int .i64 0, .string ⟨#[]⟩, .string ⟨#[]⟩, .int .i64 0, .int .i64 0, .int .i64 0, .int .i64 0, .int .i64 0, .string ⟨#[]⟩, .string ⟨#[]⟩, .int .i64 0, .int .i64 0]) (by kernel_rfl) rfl Try.underlying39 (by kernel_rfl)
theorem tok41 : TIok Try.prog 41 ⟨1, [.nilFunc], .scalar, 0⟩ := TIok.scalar (z := .nilFunc) (by kernel_rfl) rfl Try.underlying41 (by simp) (by simp)
theorem tok43 : TIok Try.prog 43 ⟨1, [.nilFunc], .scalar, 0⟩ := TIok.scalar (z := .nilFunc) (by kernel_rfl) rfl Try.underlying43 (by simp) (by simp)
theorem tok44 : TIok Try.prog 44 ⟨1, [.nilFunc], .scalar, 0⟩ := TIok.scalar (z := .nilFunc) (by kernel_rfl) rfl Try.underlying44 (by simp) (by simp)
theorem tok45 : TIok Try.prog 45 ⟨1, [.slice none 0 0], .sl 24 7 72 [.int .i64 0, .int .i64 0, .int .i64 0, .string ⟨#[]⟩, .string ⟨#[]⟩, .int .i64 0, .int .i64 0], 0⟩ := TIok.sl (z := .agg #[.int .i64 0, .int .i64 0, .int .i64 0, .string ⟨#[]⟩, .string ⟨#[]⟩, .int .i64 0, .int .i64 0]) (by kernel_rfl) Try.underlying45 (by kernel_rfl) rfl (by decide) (by decide) rfl rfl
theorem tok46 : TIok Try.prog 46 ⟨1, [.nilFunc], .scalar, 0⟩ := TIok.scalar (z := .nilFunc) (by kernel_rfl) rfl Try.underlying46 (by simp) (by simp)
theorem tok48 : TIok Try.prog 48 ⟨1, [.nilFunc], .scalar, 0⟩ := TIok.scalar (z := .nilFunc) (by kernel_rfl) rfl Try.underlying48 (by simp) (by simp)
theorem tok49 : TIok Try.prog 49 ⟨1, [.nilFunc], .scalar, 0⟩ := TIok.scalar (z := .nilFunc) (by kernel_rfl) rfl Try.underlying49 (by simp) (by simp)
theorem tok50 : TIok Try.prog 50 ⟨1, [.nilFunc], .scalar, 0⟩ := TIok.scalar (z := .nilFunc) (by kernel_rfl) rfl Try.underlying50 (by simp) (by simp)
theorem tok52 : TIok Try.prog 52 ⟨1, [.nilFunc], .scalar, 0⟩ := TIok.scalar (z := .nilFunc) (by kernel_rfl) rfl Try.underlying52 (by simp) (by simp)
theorem tok53 : TIok Try.prog 53 ⟨1, [.nilFunc], .scalar, 0⟩ := TIok.scalar (z := .nilFunc) (by kernel_rfl) rfl Try.underlying53 (by simp) (by simp)
theorem tok54 : TIok Try.prog 54 ⟨1, [.nilFunc], .scalar, 0⟩ := TIok.scalar (z := .nilFunc) (by kernel_rfl) rfl Try.underlying54 (by simp) (by simp)
theorem tok56 : TIok Try.prog 56 ⟨1, [.nilFunc], .scalar, 0⟩ := TIok.scalar (z := .nilFunc) (by kernel_rfl) rfl Try.underlying56 (by simp) (by simp)
theorem tok58 : TIok Try.prog 58 ⟨1, [.nilFunc], .scalar, 0⟩ := TIok.scalar (z := .nilFunc) (by kernel_rfl) rfl Try.underlying58 (by simp) (by simp)
theorem tok59 : TIok Try.prog 59 ⟨1, [.nilFunc], .scalar, 0⟩ := TIok.scalar (z := .nilFunc) (by kernel_rfl) rfl Try.underlying59 (by simp) (by simp)
theorem tok60 : TIok Try.prog 60 ⟨1, [.nilFunc], .scalar, 0⟩ := TIok.scalar (z := .nilFunc) (by kernel_rfl) rfl Try.underlying60 (by simp) (by simp)
theorem tok61 : TIok Try.prog 61 ⟨1, [.slice none 0 0], .sl 9 1 16 [.string ⟨#[]⟩], 0⟩ := TIok.sl (z := .string ⟨#[]⟩) (by kernel_rfl) Try.underlying61 (by kernel_rfl) rfl (by decide) (by decide) rfl rfl
theorem tok62 : TIok Try.prog 62 ⟨1, [.slice none 0 0], .sl 3 1 8 [.int .i64 0], 0⟩ := TIok.sl (z := .int .i64 0) (by kernel_rfl) Try.underlying62 (by kernel_rfl) rfl (by decide) (by decide) rfl rfl
theorem tok63 : TIok Try.prog 63 ⟨1, [.slice none 0 0], .sl 100 2 16 [.int .i64 0, .int .i64 0], 0⟩ := TIok.sl (z := .agg #[.int .i64 0, .int .i64 0]) (by kernel_rfl) Try.underlying63 (by kernel_rfl) rfl (by decide) (by decide) rfl rfl
theorem tok64 : TIok Try.prog 64 ⟨2, [.slice none 0 0, .slice none 0 0], .st [(0, 1), (1, 1)], 0⟩ := TIok.st (z := .agg #[.slice none 0 0, .slice none 0 0]) (by kernel_rfl) rfl Try.underlying64 ⟨rfl, (by kernel_rfl), (by decide), rfl, (by kernel_rfl), (by decide), trivial⟩ (fun h => absurd rfl h) (fun h => absurd rfl h)
theorem tok65 : TIok Try.prog 65 ⟨2, [.slice none 0 0, .slice none 0 0], .st [(0, 1), (1, 1)], 0⟩ := TIok.st (z := .agg #[.slice none 0 0, .slice none 0 0]) (by kernel_rfl) rfl Try.underlying65 ⟨rfl, (by kernel_rfl), (by decide), rfl, (by kernel_rfl), (by decide), trivial⟩ (fun h => absurd rfl h) (fun h => absurd rfl h)
theorem tok66 : TIok Try.prog 66 ⟨1, [.nilFunc], .scalar, 0⟩ := TIok.scalar (z := .nilFunc) (by kernel_rfl) rfl Try.underlying66 (by simp) (by simp)
theorem tok68 : TIok Try.prog 68 ⟨1, [.nilFunc], .scalar, 0⟩ := TIok.scalar (z := .nilFunc) (by kernel_rfl) rfl Try.underlying68 (by simp) (by simp)
theorem tok69 : TIok Try.prog 69 ⟨1, [.nilFunc], .scalar, 0⟩ := TIok.scalar (z := .nilFunc) (by kernel_rfl) rfl Try.underlying69 (by simp) (by simp)
theorem tok70 : TIok Try.prog 70 ⟨1, [.nilFunc], .scalar, 0⟩ := TIok.scalar (z := .nilFunc) (by kernel_rfl) rfl Try.underlying70 (by simp) (by simp)
theorem tok71 : TIok Try.prog 71 ⟨1, [.nilFunc], .scalar, 0⟩ := TIok.scalar (z := .nilFunc) (by kernel_rfl) rfl Try.underlying71 (by simp) (by simp)
theorem tok72 : TIok Try.prog 72 ⟨1, [.nilFunc], .scalar, 0⟩ := TIok.scalar (z := .nilFunc) (by kernel_rfl) rfl Try.underlying72 (by simp) (by simp)
theorem tok73 : TIok Try.prog 73 ⟨1, [.nilFunc], .scalar, 0⟩ := TIok.scalar (z := .nilFunc) (by kernel_rfl) rfl Try.underlying73 (by simp) (by simp)
theorem tok74 : TIok Try.prog 74 ⟨1, [.nilFunc], .scalar, 0⟩ := TIok.scalar (z := .nilFunc) (by kernel_rfl) rfl Try.underlying74 (by simp) (by simp)
theorem tok76 : TIok Try.prog 76 ⟨1, [.nilFunc], .scalar, 0⟩ := TIok.scalar (z := .nilFunc) (by kernel_rfl) rfl Try.underlying76 (by simp) (by simp)
theorem tok78 : TIok Try.prog 78 ⟨1, [.nilFunc], .scalar, 0⟩ := TIok.scalar (z := .nilFunc) (by kernel_rfl) rfl Try.underlying78 (by simp) (by simp)
theorem tok79 : TIok Try.prog 79 ⟨1, [.nilFunc], .scalar, 0⟩ := TIok.scalar (z := .nilFunc) (by kernel_rfl) rfl Try.underlying79 (by simp) (by simp)
theorem tok81 : TIok Try.prog 81 ⟨1, [.nilFunc], .scalar, 0⟩ := TIok.scalar (z := .nilFunc) (by kernel_rfl) rfl Try.underlying81 (by simp) (by simp)
theorem tok82 : TIok Try.prog 82 ⟨1, [.nilFunc], .scalar, 0⟩ := TIok.scalar (z := .nilFunc) (by kernel_rfl) rfl Try.underlying82 (by simp) (by simp)
theorem tok83 : TIok Try.prog 83 ⟨1, [.nilFunc], .scalar, 0⟩ := TIok.scalar (z := .nilFunc) (by kernel_rfl) rfl Try.underlying83 (by simp) (by simp)
theorem tok84 : TIok Try.prog 84 ⟨2, [.int .i64 0, .int .i64 0], .arr 2 3 1, 2⟩ := TIok.arrE (z := .agg #[.int .i64 0, .int .i64 0]) (by kernel_rfl) rfl Try.underlying84 (by kernel_rfl) rfl Try.eqGuardType84 (PartEq.int Try.underlying3)
theorem tok86 : TIok Try.prog 86 ⟨1, [.nilFunc], .scalar, 0⟩ := TIok.scalar (z := .nilFunc) (by kernel_rfl) rfl Try.underlying86 (by simp) (by simp)
theorem tok88 : TIok Try.prog 88 ⟨1, [.nilFunc], .scalar, 0⟩ := TIok.scalar (z := .nilFunc) (by kernel_rfl) rfl Try.underlying88 (by simp) (by simp)
theorem tok89 : TIok Try.prog 89 ⟨1, [.nilFunc], .scalar, 0⟩ := TIok.scalar (z := .nilFunc) (by kernel_rfl) rfl Try.underlying89 (by simp) (by simp)
theorem tok90 : TIok Try.prog 90 ⟨1, [.nilFunc], .scalar, 0⟩ := TIok.scalar (z := .nilFunc) (by kernel_rfl) rfl Try.underlying90 (by simp) (by simp)
theorem tok91 : TIok Try.prog 91 ⟨1, [.nilFunc], .scalar, 0⟩ := TIok.scalar (z := .nilFunc) (by kernel_rfl) rfl Try.underlying91 (by simp) (by simp)
theorem tok92 : TIok Try.prog 92 ⟨2, [.int .i64 0, .slice none 0 0], .st [(0, 1), (1, 1)], 0⟩ := TIok.st (z := .agg #[.int .i64 0, .slice none 0 0]) (by kernel_rfl) rfl Try.underlying92 ⟨rfl, (by kernel_rfl), (by decide), rfl, (by kernel_rfl), (by decide), trivial⟩ (fun h => absurd rfl h) (fun h => absurd rfl h)
theorem tok93 : TIok Try.prog 93 ⟨2, [.int .i64 0, .slice none 0 0], .st [(0, 1), (1, 1)], 0⟩ := TIok.st (z := .agg #[.int .i64 0, .slice none 0 0]) (by kernel_rfl) rfl Try.underlying93 ⟨rfl, (by kernel_rfl), (by decide), rfl, (by kernel_rfl), (by decide), trivial⟩ (fun h => absurd rfl h) (fun h => absurd rfl h)
theorem tok94 : TIok Try.prog 94 ⟨1, [.nilFunc], .scalar, 0⟩ := TIok.scalar (z := .nilFunc) (by kernel_rfl) rfl Try.underlying94 (by simp) (by simp)
theorem tok95 : TIok Try.prog 95 ⟨1, [.nilFunc], .scalar, 0⟩ := TIok.scalar (z := .nilFunc) (by kernel_rfl) rfl Try.underlying95 (by simp) (by simp)
theorem tok96 : TIok Try.prog 96 ⟨1, [.slice none 0 0], .sl 84 2 16 [.int .i64 0, .int .i64 0], 0⟩ := TIok.sl (z := .agg #[.int .i64 0, .int .i64 0]) (by kernel_rfl) Try.underlying96 (by kernel_rfl) rfl (by decide) (by decide) rfl rfl
theorem tok98 : TIok Try.prog 98 ⟨1, [.nilFunc], .scalar, 0⟩ := TIok.scalar (z := .nilFunc) (by kernel_rfl) rfl Try.underlying98 (by simp) (by simp)
theorem tok99 : TIok Try.prog 99 ⟨2, [.int .i64 0, .int .i64 0], .st [(0, 1), (1, 1)], 2⟩ := TIok.st (z := .agg #[.int .i64 0, .int .i64 0]) (by kernel_rfl) rfl Try.underlying99 ⟨rfl, (by kernel_rfl), (by decide), rfl, (by kernel_rfl), (by decide), trivial⟩ (fun _ => EqOk.up (EqOk.of Try.underlying99 Try.eqGuardType99 Try.stoodInHeld99 (by simp [Try.underlying3]) rfl)) (fun _ => ScOk.of Try.underlying99 (by simp [Try.underlying3]))
theorem tok100 : TIok Try.prog 100 ⟨2, [.int .i64 0, .int .i64 0], .st [(0, 1), (1, 1)], 2⟩ := TIok.st (z := .agg #[.int .i64 0, .int .i64 0]) (by kernel_rfl) rfl Try.underlying100 ⟨rfl, (by kernel_rfl), (by decide), rfl, (by kernel_rfl), (by decide), trivial⟩ (fun _ => EqOk.up (EqOk.of Try.underlying100 Try.eqGuardType100 Try.stoodInHeld100 (by simp [Try.underlying3]) rfl)) (fun _ => ScOk.of Try.underlying100 (by simp [Try.underlying3]))
theorem tok101 : TIok Try.prog 101 ⟨1, [.nilFunc], .scalar, 0⟩ := TIok.scalar (z := .nilFunc) (by kernel_rfl) rfl Try.underlying101 (by simp) (by simp)
theorem tok102 : TIok Try.prog 102 ⟨1, [.nilFunc], .scalar, 0⟩ := TIok.scalar (z := .nilFunc) (by kernel_rfl) rfl Try.underlying102 (by simp) (by simp)
theorem tok103 : TIok Try.prog 103 ⟨1, [.nilFunc], .scalar, 0⟩ := TIok.scalar (z := .nilFunc) (by kernel_rfl) rfl Try.underlying103 (by simp) (by simp)
theorem tok104 : TIok Try.prog 104 ⟨1, [.nilFunc], .scalar, 0⟩ := TIok.scalar (z := .nilFunc) (by kernel_rfl) rfl Try.underlying104 (by simp) (by simp)
theorem tok105 : TIok Try.prog 105 ⟨1, [.nilFunc], .scalar, 0⟩ := TIok.scalar (z := .nilFunc) (by kernel_rfl) rfl Try.underlying105 (by simp) (by simp)
theorem tok106 : TIok Try.prog 106 ⟨1, [.nilFunc], .scalar, 0⟩ := TIok.scalar (z := .nilFunc) (by kernel_rfl) rfl Try.underlying106 (by simp) (by simp)
theorem tok107 : TIok Try.prog 107 ⟨1, [.nilFunc], .scalar, 0⟩ := TIok.scalar (z := .nilFunc) (by kernel_rfl) rfl Try.underlying107 (by simp) (by simp)
theorem tok109 : TIok Try.prog 109 ⟨1, [.nilFunc], .scalar, 0⟩ := TIok.scalar (z := .nilFunc) (by kernel_rfl) rfl Try.underlying109 (by simp) (by simp)
theorem tok110 : TIok Try.prog 110 ⟨1, [.nilFunc], .scalar, 0⟩ := TIok.scalar (z := .nilFunc) (by kernel_rfl) rfl Try.underlying110 (by simp) (by simp)
theorem tok111 : TIok Try.prog 111 ⟨1, [.nilFunc], .scalar, 0⟩ := TIok.scalar (z := .nilFunc) (by kernel_rfl) rfl Try.underlying111 (by simp) (by simp)
theorem tok112 : TIok Try.prog 112 ⟨2, [.slice none 0 0, .slice none 0 0], .st [(0, 1), (1, 1)], 0⟩ := TIok.st (z := .agg #[.slice none 0 0, .slice none 0 0]) (by kernel_rfl) rfl Try.underlying112 ⟨rfl, (by kernel_rfl), (by decide), rfl, (by kernel_rfl), (by decide), trivial⟩ (fun h => absurd rfl h) (fun h => absurd rfl h)
theorem tok113 : TIok Try.prog 113 ⟨2, [.slice none 0 0, .slice none 0 0], .st [(0, 1), (1, 1)], 0⟩ := TIok.st (z := .agg #[.slice none 0 0, .slice none 0 0]) (by kernel_rfl) rfl Try.underlying113 ⟨rfl, (by kernel_rfl), (by decide), rfl, (by kernel_rfl), (by decide), trivial⟩ (fun h => absurd rfl h) (fun h => absurd rfl h)
theorem tok114 : TIok Try.prog 114 ⟨1, [.nilFunc], .scalar, 0⟩ := TIok.scalar (z := .nilFunc) (by kernel_rfl) rfl Try.underlying114 (by simp) (by simp)
theorem tok115 : TIok Try.prog 115 ⟨1, [.nilFunc], .scalar, 0⟩ := TIok.scalar (z := .nilFunc) (by kernel_rfl) rfl Try.underlying115 (by simp) (by simp)
theorem tok116 : TIok Try.prog 116 ⟨1, [.nilFunc], .scalar, 0⟩ := TIok.scalar (z := .nilFunc) (by kernel_rfl) rfl Try.underlying116 (by simp) (by simp)
theorem tok117 : TIok Try.prog 117 ⟨1, [.nilFunc], .scalar, 0⟩ := TIok.scalar (z := .nilFunc) (by kernel_rfl) rfl Try.underlying117 (by simp) (by simp)
theorem tok118 : TIok Try.prog 118 ⟨1, [.nilFunc], .scalar, 0⟩ := TIok.scalar (z := .nilFunc) (by kernel_rfl) rfl Try.underlying118 (by simp) (by simp)
theorem tok119 : TIok Try.prog 119 ⟨1, [.pointer none], .scalar, 0⟩ := TIok.scalar (z := .pointer none) (by kernel_rfl) rfl Try.underlying119 (by simp) (by simp)
theorem tok120 : TIok Try.prog 120 ⟨1, [.nilFunc], .scalar, 0⟩ := TIok.scalar (z := .nilFunc) (by kernel_rfl) rfl Try.underlying120 (by simp) (by simp)
theorem tok121 : TIok Try.prog 121 ⟨1, [.nilFunc], .scalar, 0⟩ := TIok.scalar (z := .nilFunc) (by kernel_rfl) rfl Try.underlying121 (by simp) (by simp)
theorem tok122 : TIok Try.prog 122 ⟨1, [.nilFunc], .scalar, 0⟩ := TIok.scalar (z := .nilFunc) (by kernel_rfl) rfl Try.underlying122 (by simp) (by simp)
theorem tok123 : TIok Try.prog 123 ⟨1, [.nilFunc], .scalar, 0⟩ := TIok.scalar (z := .nilFunc) (by kernel_rfl) rfl Try.underlying123 (by simp) (by simp)
theorem tok124 : TIok Try.prog 124 ⟨1, [.nilFunc], .scalar, 0⟩ := TIok.scalar (z := .nilFunc) (by kernel_rfl) rfl Try.underlying124 (by simp) (by simp)
theorem tok125 : TIok Try.prog 125 ⟨1, [.nilFunc], .scalar, 0⟩ := TIok.scalar (z := .nilFunc) (by kernel_rfl) rfl Try.underlying125 (by simp) (by simp)
theorem tok126 : TIok Try.prog 126 ⟨1, [.nilFunc], .scalar, 0⟩ := TIok.scalar (z := .nilFunc) (by kernel_rfl) rfl Try.underlying126 (by simp) (by simp)
theorem tok128 : TIok Try.prog 128 ⟨1, [.nilFunc], .scalar, 0⟩ := TIok.scalar (z := .nilFunc) (by kernel_rfl) rfl Try.underlying128 (by simp) (by simp)
theorem tok129 : TIok Try.prog 129 ⟨1, [.nilFunc], .scalar, 0⟩ := TIok.scalar (z := .nilFunc) (by kernel_rfl) rfl Try.underlying129 (by simp) (by simp)
theorem tok130 : TIok Try.prog 130 ⟨1, [.nilFunc], .scalar, 0⟩ := TIok.scalar (z := .nilFunc) (by kernel_rfl) rfl Try.underlying130 (by simp) (by simp)
theorem tok131 : TIok Try.prog 131 ⟨1, [.nilFunc], .scalar, 0⟩ := TIok.scalar (z := .nilFunc) (by kernel_rfl) rfl Try.underlying131 (by simp) (by simp)
theorem tok132 : TIok Try.prog 132 ⟨1, [.slice none 0 0], .sl 62 1 24 [.slice none 0 0], 0⟩ := TIok.sl (z := .slice none 0 0) (by kernel_rfl) Try.underlying132 (by kernel_rfl) rfl (by decide) (by decide) rfl rfl
theorem tok133 : TIok Try.prog 133 ⟨1, [.nilFunc], .scalar, 0⟩ := TIok.scalar (z := .nilFunc) (by kernel_rfl) rfl Try.underlying133 (by simp) (by simp)
theorem tok134 : TIok Try.prog 134 ⟨1, [.nilFunc], .scalar, 0⟩ := TIok.scalar (z := .nilFunc) (by kernel_rfl) rfl Try.underlying134 (by simp) (by simp)
theorem tok135 : TIok Try.prog 135 ⟨4, [.string ⟨#[]⟩, .string ⟨#[]⟩, .int .i64 0, .int .i64 0], .st [(0, 1), (1, 1), (2, 1), (3, 1)], 1000028⟩ := TIok.st (z := .agg #[.string ⟨#[]⟩, .string ⟨#[]⟩, .int .i64 0, .int .i64 0]) (by kernel_rfl) rfl Try.underlying135 ⟨rfl, (by kernel_rfl), (by decide), rfl, (by kernel_rfl), (by decide), rfl, (by kernel_rfl), (by decide), rfl, (by kernel_rfl), (by decide), trivial⟩ (fun _ => EqS.up (c := 28) (EqS.of Try.underlying135 Try.eqGuardType135 Try.stoodInHeld135 (by simp [flOk, Try.underlying3, Try.underlying9]))) (fun _ => ScOk.ofS (c := 28) Try.underlying135 (by simp [flOk, Try.underlying3, Try.underlying9]))
theorem tok136 : TIok Try.prog 136 ⟨4, [.string ⟨#[]⟩, .string ⟨#[]⟩, .int .i64 0, .int .i64 0], .st [(0, 1), (1, 1), (2, 1), (3, 1)], 1000028⟩ := TIok.st (z := .agg #[.string ⟨#[]⟩, .string ⟨#[]⟩, .int .i64 0, .int .i64 0]) (by kernel_rfl) rfl Try.underlying136 ⟨rfl, (by kernel_rfl), (by decide), rfl, (by kernel_rfl), (by decide), rfl, (by kernel_rfl), (by decide), rfl, (by kernel_rfl), (by decide), trivial⟩ (fun _ => EqS.up (c := 28) (EqS.of Try.underlying136 Try.eqGuardType136 Try.stoodInHeld136 (by simp [flOk, Try.underlying3, Try.underlying9]))) (fun _ => ScOk.ofS (c := 28) Try.underlying136 (by simp [flOk, Try.underlying3, Try.underlying9]))
theorem tok137 : TIok Try.prog 137 ⟨1, [.nilFunc], .scalar, 0⟩ := TIok.scalar (z := .nilFunc) (by kernel_rfl) rfl Try.underlying137 (by simp) (by simp)
theorem tok138 : TIok Try.prog 138 ⟨1, [.nilFunc], .scalar, 0⟩ := TIok.scalar (z := .nilFunc) (by kernel_rfl) rfl Try.underlying138 (by simp) (by simp)
theorem tok139 : TIok Try.prog 139 ⟨1, [.slice none 0 0], .sl 61 1 24 [.slice none 0 0], 0⟩ := TIok.sl (z := .slice none 0 0) (by kernel_rfl) Try.underlying139 (by kernel_rfl) rfl (by decide) (by decide) rfl rfl
theorem tok140 : TIok Try.prog 140 ⟨1, [.pointer none], .scalar, 0⟩ := TIok.scalar (z := .pointer none) (by kernel_rfl) rfl Try.underlying140 (by simp) (by simp)
theorem tok141 : TIok Try.prog 141 ⟨2, [.pointer none, .pointer none], .st [(0, 1), (1, 1)], 0⟩ := TIok.st (z := .agg #[.pointer none, .pointer none]) (by kernel_rfl) rfl Try.underlying141 ⟨rfl, (by kernel_rfl), (by decide), rfl, (by kernel_rfl), (by decide), trivial⟩ (fun h => absurd rfl h) (fun h => absurd rfl h)
theorem tok142 : TIok Try.prog 142 ⟨2, [.pointer none, .pointer none], .st [(0, 1), (1, 1)], 0⟩ := TIok.st (z := .agg #[.pointer none, .pointer none]) (by kernel_rfl) rfl Try.underlying142 ⟨rfl, (by kernel_rfl), (by decide), rfl, (by kernel_rfl), (by decide), trivial⟩ (fun h => absurd rfl h) (fun h => absurd rfl h)
theorem tok143 : TIok Try.prog 143 ⟨1, [.nilFunc], .scalar, 0⟩ := TIok.scalar (z := .nilFunc) (by kernel_rfl) rfl Try.underlying143 (by simp) (by simp)
theorem tok144 : TIok Try.prog 144 ⟨1, [.slice none 0 0], .sl 45 1 24 [.slice none 0 0], 0⟩ := TIok.sl (z := .slice none 0 0) (by kernel_rfl) Try.underlying144 (by kernel_rfl) rfl (by decide) (by decide) rfl rfl
theorem tok145 : TIok Try.prog 145 ⟨1, [.nilFunc], .scalar, 0⟩ := TIok.scalar (z := .nilFunc) (by kernel_rfl) rfl Try.underlying145 (by simp) (by simp)
theorem tok146 : TIok Try.prog 146 ⟨1, [.nilFunc], .scalar, 0⟩ := TIok.scalar (z := .nilFunc) (by kernel_rfl) rfl Try.underlying146 (by simp) (by simp)
theorem tok147 : TIok Try.prog 147 ⟨1, [.nilFunc], .scalar, 0⟩ := TIok.scalar (z := .nilFunc) (by kernel_rfl) rfl Try.underlying147 (by simp) (by simp)
theorem tok148 : TIok Try.prog 148 ⟨1, [.nilFunc], .scalar, 0⟩ := TIok.scalar (z := .nilFunc) (by kernel_rfl) rfl Try.underlying148 (by simp) (by simp)
theorem tok149 : TIok Try.prog 149 ⟨1, [.nilFunc], .scalar, 0⟩ := TIok.scalar (z := .nilFunc) (by kernel_rfl) rfl Try.underlying149 (by simp) (by simp)
theorem tok150 : TIok Try.prog 150 ⟨28, [.int .i64 0, .int .i64 0, .int .i64 0, .string ⟨#[]⟩, .string ⟨#[]⟩, .int .i64 0, .int .i64 0, .int .i64 0, .int .i64 0, .int .i64 0, .string ⟨#[]⟩, .string ⟨#[]⟩, .int .i64 0, .int .i64 0, .int .i64 0, .int .i64 0, .int .i64 0, .string ⟨#[]⟩, .string ⟨#[]⟩, .int .i64 0, .int .i64 0, .int .i64 0, .int .i64 0, .int .i64 0, .string ⟨#[]⟩, .string ⟨#[]⟩, .int .i64 0, .int .i64 0], .arr 2 39 14, 0⟩ := TIok.arr (z := .agg #[.int .i64 0, .int .i64 0, .int .i64 0, .string ⟨#[]⟩, .string ⟨#[]⟩, .int .i64 0, .int .i64 0, .int .i64 0, .int .i64 0, .int .i64 0, .string ⟨#[]⟩, .string ⟨#[]⟩, .int .i64 0, .int .i64 0, .int .i64 0, .int .i64 0, .int .i64 0, .string ⟨#[]⟩, .string ⟨#[]⟩, .int .i64 0, .int .i64 0, .int .i64 0, .int .i64 0, .int .i64 0, .string ⟨#[]⟩, .string ⟨#[]⟩, .int .i64 0, .int .i64 0]) (by kernel_rfl) rfl Try.underlying150 (by kernel_rfl)
theorem tok151 : TIok Try.prog 151 ⟨1, [.nilFunc], .scalar, 0⟩ := TIok.scalar (z := .nilFunc) (by kernel_rfl) rfl Try.underlying151 (by simp) (by simp)
theorem tok152 : TIok Try.prog 152 ⟨1, [.nilFunc], .scalar, 0⟩ := TIok.scalar (z := .nilFunc) (by kernel_rfl) rfl Try.underlying152 (by simp) (by simp)
theorem tok153 : TIok Try.prog 153 ⟨1, [.nilFunc], .scalar, 0⟩ := TIok.scalar (z := .nilFunc) (by kernel_rfl) rfl Try.underlying153 (by simp) (by simp)
theorem tok154 : TIok Try.prog 154 ⟨1, [.pointer none], .scalar, 0⟩ := TIok.scalar (z := .pointer none) (by kernel_rfl) rfl Try.underlying154 (by simp) (by simp)
theorem tok155 : TIok Try.prog 155 ⟨1, [.map none], .mp (some .i64) (.int .i64 0), 0⟩ := TIok.mp (by kernel_rfl) Try.underlying155 Try.underlying3 (by kernel_rfl)
theorem tok156 : TIok Try.prog 156 ⟨1, [.nilFunc], .scalar, 0⟩ := TIok.scalar (z := .nilFunc) (by kernel_rfl) rfl Try.underlying156 (by simp) (by simp)
theorem tok157 : TIok Try.prog 157 ⟨1, [.nilFunc], .scalar, 0⟩ := TIok.scalar (z := .nilFunc) (by kernel_rfl) rfl Try.underlying157 (by simp) (by simp)
theorem tok158 : TIok Try.prog 158 ⟨1, [.nilFunc], .scalar, 0⟩ := TIok.scalar (z := .nilFunc) (by kernel_rfl) rfl Try.underlying158 (by simp) (by simp)
theorem tok159 : TIok Try.prog 159 ⟨1, [.nilFunc], .scalar, 0⟩ := TIok.scalar (z := .nilFunc) (by kernel_rfl) rfl Try.underlying159 (by simp) (by simp)
theorem tok160 : TIok Try.prog 160 ⟨1, [.nilFunc], .scalar, 0⟩ := TIok.scalar (z := .nilFunc) (by kernel_rfl) rfl Try.underlying160 (by simp) (by simp)
theorem tok161 : TIok Try.prog 161 ⟨1, [.slice none 0 0], .sl 5 1 1 [.int .u8 0], 0⟩ := TIok.sl (z := .int .u8 0) (by kernel_rfl) Try.underlying161 (by kernel_rfl) rfl (by decide) (by decide) rfl rfl
theorem tok162 : TIok Try.prog 162 ⟨1, [.nilFunc], .scalar, 0⟩ := TIok.scalar (z := .nilFunc) (by kernel_rfl) rfl Try.underlying162 (by simp) (by simp)
theorem tok163 : TIok Try.prog 163 ⟨1, [.nilFunc], .scalar, 0⟩ := TIok.scalar (z := .nilFunc) (by kernel_rfl) rfl Try.underlying163 (by simp) (by simp)
theorem tok164 : TIok Try.prog 164 ⟨1, [.nilFunc], .scalar, 0⟩ := TIok.scalar (z := .nilFunc) (by kernel_rfl) rfl Try.underlying164 (by simp) (by simp)
theorem tok165 : TIok Try.prog 165 ⟨2, [.int .i64 0, .int .i64 0], .st [(0, 1), (1, 1)], 2⟩ := TIok.st (z := .agg #[.int .i64 0, .int .i64 0]) (by kernel_rfl) rfl Try.underlying165 ⟨rfl, (by kernel_rfl), (by decide), rfl, (by kernel_rfl), (by decide), trivial⟩ (fun _ => EqOk.up (EqOk.of Try.underlying165 Try.eqGuardType165 Try.stoodInHeld165 (by simp [Try.underlying3]) rfl)) (fun _ => ScOk.of Try.underlying165 (by simp [Try.underlying3]))
theorem tok166 : TIok Try.prog 166 ⟨2, [.int .i64 0, .int .i64 0], .st [(0, 1), (1, 1)], 2⟩ := TIok.st (z := .agg #[.int .i64 0, .int .i64 0]) (by kernel_rfl) rfl Try.underlying166 ⟨rfl, (by kernel_rfl), (by decide), rfl, (by kernel_rfl), (by decide), trivial⟩ (fun _ => EqOk.up (EqOk.of Try.underlying166 Try.eqGuardType166 Try.stoodInHeld166 (by simp [Try.underlying3]) rfl)) (fun _ => ScOk.of Try.underlying166 (by simp [Try.underlying3]))
theorem tok167 : TIok Try.prog 167 ⟨1, [.nilFunc], .scalar, 0⟩ := TIok.scalar (z := .nilFunc) (by kernel_rfl) rfl Try.underlying167 (by simp) (by simp)
theorem tok168 : TIok Try.prog 168 ⟨1, [.nilFunc], .scalar, 0⟩ := TIok.scalar (z := .nilFunc) (by kernel_rfl) rfl Try.underlying168 (by simp) (by simp)
theorem tok169 : TIok Try.prog 169 ⟨1, [.nilFunc], .scalar, 0⟩ := TIok.scalar (z := .nilFunc) (by kernel_rfl) rfl Try.underlying169 (by simp) (by simp)
theorem tok170 : TIok Try.prog 170 ⟨1, [.nilFunc], .scalar, 0⟩ := TIok.scalar (z := .nilFunc) (by kernel_rfl) rfl Try.underlying170 (by simp) (by simp)
theorem tok171 : TIok Try.prog 171 ⟨1, [.nilFunc], .scalar, 0⟩ := TIok.scalar (z := .nilFunc) (by kernel_rfl) rfl Try.underlying171 (by simp) (by simp)
theorem tok172 : TIok Try.prog 172 ⟨1, [.nilFunc], .scalar, 0⟩ := TIok.scalar (z := .nilFunc) (by kernel_rfl) rfl Try.underlying172 (by simp) (by simp)
theorem tok173 : TIok Try.prog 173 ⟨1, [.nilFunc], .scalar, 0⟩ := TIok.scalar (z := .nilFunc) (by kernel_rfl) rfl Try.underlying173 (by simp) (by simp)
theorem tok174 : TIok Try.prog 174 ⟨4, [.pointer none, .pointer none, .pointer none, .string ⟨#[]⟩], .st [(0, 1), (1, 1), (2, 1), (3, 1)], 0⟩ := TIok.st (z := .agg #[.pointer none, .pointer none, .pointer none, .string ⟨#[]⟩]) (by kernel_rfl) rfl Try.underlying174 ⟨rfl, (by kernel_rfl), (by decide), rfl, (by kernel_rfl), (by decide), rfl, (by kernel_rfl), (by decide), rfl, (by kernel_rfl), (by decide), trivial⟩ (fun h => absurd rfl h) (fun h => absurd rfl h)
theorem tok175 : TIok Try.prog 175 ⟨4, [.pointer none, .pointer none, .pointer none, .string ⟨#[]⟩], .st [(0, 1), (1, 1), (2, 1), (3, 1)], 0⟩ := TIok.st (z := .agg #[.pointer none, .pointer none, .pointer none, .string ⟨#[]⟩]) (by kernel_rfl) rfl Try.underlying175 ⟨rfl, (by kernel_rfl), (by decide), rfl, (by kernel_rfl), (by decide), rfl, (by kernel_rfl), (by decide), rfl, (by kernel_rfl), (by decide), trivial⟩ (fun h => absurd rfl h) (fun h => absurd rfl h)
theorem tok176 : TIok Try.prog 176 ⟨0, [], .arr 0 16 1, 0⟩ := TIok.arr (z := .agg #[]) (by kernel_rfl) rfl Try.underlying176 (by kernel_rfl)
theorem tok179 : TIok Try.prog 179 ⟨1, [.nilFunc], .scalar, 0⟩ := TIok.scalar (z := .nilFunc) (by kernel_rfl) rfl Try.underlying179 (by simp) (by simp)
theorem tok180 : TIok Try.prog 180 ⟨1, [.int .u32 0], .int .u32, 0⟩ := TIok.int (by kernel_rfl) Try.underlying180
theorem tok181 : TIok Try.prog 181 ⟨1, [.int .u8 0], .int .u8, 0⟩ := TIok.int (by kernel_rfl) Try.underlying181
theorem tok182 : TIok Try.prog 182 ⟨1, [.int .u8 0], .int .u8, 0⟩ := TIok.int (by kernel_rfl) Try.underlying182
theorem tok183 : TIok Try.prog 183 ⟨1, [.nilFunc], .scalar, 0⟩ := TIok.scalar (z := .nilFunc) (by kernel_rfl) rfl Try.underlying183 (by simp) (by simp)
theorem tok184 : TIok Try.prog 184 ⟨1, [.pointer none], .scalar, 0⟩ := TIok.scalar (z := .pointer none) (by kernel_rfl) rfl Try.underlying184 (by simp) (by simp)
theorem tok185 : TIok Try.prog 185 ⟨1, [.int .i32 0], .int .i32, 0⟩ := TIok.int (by kernel_rfl) Try.underlying185
theorem tok186 : TIok Try.prog 186 ⟨1, [.int .i32 0], .int .i32, 0⟩ := TIok.int (by kernel_rfl) Try.underlying186
theorem tok187 : TIok Try.prog 187 ⟨11, [.int .u64 0, .int .u64 0, .int .u32 0, .int .u8 0, .int .u8 0, .int .u8 0, .int .u8 0, .nilFunc, .pointer none, .int .i32 0, .int .i32 0], .st [(0, 1), (1, 1), (2, 1), (3, 1), (4, 1), (5, 1), (6, 1), (7, 1), (8, 1), (9, 1), (10, 1)], 0⟩ := TIok.st (z := .agg #[.int .u64 0, .int .u64 0, .int .u32 0, .int .u8 0, .int .u8 0, .int .u8 0, .int .u8 0, .nilFunc, .pointer none, .int .i32 0, .int .i32 0]) (by kernel_rfl) rfl Try.underlying187 ⟨rfl, (by kernel_rfl), (by decide), rfl, (by kernel_rfl), (by decide), rfl, (by kernel_rfl), (by decide), rfl, (by kernel_rfl), (by decide), rfl, (by kernel_rfl), (by decide), rfl, (by kernel_rfl), (by decide), rfl, (by kernel_rfl), (by decide), rfl, (by kernel_rfl), (by decide), rfl, (by kernel_rfl), (by decide), rfl, (by kernel_rfl), (by decide), rfl, (by kernel_rfl), (by decide), trivial⟩ (fun h => absurd rfl h) (fun h => absurd rfl h)
theorem tok188 : TIok Try.prog 188 ⟨11, [.int .u64 0, .int .u64 0, .int .u32 0, .int .u8 0, .int .u8 0, .int .u8 0, .int .u8 0, .nilFunc, .pointer none, .int .i32 0, .int .i32 0], .st [(0, 1), (1, 1), (2, 1), (3, 1), (4, 1), (5, 1), (6, 1), (7, 1), (8, 1), (9, 1), (10, 1)], 0⟩ := TIok.st (z := .agg #[.int .u64 0, .int .u64 0, .int .u32 0, .int .u8 0, .int .u8 0, .int .u8 0, .int .u8 0, .nilFunc, .pointer none, .int .i32 0, .int .i32 0]) (by kernel_rfl) rfl Try.underlying188 ⟨rfl, (by kernel_rfl), (by decide), rfl, (by kernel_rfl), (by decide), rfl, (by kernel_rfl), (by decide), rfl, (by kernel_rfl), (by decide), rfl, (by kernel_rfl), (by decide), rfl, (by kernel_rfl), (by decide), rfl, (by kernel_rfl), (by decide), rfl, (by kernel_rfl), (by decide), rfl, (by kernel_rfl), (by decide), rfl, (by kernel_rfl), (by decide), rfl, (by kernel_rfl), (by decide), trivial⟩ (fun h => absurd rfl h) (fun h => absurd rfl h)
set_option maxRecDepth 20000 in
theorem Tok : TabOk Try.prog Tt :=
  TabOk.cons tok1 <| TabOk.cons tok2 <| TabOk.cons tok3 <| TabOk.cons tok4 <| TabOk.cons tok5 <| TabOk.cons tok6 <| TabOk.cons tok7 <| TabOk.cons tok8 <| TabOk.cons tok9 <| TabOk.cons tok10 <| TabOk.cons tok11 <| TabOk.cons tok12 <| TabOk.cons tok13 <| TabOk.cons tok14 <| TabOk.cons tok15 <| TabOk.cons tok16 <| TabOk.cons tok17 <| TabOk.cons tok18 <| TabOk.cons tok19 <| TabOk.cons tok20 <| TabOk.cons tok21 <| TabOk.cons tok22 <| TabOk.cons tok23 <| TabOk.cons tok24 <| TabOk.cons tok25 <| TabOk.cons tok26 <| TabOk.cons tok27 <| TabOk.cons tok28 <| TabOk.cons tok30 <| TabOk.cons tok31 <| TabOk.cons tok33 <| TabOk.cons tok34 <| TabOk.cons tok36 <| TabOk.cons tok37 <| TabOk.cons tok38 <| TabOk.cons tok39 <| TabOk.cons tok41 <| TabOk.cons tok43 <| TabOk.cons tok44 <| TabOk.cons tok45 <| TabOk.cons tok46 <| TabOk.cons tok48 <| TabOk.cons tok49 <| TabOk.cons tok50 <| TabOk.cons tok52 <| TabOk.cons tok53 <| TabOk.cons tok54 <| TabOk.cons tok56 <| TabOk.cons tok58 <| TabOk.cons tok59 <| TabOk.cons tok60 <| TabOk.cons tok61 <| TabOk.cons tok62 <| TabOk.cons tok63 <| TabOk.cons tok64 <| TabOk.cons tok65 <| TabOk.cons tok66 <| TabOk.cons tok68 <| TabOk.cons tok69 <| TabOk.cons tok70 <| TabOk.cons tok71 <| TabOk.cons tok72 <| TabOk.cons tok73 <| TabOk.cons tok74 <| TabOk.cons tok76 <| TabOk.cons tok78 <| TabOk.cons tok79 <| TabOk.cons tok81 <| TabOk.cons tok82 <| TabOk.cons tok83 <| TabOk.cons tok84 <| TabOk.cons tok86 <| TabOk.cons tok88 <| TabOk.cons tok89 <| TabOk.cons tok90 <| TabOk.cons tok91 <| TabOk.cons tok92 <| TabOk.cons tok93 <| TabOk.cons tok94 <| TabOk.cons tok95 <| TabOk.cons tok96 <| TabOk.cons tok98 <| TabOk.cons tok99 <| TabOk.cons tok100 <| TabOk.cons tok101 <| TabOk.cons tok102 <| TabOk.cons tok103 <| TabOk.cons tok104 <| TabOk.cons tok105 <| TabOk.cons tok106 <| TabOk.cons tok107 <| TabOk.cons tok109 <| TabOk.cons tok110 <| TabOk.cons tok111 <| TabOk.cons tok112 <| TabOk.cons tok113 <| TabOk.cons tok114 <| TabOk.cons tok115 <| TabOk.cons tok116 <| TabOk.cons tok117 <| TabOk.cons tok118 <| TabOk.cons tok119 <| TabOk.cons tok120 <| TabOk.cons tok121 <| TabOk.cons tok122 <| TabOk.cons tok123 <| TabOk.cons tok124 <| TabOk.cons tok125 <| TabOk.cons tok126 <| TabOk.cons tok128 <| TabOk.cons tok129 <| TabOk.cons tok130 <| TabOk.cons tok131 <| TabOk.cons tok132 <| TabOk.cons tok133 <| TabOk.cons tok134 <| TabOk.cons tok135 <| TabOk.cons tok136 <| TabOk.cons tok137 <| TabOk.cons tok138 <| TabOk.cons tok139 <| TabOk.cons tok140 <| TabOk.cons tok141 <| TabOk.cons tok142 <| TabOk.cons tok143 <| TabOk.cons tok144 <| TabOk.cons tok145 <| TabOk.cons tok146 <| TabOk.cons tok147 <| TabOk.cons tok148 <| TabOk.cons tok149 <| TabOk.cons tok150 <| TabOk.cons tok151 <| TabOk.cons tok152 <| TabOk.cons tok153 <| TabOk.cons tok154 <| TabOk.cons tok155 <| TabOk.cons tok156 <| TabOk.cons tok157 <| TabOk.cons tok158 <| TabOk.cons tok159 <| TabOk.cons tok160 <| TabOk.cons tok161 <| TabOk.cons tok162 <| TabOk.cons tok163 <| TabOk.cons tok164 <| TabOk.cons tok165 <| TabOk.cons tok166 <| TabOk.cons tok167 <| TabOk.cons tok168 <| TabOk.cons tok169 <| TabOk.cons tok170 <| TabOk.cons tok171 <| TabOk.cons tok172 <| TabOk.cons tok173 <| TabOk.cons tok174 <| TabOk.cons tok175 <| TabOk.cons tok176 <| TabOk.cons tok179 <| TabOk.cons tok180 <| TabOk.cons tok181 <| TabOk.cons tok182 <| TabOk.cons tok183 <| TabOk.cons tok184 <| TabOk.cons tok185 <| TabOk.cons tok186 <| TabOk.cons tok187 <| TabOk.cons tok188 <| TabOk.nil
set_option maxRecDepth 20000 in
theorem tys :
    (tlook Tt 1 = some ⟨1, [.nilFunc], .scalar, 0⟩) ∧
    (tlook Tt 2 = some ⟨1, [.int .i64 0], .int .i64, 0⟩) ∧
    (tlook Tt 3 = some ⟨1, [.int .i64 0], .int .i64, 0⟩) ∧
    (tlook Tt 4 = some ⟨1, [.bool false], .scalar, 0⟩) ∧
    (tlook Tt 5 = some ⟨1, [.int .u8 0], .int .u8, 0⟩) ∧
    (tlook Tt 6 = some ⟨1, [.int .u8 0], .int .u8, 0⟩) ∧
    (tlook Tt 7 = some ⟨4, [.int .i64 0, .int .i64 0, .bool false, .int .u8 0], .st [(0, 1), (1, 1), (2, 1), (3, 1)], 0⟩) ∧
    (tlook Tt 8 = some ⟨4, [.int .i64 0, .int .i64 0, .bool false, .int .u8 0], .st [(0, 1), (1, 1), (2, 1), (3, 1)], 0⟩) ∧
    (tlook Tt 9 = some ⟨1, [.string ⟨#[]⟩], .str, 0⟩) ∧
    (tlook Tt 10 = some ⟨1, [.string ⟨#[]⟩], .str, 0⟩) ∧
    (tlook Tt 11 = some ⟨1, [.string ⟨#[]⟩], .str, 0⟩) ∧
    (tlook Tt 12 = some ⟨1, [.int .u64 0], .int .u64, 0⟩) ∧
    (tlook Tt 13 = some ⟨2, [.string ⟨#[]⟩, .int .u64 0], .st [(0, 1), (1, 1)], 0⟩) ∧
    (tlook Tt 14 = some ⟨2, [.string ⟨#[]⟩, .int .u64 0], .st [(0, 1), (1, 1)], 0⟩) ∧
    (tlook Tt 15 = some ⟨1, [.pointer none], .scalar, 0⟩) ∧
    (tlook Tt 16 = some ⟨1, [.pointer none], .scalar, 0⟩) ∧
    (tlook Tt 17 = some ⟨1, [.pointer none], .scalar, 0⟩) ∧
    (tlook Tt 18 = some ⟨1, [.pointer none], .st [(0, 1)], 0⟩) ∧
    (tlook Tt 19 = some ⟨1, [.pointer none], .st [(0, 1)], 0⟩) ∧
    (tlook Tt 20 = some ⟨1, [.nilIface], .scalar, 0⟩) ∧
    (tlook Tt 21 = some ⟨1, [.int .i32 0], .int .i32, 0⟩) ∧
    (tlook Tt 22 = some ⟨1, [.slice none 0 0], .sl 93 2 32 [.int .i64 0, .slice none 0 0], 0⟩) ∧
    (tlook Tt 23 = some ⟨7, [.int .i64 0, .int .i64 0, .int .i64 0, .string ⟨#[]⟩, .string ⟨#[]⟩, .int .i64 0, .int .i64 0], .st [(0, 1), (1, 1), (2, 1), (3, 1), (4, 1), (5, 1), (6, 1)], 1000231⟩) ∧
    (tlook Tt 24 = some ⟨7, [.int .i64 0, .int .i64 0, .int .i64 0, .string ⟨#[]⟩, .string ⟨#[]⟩, .int .i64 0, .int .i64 0], .st [(0, 1), (1, 1), (2, 1), (3, 1), (4, 1), (5, 1), (6, 1)], 1000231⟩) ∧
    (tlook Tt 25 = some ⟨1, [.nilFunc], .scalar, 0⟩) ∧
    (tlook Tt 26 = some ⟨1, [.nilFunc], .scalar, 0⟩) ∧
    (tlook Tt 27 = some ⟨1, [.nilFunc], .scalar, 0⟩) ∧
    (tlook Tt 28 = some ⟨1, [.int .i64 0], .int .i64, 0⟩) ∧
    (tlook Tt 30 = some ⟨1, [.nilFunc], .scalar, 0⟩) ∧
    (tlook Tt 31 = some ⟨1, [.nilFunc], .scalar, 0⟩) ∧
    (tlook Tt 33 = some ⟨1, [.nilFunc], .scalar, 0⟩) ∧
    (tlook Tt 34 = some ⟨1, [.nilFunc], .scalar, 0⟩) ∧
    (tlook Tt 36 = some ⟨1, [.nilFunc], .scalar, 0⟩) ∧
    (tlook Tt 37 = some ⟨1, [.nilFunc], .scalar, 0⟩) ∧
    (tlook Tt 38 = some ⟨1, [.nilFunc], .scalar, 0⟩) ∧
    (tlook Tt 39 = some ⟨14, [.int .i64 0, .int .i64 0, .int .i64 0, .string ⟨#[]⟩, .string ⟨#[]⟩, .int .i64 0, .int .i64 0, .int .i64 0, .int .i64 0, .int .i64 0, .string ⟨#[]⟩, .string ⟨#[]⟩, .int .i64 0, .int .i64 0], .arr 2 24 7, 0⟩) ∧
    (tlook Tt 41 = some ⟨1, [.nilFunc], .scalar, 0⟩) ∧
    (tlook Tt 43 = some ⟨1, [.nilFunc], .scalar, 0⟩) ∧
    (tlook Tt 44 = some ⟨1, [.nilFunc], .scalar, 0⟩) ∧
    (tlook Tt 45 = some ⟨1, [.slice none 0 0], .sl 24 7 72 [.int .i64 0, .int .i64 0, .int .i64 0, .string ⟨#[]⟩, .string ⟨#[]⟩, .int .i64 0, .int .i64 0], 0⟩) ∧
    (tlook Tt 46 = some ⟨1, [.nilFunc], .scalar, 0⟩) ∧
    (tlook Tt 48 = some ⟨1, [.nilFunc], .scalar, 0⟩) ∧
    (tlook Tt 49 = some ⟨1, [.nilFunc], .scalar, 0⟩) ∧
    (tlook Tt 50 = some ⟨1, [.nilFunc], .scalar, 0⟩) ∧
    (tlook Tt 52 = some ⟨1, [.nilFunc], .scalar, 0⟩) ∧
    (tlook Tt 53 = some ⟨1, [.nilFunc], .scalar, 0⟩) ∧
    (tlook Tt 54 = some ⟨1, [.nilFunc], .scalar, 0⟩) ∧
    (tlook Tt 56 = some ⟨1, [.nilFunc], .scalar, 0⟩) ∧
    (tlook Tt 58 = some ⟨1, [.nilFunc], .scalar, 0⟩) ∧
    (tlook Tt 59 = some ⟨1, [.nilFunc], .scalar, 0⟩) ∧
    (tlook Tt 60 = some ⟨1, [.nilFunc], .scalar, 0⟩) ∧
    (tlook Tt 61 = some ⟨1, [.slice none 0 0], .sl 9 1 16 [.string ⟨#[]⟩], 0⟩) ∧
    (tlook Tt 62 = some ⟨1, [.slice none 0 0], .sl 3 1 8 [.int .i64 0], 0⟩) ∧
    (tlook Tt 63 = some ⟨1, [.slice none 0 0], .sl 100 2 16 [.int .i64 0, .int .i64 0], 0⟩) ∧
    (tlook Tt 64 = some ⟨2, [.slice none 0 0, .slice none 0 0], .st [(0, 1), (1, 1)], 0⟩) ∧
    (tlook Tt 65 = some ⟨2, [.slice none 0 0, .slice none 0 0], .st [(0, 1), (1, 1)], 0⟩) ∧
    (tlook Tt 66 = some ⟨1, [.nilFunc], .scalar, 0⟩) ∧
    (tlook Tt 68 = some ⟨1, [.nilFunc], .scalar, 0⟩) ∧
    (tlook Tt 69 = some ⟨1, [.nilFunc], .scalar, 0⟩) ∧
    (tlook Tt 70 = some ⟨1, [.nilFunc], .scalar, 0⟩) ∧
    (tlook Tt 71 = some ⟨1, [.nilFunc], .scalar, 0⟩) ∧
    (tlook Tt 72 = some ⟨1, [.nilFunc], .scalar, 0⟩) ∧
    (tlook Tt 73 = some ⟨1, [.nilFunc], .scalar, 0⟩) ∧
    (tlook Tt 74 = some ⟨1, [.nilFunc], .scalar, 0⟩) ∧
    (tlook Tt 76 = some ⟨1, [.nilFunc], .scalar, 0⟩) ∧
    (tlook Tt 78 = some ⟨1, [.nilFunc], .scalar, 0⟩) ∧
    (tlook Tt 79 = some ⟨1, [.nilFunc], .scalar, 0⟩) ∧
    (tlook Tt 81 = some ⟨1, [.nilFunc], .scalar, 0⟩) ∧
    (tlook Tt 82 = some ⟨1, [.nilFunc], .scalar, 0⟩) ∧
    (tlook Tt 83 = some ⟨1, [.nilFunc], .scalar, 0⟩) ∧
    (tlook Tt 84 = some ⟨2, [.int .i64 0, .int .i64 0], .arr 2 3 1, 2⟩) ∧
    (tlook Tt 86 = some ⟨1, [.nilFunc], .scalar, 0⟩) ∧
    (tlook Tt 88 = some ⟨1, [.nilFunc], .scalar, 0⟩) ∧
    (tlook Tt 89 = some ⟨1, [.nilFunc], .scalar, 0⟩) ∧
    (tlook Tt 90 = some ⟨1, [.nilFunc], .scalar, 0⟩) ∧
    (tlook Tt 91 = some ⟨1, [.nilFunc], .scalar, 0⟩) ∧
    (tlook Tt 92 = some ⟨2, [.int .i64 0, .slice none 0 0], .st [(0, 1), (1, 1)], 0⟩) ∧
    (tlook Tt 93 = some ⟨2, [.int .i64 0, .slice none 0 0], .st [(0, 1), (1, 1)], 0⟩) ∧
    (tlook Tt 94 = some ⟨1, [.nilFunc], .scalar, 0⟩) ∧
    (tlook Tt 95 = some ⟨1, [.nilFunc], .scalar, 0⟩) ∧
    (tlook Tt 96 = some ⟨1, [.slice none 0 0], .sl 84 2 16 [.int .i64 0, .int .i64 0], 0⟩) ∧
    (tlook Tt 98 = some ⟨1, [.nilFunc], .scalar, 0⟩) ∧
    (tlook Tt 99 = some ⟨2, [.int .i64 0, .int .i64 0], .st [(0, 1), (1, 1)], 2⟩) ∧
    (tlook Tt 100 = some ⟨2, [.int .i64 0, .int .i64 0], .st [(0, 1), (1, 1)], 2⟩) ∧
    (tlook Tt 101 = some ⟨1, [.nilFunc], .scalar, 0⟩) ∧
    (tlook Tt 102 = some ⟨1, [.nilFunc], .scalar, 0⟩) ∧
    (tlook Tt 103 = some ⟨1, [.nilFunc], .scalar, 0⟩) ∧
    (tlook Tt 104 = some ⟨1, [.nilFunc], .scalar, 0⟩) ∧
    (tlook Tt 105 = some ⟨1, [.nilFunc], .scalar, 0⟩) ∧
    (tlook Tt 106 = some ⟨1, [.nilFunc], .scalar, 0⟩) ∧
    (tlook Tt 107 = some ⟨1, [.nilFunc], .scalar, 0⟩) ∧
    (tlook Tt 109 = some ⟨1, [.nilFunc], .scalar, 0⟩) ∧
    (tlook Tt 110 = some ⟨1, [.nilFunc], .scalar, 0⟩) ∧
    (tlook Tt 111 = some ⟨1, [.nilFunc], .scalar, 0⟩) ∧
    (tlook Tt 112 = some ⟨2, [.slice none 0 0, .slice none 0 0], .st [(0, 1), (1, 1)], 0⟩) ∧
    (tlook Tt 113 = some ⟨2, [.slice none 0 0, .slice none 0 0], .st [(0, 1), (1, 1)], 0⟩) ∧
    (tlook Tt 114 = some ⟨1, [.nilFunc], .scalar, 0⟩) ∧
    (tlook Tt 115 = some ⟨1, [.nilFunc], .scalar, 0⟩) ∧
    (tlook Tt 116 = some ⟨1, [.nilFunc], .scalar, 0⟩) ∧
    (tlook Tt 117 = some ⟨1, [.nilFunc], .scalar, 0⟩) ∧
    (tlook Tt 118 = some ⟨1, [.nilFunc], .scalar, 0⟩) ∧
    (tlook Tt 119 = some ⟨1, [.pointer none], .scalar, 0⟩) ∧
    (tlook Tt 120 = some ⟨1, [.nilFunc], .scalar, 0⟩) ∧
    (tlook Tt 121 = some ⟨1, [.nilFunc], .scalar, 0⟩) ∧
    (tlook Tt 122 = some ⟨1, [.nilFunc], .scalar, 0⟩) ∧
    (tlook Tt 123 = some ⟨1, [.nilFunc], .scalar, 0⟩) ∧
    (tlook Tt 124 = some ⟨1, [.nilFunc], .scalar, 0⟩) ∧
    (tlook Tt 125 = some ⟨1, [.nilFunc], .scalar, 0⟩) ∧
    (tlook Tt 126 = some ⟨1, [.nilFunc], .scalar, 0⟩) ∧
    (tlook Tt 128 = some ⟨1, [.nilFunc], .scalar, 0⟩) ∧
    (tlook Tt 129 = some ⟨1, [.nilFunc], .scalar, 0⟩) ∧
    (tlook Tt 130 = some ⟨1, [.nilFunc], .scalar, 0⟩) ∧
    (tlook Tt 131 = some ⟨1, [.nilFunc], .scalar, 0⟩) ∧
    (tlook Tt 132 = some ⟨1, [.slice none 0 0], .sl 62 1 24 [.slice none 0 0], 0⟩) ∧
    (tlook Tt 133 = some ⟨1, [.nilFunc], .scalar, 0⟩) ∧
    (tlook Tt 134 = some ⟨1, [.nilFunc], .scalar, 0⟩) ∧
    (tlook Tt 135 = some ⟨4, [.string ⟨#[]⟩, .string ⟨#[]⟩, .int .i64 0, .int .i64 0], .st [(0, 1), (1, 1), (2, 1), (3, 1)], 1000028⟩) ∧
    (tlook Tt 136 = some ⟨4, [.string ⟨#[]⟩, .string ⟨#[]⟩, .int .i64 0, .int .i64 0], .st [(0, 1), (1, 1), (2, 1), (3, 1)], 1000028⟩) ∧
    (tlook Tt 137 = some ⟨1, [.nilFunc], .scalar, 0⟩) ∧
    (tlook Tt 138 = some ⟨1, [.nilFunc], .scalar, 0⟩) ∧
    (tlook Tt 139 = some ⟨1, [.slice none 0 0], .sl 61 1 24 [.slice none 0 0], 0⟩) ∧
    (tlook Tt 140 = some ⟨1, [.pointer none], .scalar, 0⟩) ∧
    (tlook Tt 141 = some ⟨2, [.pointer none, .pointer none], .st [(0, 1), (1, 1)], 0⟩) ∧
    (tlook Tt 142 = some ⟨2, [.pointer none, .pointer none], .st [(0, 1), (1, 1)], 0⟩) ∧
    (tlook Tt 143 = some ⟨1, [.nilFunc], .scalar, 0⟩) ∧
    (tlook Tt 144 = some ⟨1, [.slice none 0 0], .sl 45 1 24 [.slice none 0 0], 0⟩) ∧
    (tlook Tt 145 = some ⟨1, [.nilFunc], .scalar, 0⟩) ∧
    (tlook Tt 146 = some ⟨1, [.nilFunc], .scalar, 0⟩) ∧
    (tlook Tt 147 = some ⟨1, [.nilFunc], .scalar, 0⟩) ∧
    (tlook Tt 148 = some ⟨1, [.nilFunc], .scalar, 0⟩) ∧
    (tlook Tt 149 = some ⟨1, [.nilFunc], .scalar, 0⟩) ∧
    (tlook Tt 150 = some ⟨28, [.int .i64 0, .int .i64 0, .int .i64 0, .string ⟨#[]⟩, .string ⟨#[]⟩, .int .i64 0, .int .i64 0, .int .i64 0, .int .i64 0, .int .i64 0, .string ⟨#[]⟩, .string ⟨#[]⟩, .int .i64 0, .int .i64 0, .int .i64 0, .int .i64 0, .int .i64 0, .string ⟨#[]⟩, .string ⟨#[]⟩, .int .i64 0, .int .i64 0, .int .i64 0, .int .i64 0, .int .i64 0, .string ⟨#[]⟩, .string ⟨#[]⟩, .int .i64 0, .int .i64 0], .arr 2 39 14, 0⟩) ∧
    (tlook Tt 151 = some ⟨1, [.nilFunc], .scalar, 0⟩) ∧
    (tlook Tt 152 = some ⟨1, [.nilFunc], .scalar, 0⟩) ∧
    (tlook Tt 153 = some ⟨1, [.nilFunc], .scalar, 0⟩) ∧
    (tlook Tt 154 = some ⟨1, [.pointer none], .scalar, 0⟩) ∧
    (tlook Tt 155 = some ⟨1, [.map none], .mp (some .i64) (.int .i64 0), 0⟩) ∧
    (tlook Tt 156 = some ⟨1, [.nilFunc], .scalar, 0⟩) ∧
    (tlook Tt 157 = some ⟨1, [.nilFunc], .scalar, 0⟩) ∧
    (tlook Tt 158 = some ⟨1, [.nilFunc], .scalar, 0⟩) ∧
    (tlook Tt 159 = some ⟨1, [.nilFunc], .scalar, 0⟩) ∧
    (tlook Tt 160 = some ⟨1, [.nilFunc], .scalar, 0⟩) ∧
    (tlook Tt 161 = some ⟨1, [.slice none 0 0], .sl 5 1 1 [.int .u8 0], 0⟩) ∧
    (tlook Tt 162 = some ⟨1, [.nilFunc], .scalar, 0⟩) ∧
    (tlook Tt 163 = some ⟨1, [.nilFunc], .scalar, 0⟩) ∧
    (tlook Tt 164 = some ⟨1, [.nilFunc], .scalar, 0⟩) ∧
    (tlook Tt 165 = some ⟨2, [.int .i64 0, .int .i64 0], .st [(0, 1), (1, 1)], 2⟩) ∧
    (tlook Tt 166 = some ⟨2, [.int .i64 0, .int .i64 0], .st [(0, 1), (1, 1)], 2⟩) ∧
    (tlook Tt 167 = some ⟨1, [.nilFunc], .scalar, 0⟩) ∧
    (tlook Tt 168 = some ⟨1, [.nilFunc], .scalar, 0⟩) ∧
    (tlook Tt 169 = some ⟨1, [.nilFunc], .scalar, 0⟩) ∧
    (tlook Tt 170 = some ⟨1, [.nilFunc], .scalar, 0⟩) ∧
    (tlook Tt 171 = some ⟨1, [.nilFunc], .scalar, 0⟩) ∧
    (tlook Tt 172 = some ⟨1, [.nilFunc], .scalar, 0⟩) ∧
    (tlook Tt 173 = some ⟨1, [.nilFunc], .scalar, 0⟩) ∧
    (tlook Tt 174 = some ⟨4, [.pointer none, .pointer none, .pointer none, .string ⟨#[]⟩], .st [(0, 1), (1, 1), (2, 1), (3, 1)], 0⟩) ∧
    (tlook Tt 175 = some ⟨4, [.pointer none, .pointer none, .pointer none, .string ⟨#[]⟩], .st [(0, 1), (1, 1), (2, 1), (3, 1)], 0⟩) ∧
    (tlook Tt 176 = some ⟨0, [], .arr 0 16 1, 0⟩) ∧
    (tlook Tt 179 = some ⟨1, [.nilFunc], .scalar, 0⟩) ∧
    (tlook Tt 180 = some ⟨1, [.int .u32 0], .int .u32, 0⟩) ∧
    (tlook Tt 181 = some ⟨1, [.int .u8 0], .int .u8, 0⟩) ∧
    (tlook Tt 182 = some ⟨1, [.int .u8 0], .int .u8, 0⟩) ∧
    (tlook Tt 183 = some ⟨1, [.nilFunc], .scalar, 0⟩) ∧
    (tlook Tt 184 = some ⟨1, [.pointer none], .scalar, 0⟩) ∧
    (tlook Tt 185 = some ⟨1, [.int .i32 0], .int .i32, 0⟩) ∧
    (tlook Tt 186 = some ⟨1, [.int .i32 0], .int .i32, 0⟩) ∧
    (tlook Tt 187 = some ⟨11, [.int .u64 0, .int .u64 0, .int .u32 0, .int .u8 0, .int .u8 0, .int .u8 0, .int .u8 0, .nilFunc, .pointer none, .int .i32 0, .int .i32 0], .st [(0, 1), (1, 1), (2, 1), (3, 1), (4, 1), (5, 1), (6, 1), (7, 1), (8, 1), (9, 1), (10, 1)], 0⟩) ∧
    (tlook Tt 188 = some ⟨11, [.int .u64 0, .int .u64 0, .int .u32 0, .int .u8 0, .int .u8 0, .int .u8 0, .int .u8 0, .nilFunc, .pointer none, .int .i32 0, .int .i32 0], .st [(0, 1), (1, 1), (2, 1), (3, 1), (4, 1), (5, 1), (6, 1), (7, 1), (8, 1), (9, 1), (10, 1)], 0⟩) :=
  ⟨rfl, rfl, rfl, rfl, rfl, rfl, rfl, rfl, rfl, rfl, rfl, rfl, rfl, rfl, rfl, rfl, rfl, rfl, rfl, rfl, rfl, rfl, rfl, rfl, rfl, rfl, rfl, rfl, rfl, rfl, rfl, rfl, rfl, rfl, rfl, rfl, rfl, rfl, rfl, rfl, rfl, rfl, rfl, rfl, rfl, rfl, rfl, rfl, rfl, rfl, rfl, rfl, rfl, rfl, rfl, rfl, rfl, rfl, rfl, rfl, rfl, rfl, rfl, rfl, rfl, rfl, rfl, rfl, rfl, rfl, rfl, rfl, rfl, rfl, rfl, rfl, rfl, rfl, rfl, rfl, rfl, rfl, rfl, rfl, rfl, rfl, rfl, rfl, rfl, rfl, rfl, rfl, rfl, rfl, rfl, rfl, rfl, rfl, rfl, rfl, rfl, rfl, rfl, rfl, rfl, rfl, rfl, rfl, rfl, rfl, rfl, rfl, rfl, rfl, rfl, rfl, rfl, rfl, rfl, rfl, rfl, rfl, rfl, rfl, rfl, rfl, rfl, rfl, rfl, rfl, rfl, rfl, rfl, rfl, rfl, rfl, rfl, rfl, rfl, rfl, rfl, rfl, rfl, rfl, rfl, rfl, rfl, rfl, rfl, rfl, rfl, rfl, rfl, rfl, rfl, rfl, rfl, rfl, rfl, rfl, rfl, rfl, rfl, rfl, rfl, rfl, rfl, rfl⟩
end Go.Proofs.Ytenohgpackcjbaa
