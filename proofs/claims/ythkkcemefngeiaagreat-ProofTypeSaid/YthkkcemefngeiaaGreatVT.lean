/-
  The executor's table of this program's types, proved. Written by gen_t.py.
-/
import Derived.Test.YthkkcemefngeiaaGreatVLib
import Derived.Test.YthkkcemefngeiaaGreatVTabA
import Derived.Test.YthkkcemefngeiaaGreatProg
import Derived.KernelRfl
namespace Go.Proofs.YthkkcemefngeiaaGreat
open Go Go.Vx
set_option linter.unusedSimpArgs false
def Tt : Tab := [
  (1, ⟨1, [.nilFunc], .scalar, 0⟩),
  (2, ⟨1, [.int .i64 0], .int .i64, 0⟩),
  (3, ⟨1, [.int .i64 0], .int .i64, 0⟩),
  (4, ⟨1, [.bool false], .scalar, 0⟩),
  (5, ⟨1, [.int .u8 0], .int .u8, 0⟩),
  (6, ⟨1, [.int .u8 0], .int .u8, 0⟩),
  (7, ⟨4, [.int .i64 0, .int .i64 0, .bool false, .int .u8 0], .st [(0, 1), (1, 1), (2, 1), (3, 1)], 0⟩),
  (8, ⟨4, [.int .i64 0, .int .i64 0, .bool false, .int .u8 0], .st [(0, 1), (1, 1), (2, 1), (3, 1)], 0⟩),
  (9, ⟨1, [.string ⟨#[]⟩], .str, 0⟩),
  (10, ⟨1, [.string ⟨#[]⟩], .str, 0⟩),
  (11, ⟨1, [.string ⟨#[]⟩], .str, 0⟩),
  (12, ⟨1, [.int .u64 0], .int .u64, 0⟩),
  (13, ⟨2, [.string ⟨#[]⟩, .int .u64 0], .st [(0, 1), (1, 1)], 0⟩),
  (14, ⟨2, [.string ⟨#[]⟩, .int .u64 0], .st [(0, 1), (1, 1)], 0⟩),
  (15, ⟨1, [.pointer none], .scalar, 0⟩),
  (16, ⟨1, [.pointer none], .scalar, 0⟩),
  (17, ⟨1, [.pointer none], .scalar, 0⟩),
  (18, ⟨1, [.pointer none], .st [(0, 1)], 0⟩),
  (19, ⟨1, [.pointer none], .st [(0, 1)], 0⟩),
  (20, ⟨1, [.nilIface], .scalar, 0⟩),
  (21, ⟨1, [.int .i32 0], .int .i32, 0⟩),
  (22, ⟨1, [.slice none 0 0], .sl 65 2 32 [.int .i64 0, .slice none 0 0], 0⟩),
  (23, ⟨1, [.slice none 0 0], .sl 3 1 8 [.int .i64 0], 0⟩),
  (24, ⟨4, [.slice none 0 0, .slice none 0 0, .slice none 0 0, .slice none 0 0], .st [(0, 1), (1, 1), (2, 1), (3, 1)], 0⟩),
  (25, ⟨4, [.slice none 0 0, .slice none 0 0, .slice none 0 0, .slice none 0 0], .st [(0, 1), (1, 1), (2, 1), (3, 1)], 0⟩),
  (26, ⟨1, [.nilFunc], .scalar, 0⟩),
  (27, ⟨1, [.nilFunc], .scalar, 0⟩),
  (28, ⟨1, [.nilFunc], .scalar, 0⟩),
  (29, ⟨2, [.slice none 0 0, .slice none 0 0], .arr 2 23 1, 0⟩),
  (30, ⟨1, [.int .i64 0], .int .i64, 0⟩),
  (32, ⟨1, [.nilFunc], .scalar, 0⟩),
  (33, ⟨1, [.nilFunc], .scalar, 0⟩),
  (34, ⟨1, [.slice none 0 0], .sl 37 2 16 [.int .i64 0, .int .i64 0], 0⟩),
  (36, ⟨1, [.nilFunc], .scalar, 0⟩),
  (37, ⟨2, [.int .i64 0, .int .i64 0], .arr 2 3 1, 2⟩),
  (39, ⟨1, [.nilFunc], .scalar, 0⟩),
  (40, ⟨1, [.nilFunc], .scalar, 0⟩),
  (42, ⟨1, [.nilFunc], .scalar, 0⟩),
  (44, ⟨1, [.nilFunc], .scalar, 0⟩),
  (45, ⟨1, [.nilFunc], .scalar, 0⟩),
  (46, ⟨1, [.nilFunc], .scalar, 0⟩),
  (47, ⟨1, [.nilFunc], .scalar, 0⟩),
  (48, ⟨1, [.nilFunc], .scalar, 0⟩),
  (49, ⟨7, [.int .i64 0, .int .i64 0, .int .i64 0, .string ⟨#[]⟩, .string ⟨#[]⟩, .int .i64 0, .int .i64 0], .st [(0, 1), (1, 1), (2, 1), (3, 1), (4, 1), (5, 1), (6, 1)], 1000231⟩),
  (50, ⟨7, [.int .i64 0, .int .i64 0, .int .i64 0, .string ⟨#[]⟩, .string ⟨#[]⟩, .int .i64 0, .int .i64 0], .st [(0, 1), (1, 1), (2, 1), (3, 1), (4, 1), (5, 1), (6, 1)], 1000231⟩),
  (52, ⟨1, [.nilFunc], .scalar, 0⟩),
  (53, ⟨1, [.nilFunc], .scalar, 0⟩),
  (54, ⟨14, [.int .i64 0, .int .i64 0, .int .i64 0, .string ⟨#[]⟩, .string ⟨#[]⟩, .int .i64 0, .int .i64 0, .int .i64 0, .int .i64 0, .int .i64 0, .string ⟨#[]⟩, .string ⟨#[]⟩, .int .i64 0, .int .i64 0], .arr 2 50 7, 0⟩),
  (56, ⟨1, [.nilFunc], .scalar, 0⟩),
  (58, ⟨1, [.nilFunc], .scalar, 0⟩),
  (59, ⟨1, [.slice none 0 0], .sl 9 1 16 [.string ⟨#[]⟩], 0⟩),
  (60, ⟨2, [.int .i64 0, .int .i64 0], .st [(0, 1), (1, 1)], 2⟩),
  (61, ⟨2, [.int .i64 0, .int .i64 0], .st [(0, 1), (1, 1)], 2⟩),
  (62, ⟨1, [.slice none 0 0], .sl 61 2 16 [.int .i64 0, .int .i64 0], 0⟩),
  (63, ⟨1, [.nilFunc], .scalar, 0⟩),
  (64, ⟨2, [.int .i64 0, .slice none 0 0], .st [(0, 1), (1, 1)], 0⟩),
  (65, ⟨2, [.int .i64 0, .slice none 0 0], .st [(0, 1), (1, 1)], 0⟩),
  (66, ⟨1, [.nilFunc], .scalar, 0⟩),
  (67, ⟨1, [.nilFunc], .scalar, 0⟩),
  (68, ⟨1, [.nilFunc], .scalar, 0⟩),
  (69, ⟨1, [.slice none 0 0], .sl 23 1 24 [.slice none 0 0], 0⟩),
  (70, ⟨1, [.nilFunc], .scalar, 0⟩),
  (71, ⟨2, [.slice none 0 0, .slice none 0 0], .arr 2 22 1, 0⟩),
  (72, ⟨1, [.nilFunc], .scalar, 0⟩),
  (73, ⟨1, [.nilFunc], .scalar, 0⟩),
  (74, ⟨1, [.nilFunc], .scalar, 0⟩),
  (75, ⟨1, [.nilFunc], .scalar, 0⟩),
  (76, ⟨1, [.nilFunc], .scalar, 0⟩),
  (77, ⟨1, [.nilFunc], .scalar, 0⟩),
  (78, ⟨1, [.nilFunc], .scalar, 0⟩),
  (79, ⟨1, [.nilFunc], .scalar, 0⟩),
  (80, ⟨1, [.pointer none], .scalar, 0⟩),
  (81, ⟨1, [.map none], .mp (some .i64) (.int .i64 0), 0⟩),
  (82, ⟨1, [.nilFunc], .scalar, 0⟩),
  (83, ⟨1, [.nilFunc], .scalar, 0⟩),
  (84, ⟨1, [.nilFunc], .scalar, 0⟩),
  (85, ⟨1, [.nilFunc], .scalar, 0⟩),
  (86, ⟨1, [.nilFunc], .scalar, 0⟩),
  (87, ⟨1, [.nilFunc], .scalar, 0⟩),
  (88, ⟨1, [.nilFunc], .scalar, 0⟩),
  (89, ⟨1, [.nilFunc], .scalar, 0⟩),
  (90, ⟨4, [.string ⟨#[]⟩, .string ⟨#[]⟩, .int .i64 0, .int .i64 0], .st [(0, 1), (1, 1), (2, 1), (3, 1)], 1000028⟩),
  (91, ⟨4, [.string ⟨#[]⟩, .string ⟨#[]⟩, .int .i64 0, .int .i64 0], .st [(0, 1), (1, 1), (2, 1), (3, 1)], 1000028⟩),
  (92, ⟨1, [.nilFunc], .scalar, 0⟩),
  (93, ⟨1, [.nilFunc], .scalar, 0⟩),
  (94, ⟨1, [.pointer none], .scalar, 0⟩),
  (95, ⟨2, [.pointer none, .pointer none], .st [(0, 1), (1, 1)], 0⟩),
  (96, ⟨2, [.pointer none, .pointer none], .st [(0, 1), (1, 1)], 0⟩),
  (97, ⟨1, [.nilFunc], .scalar, 0⟩),
  (98, ⟨1, [.slice none 0 0], .sl 50 7 72 [.int .i64 0, .int .i64 0, .int .i64 0, .string ⟨#[]⟩, .string ⟨#[]⟩, .int .i64 0, .int .i64 0], 0⟩),
  (99, ⟨1, [.nilFunc], .scalar, 0⟩),
  (100, ⟨1, [.nilFunc], .scalar, 0⟩),
  (101, ⟨1, [.nilFunc], .scalar, 0⟩),
  (102, ⟨1, [.nilFunc], .scalar, 0⟩),
  (103, ⟨1, [.pointer none], .scalar, 0⟩),
  (104, ⟨1, [.nilFunc], .scalar, 0⟩),
  (105, ⟨1, [.nilFunc], .scalar, 0⟩),
  (106, ⟨1, [.nilFunc], .scalar, 0⟩),
  (107, ⟨1, [.nilFunc], .scalar, 0⟩),
  (108, ⟨1, [.nilFunc], .scalar, 0⟩),
  (109, ⟨1, [.nilFunc], .scalar, 0⟩),
  (110, ⟨1, [.slice none 0 0], .sl 59 1 24 [.slice none 0 0], 0⟩),
  (111, ⟨1, [.nilFunc], .scalar, 0⟩),
  (112, ⟨1, [.slice none 0 0], .sl 5 1 1 [.int .u8 0], 0⟩),
  (113, ⟨1, [.nilFunc], .scalar, 0⟩),
  (114, ⟨1, [.nilFunc], .scalar, 0⟩),
  (115, ⟨1, [.nilFunc], .scalar, 0⟩),
  (116, ⟨1, [.int .u64 0], .int .u64, 0⟩),
  (117, ⟨1, [.nilFunc], .scalar, 0⟩),
  (118, ⟨1, [.nilFunc], .scalar, 0⟩),
  (119, ⟨1, [.nilFunc], .scalar, 0⟩),
  (120, ⟨1, [.nilFunc], .scalar, 0⟩),
  (121, ⟨2, [.int .i64 0, .int .i64 0], .st [(0, 1), (1, 1)], 2⟩),
  (122, ⟨2, [.int .i64 0, .int .i64 0], .st [(0, 1), (1, 1)], 2⟩),
  (123, ⟨1, [.nilFunc], .scalar, 0⟩),
  (124, ⟨1, [.nilFunc], .scalar, 0⟩),
  (125, ⟨1, [.int .i64 0], .int .i64, 0⟩),
  (127, ⟨1, [.nilFunc], .scalar, 0⟩),
  (128, ⟨1, [.nilFunc], .scalar, 0⟩),
  (129, ⟨1, [.nilFunc], .scalar, 0⟩),
  (130, ⟨1, [.nilFunc], .scalar, 0⟩),
  (132, ⟨1, [.nilFunc], .scalar, 0⟩),
  (133, ⟨1, [.nilFunc], .scalar, 0⟩),
  (134, ⟨1, [.int .u32 0], .int .u32, 0⟩),
  (135, ⟨1, [.nilFunc], .scalar, 0⟩),
  (136, ⟨1, [.int .u64 0], .int .u64, 0⟩),
  (137, ⟨1, [.nilFunc], .scalar, 0⟩),
  (138, ⟨1, [.nilFunc], .scalar, 0⟩),
  (139, ⟨1, [.int .u64 0], .int .u64, 0⟩),
  (140, ⟨1, [.nilFunc], .scalar, 0⟩),
  (141, ⟨1, [.nilFunc], .scalar, 0⟩),
  (142, ⟨1, [.nilFunc], .scalar, 0⟩),
  (143, ⟨1, [.nilFunc], .scalar, 0⟩),
  (144, ⟨1, [.nilFunc], .scalar, 0⟩),
  (145, ⟨1, [.nilFunc], .scalar, 0⟩),
  (146, ⟨1, [.nilFunc], .scalar, 0⟩),
  (147, ⟨1, [.pointer none], .scalar, 0⟩),
  (148, ⟨1, [.nilFunc], .scalar, 0⟩),
  (149, ⟨1, [.nilFunc], .scalar, 0⟩),
  (150, ⟨4, [.pointer none, .pointer none, .pointer none, .string ⟨#[]⟩], .st [(0, 1), (1, 1), (2, 1), (3, 1)], 0⟩),
  (151, ⟨4, [.pointer none, .pointer none, .pointer none, .string ⟨#[]⟩], .st [(0, 1), (1, 1), (2, 1), (3, 1)], 0⟩),
  (152, ⟨0, [], .arr 0 16 1, 0⟩),
  (155, ⟨1, [.nilFunc], .scalar, 0⟩),
  (156, ⟨1, [.int .u8 0], .int .u8, 0⟩),
  (157, ⟨1, [.int .u8 0], .int .u8, 0⟩),
  (158, ⟨1, [.nilFunc], .scalar, 0⟩),
  (159, ⟨1, [.pointer none], .scalar, 0⟩),
  (160, ⟨1, [.int .i32 0], .int .i32, 0⟩),
  (161, ⟨1, [.int .i32 0], .int .i32, 0⟩),
  (162, ⟨11, [.int .u64 0, .int .u64 0, .int .u32 0, .int .u8 0, .int .u8 0, .int .u8 0, .int .u8 0, .nilFunc, .pointer none, .int .i32 0, .int .i32 0], .st [(0, 1), (1, 1), (2, 1), (3, 1), (4, 1), (5, 1), (6, 1), (7, 1), (8, 1), (9, 1), (10, 1)], 0⟩),
  (163, ⟨11, [.int .u64 0, .int .u64 0, .int .u32 0, .int .u8 0, .int .u8 0, .int .u8 0, .int .u8 0, .nilFunc, .pointer none, .int .i32 0, .int .i32 0], .st [(0, 1), (1, 1), (2, 1), (3, 1), (4, 1), (5, 1), (6, 1), (7, 1), (8, 1), (9, 1), (10, 1)], 0⟩)]
theorem tok1 : TIok Tryz.prog 1 ⟨1, [.nilFunc], .scalar, 0⟩ := TIok.scalar (z := .nilFunc) (by kernel_rfl) rfl Tryz.underlying1 (by simp) (by simp)
theorem tok2 : TIok Tryz.prog 2 ⟨1, [.int .i64 0], .int .i64, 0⟩ := TIok.int (by kernel_rfl) Tryz.underlying2
theorem tok3 : TIok Tryz.prog 3 ⟨1, [.int .i64 0], .int .i64, 0⟩ := TIok.int (by kernel_rfl) Tryz.underlying3
theorem tok4 : TIok Tryz.prog 4 ⟨1, [.bool false], .scalar, 0⟩ := TIok.scalar (z := .bool false) (by kernel_rfl) rfl Tryz.underlying4 (by simp) (by simp)
theorem tok5 : TIok Tryz.prog 5 ⟨1, [.int .u8 0], .int .u8, 0⟩ := TIok.int (by kernel_rfl) Tryz.underlying5
theorem tok6 : TIok Tryz.prog 6 ⟨1, [.int .u8 0], .int .u8, 0⟩ := TIok.int (by kernel_rfl) Tryz.underlying6
theorem tok7 : TIok Tryz.prog 7 ⟨4, [.int .i64 0, .int .i64 0, .bool false, .int .u8 0], .st [(0, 1), (1, 1), (2, 1), (3, 1)], 0⟩ := TIok.st (z := .agg #[.int .i64 0, .int .i64 0, .bool false, .int .u8 0]) (by kernel_rfl) rfl Tryz.underlying7 ⟨rfl, (by kernel_rfl), (by decide), rfl, (by kernel_rfl), (by decide), rfl, (by kernel_rfl), (by decide), rfl, (by kernel_rfl), (by decide), trivial⟩ (fun h => absurd rfl h) (fun h => absurd rfl h)
theorem tok8 : TIok Tryz.prog 8 ⟨4, [.int .i64 0, .int .i64 0, .bool false, .int .u8 0], .st [(0, 1), (1, 1), (2, 1), (3, 1)], 0⟩ := TIok.st (z := .agg #[.int .i64 0, .int .i64 0, .bool false, .int .u8 0]) (by kernel_rfl) rfl Tryz.underlying8 ⟨rfl, (by kernel_rfl), (by decide), rfl, (by kernel_rfl), (by decide), rfl, (by kernel_rfl), (by decide), rfl, (by kernel_rfl), (by decide), trivial⟩ (fun h => absurd rfl h) (fun h => absurd rfl h)
theorem tok9 : TIok Tryz.prog 9 ⟨1, [.string ⟨#[]⟩], .str, 0⟩ := TIok.str (by kernel_rfl) Tryz.underlying9
theorem tok10 : TIok Tryz.prog 10 ⟨1, [.string ⟨#[]⟩], .str, 0⟩ := TIok.str (by kernel_rfl) Tryz.underlying10
theorem tok11 : TIok Tryz.prog 11 ⟨1, [.string ⟨#[]⟩], .str, 0⟩ := TIok.str (by kernel_rfl) Tryz.underlying11
theorem tok12 : TIok Tryz.prog 12 ⟨1, [.int .u64 0], .int .u64, 0⟩ := TIok.int (by kernel_rfl) Tryz.underlying12
theorem tok13 : TIok Tryz.prog 13 ⟨2, [.string ⟨#[]⟩, .int .u64 0], .st [(0, 1), (1, 1)], 0⟩ := TIok.st (z := .agg #[.string ⟨#[]⟩, .int .u64 0]) (by kernel_rfl) rfl Tryz.underlying13 ⟨rfl, (by kernel_rfl), (by decide), rfl, (by kernel_rfl), (by decide), trivial⟩ (fun h => absurd rfl h) (fun h => absurd rfl h)
theorem tok14 : TIok Tryz.prog 14 ⟨2, [.string ⟨#[]⟩, .int .u64 0], .st [(0, 1), (1, 1)], 0⟩ := TIok.st (z := .agg #[.string ⟨#[]⟩, .int .u64 0]) (by kernel_rfl) rfl Tryz.underlying14 ⟨rfl, (by kernel_rfl), (by decide), rfl, (by kernel_rfl), (by decide), trivial⟩ (fun h => absurd rfl h) (fun h => absurd rfl h)
theorem tok15 : TIok Tryz.prog 15 ⟨1, [.pointer none], .scalar, 0⟩ := TIok.scalar (z := .pointer none) (by kernel_rfl) rfl Tryz.underlying15 (by simp) (by simp)
theorem tok16 : TIok Tryz.prog 16 ⟨1, [.pointer none], .scalar, 0⟩ := TIok.scalar (z := .pointer none) (by kernel_rfl) rfl Tryz.underlying16 (by simp) (by simp)
theorem tok17 : TIok Tryz.prog 17 ⟨1, [.pointer none], .scalar, 0⟩ := TIok.scalar (z := .pointer none) (by kernel_rfl) rfl Tryz.underlying17 (by simp) (by simp)
theorem tok18 : TIok Tryz.prog 18 ⟨1, [.pointer none], .st [(0, 1)], 0⟩ := TIok.st (z := .agg #[.pointer none]) (by kernel_rfl) rfl Tryz.underlying18 ⟨rfl, (by kernel_rfl), (by decide), trivial⟩ (fun h => absurd rfl h) (fun h => absurd rfl h)
theorem tok19 : TIok Tryz.prog 19 ⟨1, [.pointer none], .st [(0, 1)], 0⟩ := TIok.st (z := .agg #[.pointer none]) (by kernel_rfl) rfl Tryz.underlying19 ⟨rfl, (by kernel_rfl), (by decide), trivial⟩ (fun h => absurd rfl h) (fun h => absurd rfl h)
theorem tok20 : TIok Tryz.prog 20 ⟨1, [.nilIface], .scalar, 0⟩ := TIok.scalar (z := .nilIface) (by kernel_rfl) rfl Tryz.underlying20 (by simp) (by simp)
theorem tok21 : TIok Tryz.prog 21 ⟨1, [.int .i32 0], .int .i32, 0⟩ := TIok.int (by kernel_rfl) Tryz.underlying21
theorem tok22 : TIok Tryz.prog 22 ⟨1, [.slice none 0 0], .sl 65 2 32 [.int .i64 0, .slice none 0 0], 0⟩ := TIok.sl (z := .agg #[.int .i64 0, .slice none 0 0]) (by kernel_rfl) Tryz.underlying22 (by kernel_rfl) rfl (by decide) (by decide) rfl rfl
theorem tok23 : TIok Tryz.prog 23 ⟨1, [.slice none 0 0], .sl 3 1 8 [.int .i64 0], 0⟩ := TIok.sl (z := .int .i64 0) (by kernel_rfl) Tryz.underlying23 (by kernel_rfl) rfl (by decide) (by decide) rfl rfl
theorem tok24 : TIok Tryz.prog 24 ⟨4, [.slice none 0 0, .slice none 0 0, .slice none 0 0, .slice none 0 0], .st [(0, 1), (1, 1), (2, 1), (3, 1)], 0⟩ := TIok.st (z := .agg #[.slice none 0 0, .slice none 0 0, .slice none 0 0, .slice none 0 0]) (by kernel_rfl) rfl Tryz.underlying24 ⟨rfl, (by kernel_rfl), (by decide), rfl, (by kernel_rfl), (by decide), rfl, (by kernel_rfl), (by decide), rfl, (by kernel_rfl), (by decide), trivial⟩ (fun h => absurd rfl h) (fun h => absurd rfl h)
theorem tok25 : TIok Tryz.prog 25 ⟨4, [.slice none 0 0, .slice none 0 0, .slice none 0 0, .slice none 0 0], .st [(0, 1), (1, 1), (2, 1), (3, 1)], 0⟩ := TIok.st (z := .agg #[.slice none 0 0, .slice none 0 0, .slice none 0 0, .slice none 0 0]) (by kernel_rfl) rfl Tryz.underlying25 ⟨rfl, (by kernel_rfl), (by decide), rfl, (by kernel_rfl), (by decide), rfl, (by kernel_rfl), (by decide), rfl, (by kernel_rfl), (by decide), trivial⟩ (fun h => absurd rfl h) (fun h => absurd rfl h)
theorem tok26 : TIok Tryz.prog 26 ⟨1, [.nilFunc], .scalar, 0⟩ := TIok.scalar (z := .nilFunc) (by kernel_rfl) rfl Tryz.underlying26 (by simp) (by simp)
theorem tok27 : TIok Tryz.prog 27 ⟨1, [.nilFunc], .scalar, 0⟩ := TIok.scalar (z := .nilFunc) (by kernel_rfl) rfl Tryz.underlying27 (by simp) (by simp)
theorem tok28 : TIok Tryz.prog 28 ⟨1, [.nilFunc], .scalar, 0⟩ := TIok.scalar (z := .nilFunc) (by kernel_rfl) rfl Tryz.underlying28 (by simp) (by simp)
theorem tok29 : TIok Tryz.prog 29 ⟨2, [.slice none 0 0, .slice none 0 0], .arr 2 23 1, 0⟩ := TIok.arr (z := .agg #[.slice none 0 0, .slice none 0 0]) (by kernel_rfl) rfl Tryz.underlying29 (by kernel_rfl)
theorem tok30 : TIok Tryz.prog 30 ⟨1, [.int .i64 0], .int .i64, 0⟩ := TIok.int (by kernel_rfl) Tryz.underlying30
theorem tok32 : TIok Tryz.prog 32 ⟨1, [.nilFunc], .scalar, 0⟩ := TIok.scalar (z := .nilFunc) (by kernel_rfl) rfl Tryz.underlying32 (by simp) (by simp)
theorem tok33 : TIok Tryz.prog 33 ⟨1, [.nilFunc], .scalar, 0⟩ := TIok.scalar (z := .nilFunc) (by kernel_rfl) rfl Tryz.underlying33 (by simp) (by simp)
theorem tok34 : TIok Tryz.prog 34 ⟨1, [.slice none 0 0], .sl 37 2 16 [.int .i64 0, .int .i64 0], 0⟩ := TIok.sl (z := .agg #[.int .i64 0, .int .i64 0]) (by kernel_rfl) Tryz.underlying34 (by kernel_rfl) rfl (by decide) (by decide) rfl rfl
theorem tok36 : TIok Tryz.prog 36 ⟨1, [.nilFunc], .scalar, 0⟩ := TIok.scalar (z := .nilFunc) (by kernel_rfl) rfl Tryz.underlying36 (by simp) (by simp)
theorem tok37 : TIok Tryz.prog 37 ⟨2, [.int .i64 0, .int .i64 0], .arr 2 3 1, 2⟩ := TIok.arrE (z := .agg #[.int .i64 0, .int .i64 0]) (by kernel_rfl) rfl Tryz.underlying37 (by kernel_rfl) rfl Tryz.eqGuardType37 (PartEq.int Tryz.underlying3)
theorem tok39 : TIok Tryz.prog 39 ⟨1, [.nilFunc], .scalar, 0⟩ := TIok.scalar (z := .nilFunc) (by kernel_rfl) rfl Tryz.underlying39 (by simp) (by simp)
theorem tok40 : TIok Tryz.prog 40 ⟨1, [.nilFunc], .scalar, 0⟩ := TIok.scalar (z := .nilFunc) (by kernel_rfl) rfl Tryz.underlying40 (by simp) (by simp)
theorem tok42 : TIok Tryz.prog 42 ⟨1, [.nilFunc], .scalar, 0⟩ := TIok.scalar (z := .nilFunc) (by kernel_rfl) rfl Tryz.underlying42 (by simp) (by simp)
theorem tok44 : TIok Tryz.prog 44 ⟨1, [.nilFunc], .scalar, 0⟩ := TIok.scalar (z := .nilFunc) (by kernel_rfl) rfl Tryz.underlying44 (by simp) (by simp)
theorem tok45 : TIok Tryz.prog 45 ⟨1, [.nilFunc], .scalar, 0⟩ := TIok.scalar (z := .nilFunc) (by kernel_rfl) rfl Tryz.underlying45 (by simp) (by simp)
theorem tok46 : TIok Tryz.prog 46 ⟨1, [.nilFunc], .scalar, 0⟩ := TIok.scalar (z := .nilFunc) (by kernel_rfl) rfl Tryz.underlying46 (by simp) (by simp)
theorem tok47 : TIok Tryz.prog 47 ⟨1, [.nilFunc], .scalar, 0⟩ := TIok.scalar (z := .nilFunc) (by kernel_rfl) rfl Tryz.underlying47 (by simp) (by simp)
theorem tok48 : TIok Tryz.prog 48 ⟨1, [.nilFunc], .scalar, 0⟩ := TIok.scalar (z := .nilFunc) (by kernel_rfl) rfl Tryz.underlying48 (by simp) (by simp)
theorem tok49 : TIok Tryz.prog 49 ⟨7, [.int .i64 0, .int .i64 0, .int .i64 0, .string ⟨#[]⟩, .string ⟨#[]⟩, .int .i64 0, .int .i64 0], .st [(0, 1), (1, 1), (2, 1), (3, 1), (4, 1), (5, 1), (6, 1)], 1000231⟩ := TIok.st (z := .agg #[.int .i64 0, .int .i64 0, .int .i64 0, .string ⟨#[]⟩, .string ⟨#[]⟩, .int .i64 0, .int .i64 0]) (by kernel_rfl) rfl Tryz.underlying49 ⟨rfl, (by kernel_rfl), (by decide), rfl, (by kernel_rfl), (by decide), rfl, (by kernel_rfl), (by decide), rfl, (by kernel_rfl), (by decide), rfl, (by kernel_rfl), (by decide), rfl, (by kernel_rfl), (by decide), rfl, (by kernel_rfl), (by decide), trivial⟩ (fun _ => EqS.up (c := 231) (EqS.of Tryz.underlying49 Tryz.eqGuardType49 Tryz.stoodInHeld49 (by simp [flOk, Tryz.underlying3, Tryz.underlying9]))) (fun _ => ScOk.ofS (c := 231) Tryz.underlying49 (by simp [flOk, Tryz.underlying3, Tryz.underlying9]))
theorem tok50 : TIok Tryz.prog 50 ⟨7, [.int .i64 0, .int .i64 0, .int .i64 0, .string ⟨#[]⟩, .string ⟨#[]⟩, .int .i64 0, .int .i64 0], .st [(0, 1), (1, 1), (2, 1), (3, 1), (4, 1), (5, 1), (6, 1)], 1000231⟩ := TIok.st (z := .agg #[.int .i64 0, .int .i64 0, .int .i64 0, .string ⟨#[]⟩, .string ⟨#[]⟩, .int .i64 0, .int .i64 0]) (by kernel_rfl) rfl Tryz.underlying50 ⟨rfl, (by kernel_rfl), (by decide), rfl, (by kernel_rfl), (by decide), rfl, (by kernel_rfl), (by decide), rfl, (by kernel_rfl), (by decide), rfl, (by kernel_rfl), (by decide), rfl, (by kernel_rfl), (by decide), rfl, (by kernel_rfl), (by decide), trivial⟩ (fun _ => EqS.up (c := 231) (EqS.of Tryz.underlying50 Tryz.eqGuardType50 Tryz.stoodInHeld50 (by simp [flOk, Tryz.underlying3, Tryz.underlying9]))) (fun _ => ScOk.ofS (c := 231) Tryz.underlying50 (by simp [flOk, Tryz.underlying3, Tryz.underlying9]))
theorem tok52 : TIok Tryz.prog 52 ⟨1, [.nilFunc], .scalar, 0⟩ := TIok.scalar (z := .nilFunc) (by kernel_rfl) rfl Tryz.underlying52 (by simp) (by simp)
theorem tok53 : TIok Tryz.prog 53 ⟨1, [.nilFunc], .scalar, 0⟩ := TIok.scalar (z := .nilFunc) (by kernel_rfl) rfl Tryz.underlying53 (by simp) (by simp)
theorem tok54 : TIok Tryz.prog 54 ⟨14, [.int .i64 0, .int .i64 0, .int .i64 0, .string ⟨#[]⟩, .string ⟨#[]⟩, .int .i64 0, .int .i64 0, .int .i64 0, .int .i64 0, .int .i64 0, .string ⟨#[]⟩, .string ⟨#[]⟩, .int .i64 0, .int .i64 0], .arr 2 50 7, 0⟩ := TIok.arr (z := .agg #[.int .i64 0, .int .i64 0, .int .i64 0, .string ⟨#[]⟩, .string ⟨#[]⟩, .int .i64 0, .int .i64 0, .int .i64 0, .int .i64 0, .int .i64 0, .string ⟨#[]⟩, .string ⟨#[]⟩, .int .i64 0, .int .i64 0]) (by kernel_rfl) rfl Tryz.underlying54 (by kernel_rfl)
theorem tok56 : TIok Tryz.prog 56 ⟨1, [.nilFunc], .scalar, 0⟩ := TIok.scalar (z := .nilFunc) (by kernel_rfl) rfl Tryz.underlying56 (by simp) (by simp)
theorem tok58 : TIok Tryz.prog 58 ⟨1, [.nilFunc], .scalar, 0⟩ := TIok.scalar (z := .nilFunc) (by kernel_rfl) rfl Tryz.underlying58 (by simp) (by simp)
theorem tok59 : TIok Tryz.prog 59 ⟨1, [.slice none 0 0], .sl 9 1 16 [.string ⟨#[]⟩], 0⟩ := TIok.sl (z := .string ⟨#[]⟩) (by kernel_rfl) Tryz.underlying59 (by kernel_rfl) rfl (by decide) (by decide) rfl rfl
theorem tok60 : TIok Tryz.prog 60 ⟨2, [.int .i64 0, .int .i64 0], .st [(0, 1), (1, 1)], 2⟩ := TIok.st (z := .agg #[.int .i64 0, .int .i64 0]) (by kernel_rfl) rfl Tryz.underlying60 ⟨rfl, (by kernel_rfl), (by decide), rfl, (by kernel_rfl), (by decide), trivial⟩ (fun _ => EqOk.up (EqOk.of Tryz.underlying60 Tryz.eqGuardType60 Tryz.stoodInHeld60 (by simp [Tryz.underlying3]) rfl)) (fun _ => ScOk.of Tryz.underlying60 (by simp [Tryz.underlying3]))
theorem tok61 : TIok Tryz.prog 61 ⟨2, [.int .i64 0, .int .i64 0], .st [(0, 1), (1, 1)], 2⟩ := TIok.st (z := .agg #[.int .i64 0, .int .i64 0]) (by kernel_rfl) rfl Tryz.underlying61 ⟨rfl, (by kernel_rfl), (by decide), rfl, (by kernel_rfl), (by decide), trivial⟩ (fun _ => EqOk.up (EqOk.of Tryz.underlying61 Tryz.eqGuardType61 Tryz.stoodInHeld61 (by simp [Tryz.underlying3]) rfl)) (fun _ => ScOk.of Tryz.underlying61 (by simp [Tryz.underlying3]))
theorem tok62 : TIok Tryz.prog 62 ⟨1, [.slice none 0 0], .sl 61 2 16 [.int .i64 0, .int .i64 0], 0⟩ := TIok.sl (z := .agg #[.int .i64 0, .int .i64 0]) (by kernel_rfl) Tryz.underlying62 (by kernel_rfl) rfl (by decide) (by decide) rfl rfl
theorem tok63 : TIok Tryz.prog 63 ⟨1, [.nilFunc], .scalar, 0⟩ := TIok.scalar (z := .nilFunc) (by kernel_rfl) rfl Tryz.underlying63 (by simp) (by simp)
theorem tok64 : TIok Tryz.prog 64 ⟨2, [.int .i64 0, .slice none 0 0], .st [(0, 1), (1, 1)], 0⟩ := TIok.st (z := .agg #[.int .i64 0, .slice none 0 0]) (by kernel_rfl) rfl Tryz.underlying64 ⟨rfl, (by kernel_rfl), (by decide), rfl, (by kernel_rfl), (by decide), trivial⟩ (fun h => absurd rfl h) (fun h => absurd rfl h)
theorem tok65 : TIok Tryz.prog 65 ⟨2, [.int .i64 0, .slice none 0 0], .st [(0, 1), (1, 1)], 0⟩ := TIok.st (z := .agg #[.int .i64 0, .slice none 0 0]) (by kernel_rfl) rfl Tryz.underlying65 ⟨rfl, (by kernel_rfl), (by decide), rfl, (by kernel_rfl), (by decide), trivial⟩ (fun h => absurd rfl h) (fun h => absurd rfl h)
theorem tok66 : TIok Tryz.prog 66 ⟨1, [.nilFunc], .scalar, 0⟩ := TIok.scalar (z := .nilFunc) (by kernel_rfl) rfl Tryz.underlying66 (by simp) (by simp)
theorem tok67 : TIok Tryz.prog 67 ⟨1, [.nilFunc], .scalar, 0⟩ := TIok.scalar (z := .nilFunc) (by kernel_rfl) rfl Tryz.underlying67 (by simp) (by simp)
theorem tok68 : TIok Tryz.prog 68 ⟨1, [.nilFunc], .scalar, 0⟩ := TIok.scalar (z := .nilFunc) (by kernel_rfl) rfl Tryz.underlying68 (by simp) (by simp)
theorem tok69 : TIok Tryz.prog 69 ⟨1, [.slice none 0 0], .sl 23 1 24 [.slice none 0 0], 0⟩ := TIok.sl (z := .slice none 0 0) (by kernel_rfl) Tryz.underlying69 (by kernel_rfl) rfl (by decide) (by decide) rfl rfl
theorem tok70 : TIok Tryz.prog 70 ⟨1, [.nilFunc], .scalar, 0⟩ := TIok.scalar (z := .nilFunc) (by kernel_rfl) rfl Tryz.underlying70 (by simp) (by simp)
theorem tok71 : TIok Tryz.prog 71 ⟨2, [.slice none 0 0, .slice none 0 0], .arr 2 22 1, 0⟩ := TIok.arr (z := .agg #[.slice none 0 0, .slice none 0 0]) (by kernel_rfl) rfl Tryz.underlying71 (by kernel_rfl)
theorem tok72 : TIok Tryz.prog 72 ⟨1, [.nilFunc], .scalar, 0⟩ := TIok.scalar (z := .nilFunc) (by kernel_rfl) rfl Tryz.underlying72 (by simp) (by simp)
theorem tok73 : TIok Tryz.prog 73 ⟨1, [.nilFunc], .scalar, 0⟩ := TIok.scalar (z := .nilFunc) (by kernel_rfl) rfl Tryz.underlying73 (by simp) (by simp)
theorem tok74 : TIok Tryz.prog 74 ⟨1, [.nilFunc], .scalar, 0⟩ := TIok.scalar (z := .nilFunc) (by kernel_rfl) rfl Tryz.underlying74 (by simp) (by simp)
theorem tok75 : TIok Tryz.prog 75 ⟨1, [.nilFunc], .scalar, 0⟩ := TIok.scalar (z := .nilFunc) (by kernel_rfl) rfl Tryz.underlying75 (by simp) (by simp)
theorem tok76 : TIok Tryz.prog 76 ⟨1, [.nilFunc], .scalar, 0⟩ := TIok.scalar (z := .nilFunc) (by kernel_rfl) rfl Tryz.underlying76 (by simp) (by simp)
theorem tok77 : TIok Tryz.prog 77 ⟨1, [.nilFunc], .scalar, 0⟩ := TIok.scalar (z := .nilFunc) (by kernel_rfl) rfl Tryz.underlying77 (by simp) (by simp)
theorem tok78 : TIok Tryz.prog 78 ⟨1, [.nilFunc], .scalar, 0⟩ := TIok.scalar (z := .nilFunc) (by kernel_rfl) rfl Tryz.underlying78 (by simp) (by simp)
theorem tok79 : TIok Tryz.prog 79 ⟨1, [.nilFunc], .scalar, 0⟩ := TIok.scalar (z := .nilFunc) (by kernel_rfl) rfl Tryz.underlying79 (by simp) (by simp)
theorem tok80 : TIok Tryz.prog 80 ⟨1, [.pointer none], .scalar, 0⟩ := TIok.scalar (z := .pointer none) (by kernel_rfl) rfl Tryz.underlying80 (by simp) (by simp)
theorem tok81 : TIok Tryz.prog 81 ⟨1, [.map none], .mp (some .i64) (.int .i64 0), 0⟩ := TIok.mp (by kernel_rfl) Tryz.underlying81 Tryz.underlying3 (by kernel_rfl)
theorem tok82 : TIok Tryz.prog 82 ⟨1, [.nilFunc], .scalar, 0⟩ := TIok.scalar (z := .nilFunc) (by kernel_rfl) rfl Tryz.underlying82 (by simp) (by simp)
theorem tok83 : TIok Tryz.prog 83 ⟨1, [.nilFunc], .scalar, 0⟩ := TIok.scalar (z := .nilFunc) (by kernel_rfl) rfl Tryz.underlying83 (by simp) (by simp)
theorem tok84 : TIok Tryz.prog 84 ⟨1, [.nilFunc], .scalar, 0⟩ := TIok.scalar (z := .nilFunc) (by kernel_rfl) rfl Tryz.underlying84 (by simp) (by simp)
theorem tok85 : TIok Tryz.prog 85 ⟨1, [.nilFunc], .scalar, 0⟩ := TIok.scalar (z := .nilFunc) (by kernel_rfl) rfl Tryz.underlying85 (by simp) (by simp)
theorem tok86 : TIok Tryz.prog 86 ⟨1, [.nilFunc], .scalar, 0⟩ := TIok.scalar (z := .nilFunc) (by kernel_rfl) rfl Tryz.underlying86 (by simp) (by simp)
theorem tok87 : TIok Tryz.prog 87 ⟨1, [.nilFunc], .scalar, 0⟩ := TIok.scalar (z := .nilFunc) (by kernel_rfl) rfl Tryz.underlying87 (by simp) (by simp)
theorem tok88 : TIok Tryz.prog 88 ⟨1, [.nilFunc], .scalar, 0⟩ := TIok.scalar (z := .nilFunc) (by kernel_rfl) rfl Tryz.underlying88 (by simp) (by simp)
theorem tok89 : TIok Tryz.prog 89 ⟨1, [.nilFunc], .scalar, 0⟩ := TIok.scalar (z := .nilFunc) (by kernel_rfl) rfl Tryz.underlying89 (by simp) (by simp)
theorem tok90 : TIok Tryz.prog 90 ⟨4, [.string ⟨#[]⟩, .string ⟨#[]⟩, .int .i64 0, .int .i64 0], .st [(0, 1), (1, 1), (2, 1), (3, 1)], 1000028⟩ := TIok.st (z := .agg #[.string ⟨#[]⟩, .string ⟨#[]⟩, .int .i64 0, .int .i64 0]) (by kernel_rfl) rfl Tryz.underlying90 ⟨rfl, (by kernel_rfl), (by decide), rfl, (by kernel_rfl), (by decide), rfl, (by kernel_rfl), (by decide), rfl, (by kernel_rfl), (by decide), trivial⟩ (fun _ => EqS.up (c := 28) (EqS.of Tryz.underlying90 Tryz.eqGuardType90 Tryz.stoodInHeld90 (by simp [flOk, Tryz.underlying3, Tryz.underlying9]))) (fun _ => ScOk.ofS (c := 28) Tryz.underlying90 (by simp [flOk, Tryz.underlying3, Tryz.underlying9]))
theorem tok91 : TIok Tryz.prog 91 ⟨4, [.string ⟨#[]⟩, .string ⟨#[]⟩, .int .i64 0, .int .i64 0], .st [(0, 1), (1, 1), (2, 1), (3, 1)], 1000028⟩ := TIok.st (z := .agg #[.string ⟨#[]⟩, .string ⟨#[]⟩, .int .i64 0, .int .i64 0]) (by kernel_rfl) rfl Tryz.underlying91 ⟨rfl, (by kernel_rfl), (by decide), rfl, (by kernel_rfl), (by decide), rfl, (by kernel_rfl), (by decide), rfl, (by kernel_rfl), (by decide), trivial⟩ (fun _ => EqS.up (c := 28) (EqS.of Tryz.underlying91 Tryz.eqGuardType91 Tryz.stoodInHeld91 (by simp [flOk, Tryz.underlying3, Tryz.underlying9]))) (fun _ => ScOk.ofS (c := 28) Tryz.underlying91 (by simp [flOk, Tryz.underlying3, Tryz.underlying9]))
theorem tok92 : TIok Tryz.prog 92 ⟨1, [.nilFunc], .scalar, 0⟩ := TIok.scalar (z := .nilFunc) (by kernel_rfl) rfl Tryz.underlying92 (by simp) (by simp)
theorem tok93 : TIok Tryz.prog 93 ⟨1, [.nilFunc], .scalar, 0⟩ := TIok.scalar (z := .nilFunc) (by kernel_rfl) rfl Tryz.underlying93 (by simp) (by simp)
theorem tok94 : TIok Tryz.prog 94 ⟨1, [.pointer none], .scalar, 0⟩ := TIok.scalar (z := .pointer none) (by kernel_rfl) rfl Tryz.underlying94 (by simp) (by simp)
theorem tok95 : TIok Tryz.prog 95 ⟨2, [.pointer none, .pointer none], .st [(0, 1), (1, 1)], 0⟩ := TIok.st (z := .agg #[.pointer none, .pointer none]) (by kernel_rfl) rfl Tryz.underlying95 ⟨rfl, (by kernel_rfl), (by decide), rfl, (by kernel_rfl), (by decide), trivial⟩ (fun h => absurd rfl h) (fun h => absurd rfl h)
theorem tok96 : TIok Tryz.prog 96 ⟨2, [.pointer none, .pointer none], .st [(0, 1), (1, 1)], 0⟩ := TIok.st (z := .agg #[.pointer none, .pointer none]) (by kernel_rfl) rfl Tryz.underlying96 ⟨rfl, (by kernel_rfl), (by decide), rfl, (by kernel_rfl), (by decide), trivial⟩ (fun h => absurd rfl h) (fun h => absurd rfl h)
theorem tok97 : TIok Tryz.prog 97 ⟨1, [.nilFunc], .scalar, 0⟩ := TIok.scalar (z := .nilFunc) (by kernel_rfl) rfl Tryz.underlying97 (by simp) (by simp)
theorem tok98 : TIok Tryz.prog 98 ⟨1, [.slice none 0 0], .sl 50 7 72 [.int .i64 0, .int .i64 0, .int .i64 0, .string ⟨#[]⟩, .string ⟨#[]⟩, .int .i64 0, .int .i64 0], 0⟩ := TIok.sl (z := .agg #[.int .i64 0, .int .i64 0, .int .i64 0, .string ⟨#[]⟩, .string ⟨#[]⟩, .int .i64 0, .int .i64 0]) (by kernel_rfl) Tryz.underlying98 (by kernel_rfl) rfl (by decide) (by decide) rfl rfl
theorem tok99 : TIok Tryz.prog 99 ⟨1, [.nilFunc], .scalar, 0⟩ := TIok.scalar (z := .nilFunc) (by kernel_rfl) rfl Tryz.underlying99 (by simp) (by simp)
theorem tok100 : TIok Tryz.prog 100 ⟨1, [.nilFunc], .scalar, 0⟩ := TIok.scalar (z := .nilFunc) (by kernel_rfl) rfl Tryz.underlying100 (by simp) (by simp)
theorem tok101 : TIok Tryz.prog 101 ⟨1, [.nilFunc], .scalar, 0⟩ := TIok.scalar (z := .nilFunc) (by kernel_rfl) rfl Tryz.underlying101 (by simp) (by simp)
theorem tok102 : TIok Tryz.prog 102 ⟨1, [.nilFunc], .scalar, 0⟩ := TIok.scalar (z := .nilFunc) (by kernel_rfl) rfl Tryz.underlying102 (by simp) (by simp)
theorem tok103 : TIok Tryz.prog 103 ⟨1, [.pointer none], .scalar, 0⟩ := TIok.scalar (z := .pointer none) (by kernel_rfl) rfl Tryz.underlying103 (by simp) (by simp)
theorem tok104 : TIok Tryz.prog 104 ⟨1, [.nilFunc], .scalar, 0⟩ := TIok.scalar (z := .nilFunc) (by kernel_rfl) rfl Tryz.underlying104 (by simp) (by simp)
theorem tok105 : TIok Tryz.prog 105 ⟨1, [.nilFunc], .scalar, 0⟩ := TIok.scalar (z := .nilFunc) (by kernel_rfl) rfl Tryz.underlying105 (by simp) (by simp)
theorem tok106 : TIok Tryz.prog 106 ⟨1, [.nilFunc], .scalar, 0⟩ := TIok.scalar (z := .nilFunc) (by kernel_rfl) rfl Tryz.underlying106 (by simp) (by simp)
theorem tok107 : TIok Tryz.prog 107 ⟨1, [.nilFunc], .scalar, 0⟩ := TIok.scalar (z := .nilFunc) (by kernel_rfl) rfl Tryz.underlying107 (by simp) (by simp)
theorem tok108 : TIok Tryz.prog 108 ⟨1, [.nilFunc], .scalar, 0⟩ := TIok.scalar (z := .nilFunc) (by kernel_rfl) rfl Tryz.underlying108 (by simp) (by simp)
theorem tok109 : TIok Tryz.prog 109 ⟨1, [.nilFunc], .scalar, 0⟩ := TIok.scalar (z := .nilFunc) (by kernel_rfl) rfl Tryz.underlying109 (by simp) (by simp)
theorem tok110 : TIok Tryz.prog 110 ⟨1, [.slice none 0 0], .sl 59 1 24 [.slice none 0 0], 0⟩ := TIok.sl (z := .slice none 0 0) (by kernel_rfl) Tryz.underlying110 (by kernel_rfl) rfl (by decide) (by decide) rfl rfl
theorem tok111 : TIok Tryz.prog 111 ⟨1, [.nilFunc], .scalar, 0⟩ := TIok.scalar (z := .nilFunc) (by kernel_rfl) rfl Tryz.underlying111 (by simp) (by simp)
theorem tok112 : TIok Tryz.prog 112 ⟨1, [.slice none 0 0], .sl 5 1 1 [.int .u8 0], 0⟩ := TIok.sl (z := .int .u8 0) (by kernel_rfl) Tryz.underlying112 (by kernel_rfl) rfl (by decide) (by decide) rfl rfl
theorem tok113 : TIok Tryz.prog 113 ⟨1, [.nilFunc], .scalar, 0⟩ := TIok.scalar (z := .nilFunc) (by kernel_rfl) rfl Tryz.underlying113 (by simp) (by simp)
theorem tok114 : TIok Tryz.prog 114 ⟨1, [.nilFunc], .scalar, 0⟩ := TIok.scalar (z := .nilFunc) (by kernel_rfl) rfl Tryz.underlying114 (by simp) (by simp)
theorem tok115 : TIok Tryz.prog 115 ⟨1, [.nilFunc], .scalar, 0⟩ := TIok.scalar (z := .nilFunc) (by kernel_rfl) rfl Tryz.underlying115 (by simp) (by simp)
theorem tok116 : TIok Tryz.prog 116 ⟨1, [.int .u64 0], .int .u64, 0⟩ := TIok.int (by kernel_rfl) Tryz.underlying116
theorem tok117 : TIok Tryz.prog 117 ⟨1, [.nilFunc], .scalar, 0⟩ := TIok.scalar (z := .nilFunc) (by kernel_rfl) rfl Tryz.underlying117 (by simp) (by simp)
theorem tok118 : TIok Tryz.prog 118 ⟨1, [.nilFunc], .scalar, 0⟩ := TIok.scalar (z := .nilFunc) (by kernel_rfl) rfl Tryz.underlying118 (by simp) (by simp)
theorem tok119 : TIok Tryz.prog 119 ⟨1, [.nilFunc], .scalar, 0⟩ := TIok.scalar (z := .nilFunc) (by kernel_rfl) rfl Tryz.underlying119 (by simp) (by simp)
theorem tok120 : TIok Tryz.prog 120 ⟨1, [.nilFunc], .scalar, 0⟩ := TIok.scalar (z := .nilFunc) (by kernel_rfl) rfl Tryz.underlying120 (by simp) (by simp)
theorem tok121 : TIok Tryz.prog 121 ⟨2, [.int .i64 0, .int .i64 0], .st [(0, 1), (1, 1)], 2⟩ := TIok.st (z := .agg #[.int .i64 0, .int .i64 0]) (by kernel_rfl) rfl Tryz.underlying121 ⟨rfl, (by kernel_rfl), (by decide), rfl, (by kernel_rfl), (by decide), trivial⟩ (fun _ => EqOk.up (EqOk.of Tryz.underlying121 Tryz.eqGuardType121 Tryz.stoodInHeld121 (by simp [Tryz.underlying3]) rfl)) (fun _ => ScOk.of Tryz.underlying121 (by simp [Tryz.underlying3]))
theorem tok122 : TIok Tryz.prog 122 ⟨2, [.int .i64 0, .int .i64 0], .st [(0, 1), (1, 1)], 2⟩ := TIok.st (z := .agg #[.int .i64 0, .int .i64 0]) (by kernel_rfl) rfl Tryz.underlying122 ⟨rfl, (by kernel_rfl), (by decide), rfl, (by kernel_rfl), (by decide), trivial⟩ (fun _ => EqOk.up (EqOk.of Tryz.underlying122 Tryz.eqGuardType122 Tryz.stoodInHeld122 (by simp [Tryz.underlying3]) rfl)) (fun _ => ScOk.of Tryz.underlying122 (by simp [Tryz.underlying3]))
theorem tok123 : TIok Tryz.prog 123 ⟨1, [.nilFunc], .scalar, 0⟩ := TIok.scalar (z := .nilFunc) (by kernel_rfl) rfl Tryz.underlying123 (by simp) (by simp)
theorem tok124 : TIok Tryz.prog 124 ⟨1, [.nilFunc], .scalar, 0⟩ := TIok.scalar (z := .nilFunc) (by kernel_rfl) rfl Tryz.underlying124 (by simp) (by simp)
theorem tok125 : TIok Tryz.prog 125 ⟨1, [.int .i64 0], .int .i64, 0⟩ := TIok.int (by kernel_rfl) Tryz.underlying125
theorem tok127 : TIok Tryz.prog 127 ⟨1, [.nilFunc], .scalar, 0⟩ := TIok.scalar (z := .nilFunc) (by kernel_rfl) rfl Tryz.underlying127 (by simp) (by simp)
theorem tok128 : TIok Tryz.prog 128 ⟨1, [.nilFunc], .scalar, 0⟩ := TIok.scalar (z := .nilFunc) (by kernel_rfl) rfl Tryz.underlying128 (by simp) (by simp)
theorem tok129 : TIok Tryz.prog 129 ⟨1, [.nilFunc], .scalar, 0⟩ := TIok.scalar (z := .nilFunc) (by kernel_rfl) rfl Tryz.underlying129 (by simp) (by simp)
theorem tok130 : TIok Tryz.prog 130 ⟨1, [.nilFunc], .scalar, 0⟩ := TIok.scalar (z := .nilFunc) (by kernel_rfl) rfl Tryz.underlying130 (by simp) (by simp)
theorem tok132 : TIok Tryz.prog 132 ⟨1, [.nilFunc], .scalar, 0⟩ := TIok.scalar (z := .nilFunc) (by kernel_rfl) rfl Tryz.underlying132 (by simp) (by simp)
theorem tok133 : TIok Tryz.prog 133 ⟨1, [.nilFunc], .scalar, 0⟩ := TIok.scalar (z := .nilFunc) (by kernel_rfl) rfl Tryz.underlying133 (by simp) (by simp)
theorem tok134 : TIok Tryz.prog 134 ⟨1, [.int .u32 0], .int .u32, 0⟩ := TIok.int (by kernel_rfl) Tryz.underlying134
theorem tok135 : TIok Tryz.prog 135 ⟨1, [.nilFunc], .scalar, 0⟩ := TIok.scalar (z := .nilFunc) (by kernel_rfl) rfl Tryz.underlying135 (by simp) (by simp)
theorem tok136 : TIok Tryz.prog 136 ⟨1, [.int .u64 0], .int .u64, 0⟩ := TIok.int (by kernel_rfl) Tryz.underlying136
theorem tok137 : TIok Tryz.prog 137 ⟨1, [.nilFunc], .scalar, 0⟩ := TIok.scalar (z := .nilFunc) (by kernel_rfl) rfl Tryz.underlying137 (by simp) (by simp)
theorem tok138 : TIok Tryz.prog 138 ⟨1, [.nilFunc], .scalar, 0⟩ := TIok.scalar (z := .nilFunc) (by kernel_rfl) rfl Tryz.underlying138 (by simp) (by simp)
theorem tok139 : TIok Tryz.prog 139 ⟨1, [.int .u64 0], .int .u64, 0⟩ := TIok.int (by kernel_rfl) Tryz.underlying139
theorem tok140 : TIok Tryz.prog 140 ⟨1, [.nilFunc], .scalar, 0⟩ := TIok.scalar (z := .nilFunc) (by kernel_rfl) rfl Tryz.underlying140 (by simp) (by simp)
theorem tok141 : TIok Tryz.prog 141 ⟨1, [.nilFunc], .scalar, 0⟩ := TIok.scalar (z := .nilFunc) (by kernel_rfl) rfl Tryz.underlying141 (by simp) (by simp)
theorem tok142 : TIok Tryz.prog 142 ⟨1, [.nilFunc], .scalar, 0⟩ := TIok.scalar (z := .nilFunc) (by kernel_rfl) rfl Tryz.underlying142 (by simp) (by simp)
theorem tok143 : TIok Tryz.prog 143 ⟨1, [.nilFunc], .scalar, 0⟩ := TIok.scalar (z := .nilFunc) (by kernel_rfl) rfl Tryz.underlying143 (by simp) (by simp)
theorem tok144 : TIok Tryz.prog 144 ⟨1, [.nilFunc], .scalar, 0⟩ := TIok.scalar (z := .nilFunc) (by kernel_rfl) rfl Tryz.underlying144 (by simp) (by simp)
theorem tok145 : TIok Tryz.prog 145 ⟨1, [.nilFunc], .scalar, 0⟩ := TIok.scalar (z := .nilFunc) (by kernel_rfl) rfl Tryz.underlying145 (by simp) (by simp)
theorem tok146 : TIok Tryz.prog 146 ⟨1, [.nilFunc], .scalar, 0⟩ := TIok.scalar (z := .nilFunc) (by kernel_rfl) rfl Tryz.underlying146 (by simp) (by simp)
theorem tok147 : TIok Tryz.prog 147 ⟨1, [.pointer none], .scalar, 0⟩ := TIok.scalar (z := .pointer none) (by kernel_rfl) rfl Tryz.underlying147 (by simp) (by simp)
theorem tok148 : TIok Tryz.prog 148 ⟨1, [.nilFunc], .scalar, 0⟩ := TIok.scalar (z := .nilFunc) (by kernel_rfl) rfl Tryz.underlying148 (by simp) (by simp)
theorem tok149 : TIok Tryz.prog 149 ⟨1, [.nilFunc], .scalar, 0⟩ := TIok.scalar (z := .nilFunc) (by kernel_rfl) rfl Tryz.underlying149 (by simp) (by simp)
theorem tok150 : TIok Tryz.prog 150 ⟨4, [.pointer none, .pointer none, .pointer none, .string ⟨#[]⟩], .st [(0, 1), (1, 1), (2, 1), (3, 1)], 0⟩ := TIok.st (z := .agg #[.pointer none, .pointer none, .pointer none, .string ⟨#[]⟩]) (by kernel_rfl) rfl Tryz.underlying150 ⟨rfl, (by kernel_rfl), (by decide), rfl, (by kernel_rfl), (by decide), rfl, (by kernel_rfl), (by decide), rfl, (by kernel_rfl), (by decide), trivial⟩ (fun h => absurd rfl h) (fun h => absurd rfl h)
theorem tok151 : TIok Tryz.prog 151 ⟨4, [.pointer none, .pointer none, .pointer none, .string ⟨#[]⟩], .st [(0, 1), (1, 1), (2, 1), (3, 1)], 0⟩ := TIok.st (z := .agg #[.pointer none, .pointer none, .pointer none, .string ⟨#[]⟩]) (by kernel_rfl) rfl Tryz.underlying151 ⟨rfl, (by kernel_rfl), (by decide), rfl, (by kernel_rfl), (by decide), rfl, (by kernel_rfl), (by decide), rfl, (by kernel_rfl), (by decide), trivial⟩ (fun h => absurd rfl h) (fun h => absurd rfl h)
theorem tok152 : TIok Tryz.prog 152 ⟨0, [], .arr 0 16 1, 0⟩ := TIok.arr (z := .agg #[]) (by kernel_rfl) rfl Tryz.underlying152 (by kernel_rfl)
theorem tok155 : TIok Tryz.prog 155 ⟨1, [.nilFunc], .scalar, 0⟩ := TIok.scalar (z := .nilFunc) (by kernel_rfl) rfl Tryz.underlying155 (by simp) (by simp)
theorem tok156 : TIok Tryz.prog 156 ⟨1, [.int .u8 0], .int .u8, 0⟩ := TIok.int (by kernel_rfl) Tryz.underlying156
theorem tok157 : TIok Tryz.prog 157 ⟨1, [.int .u8 0], .int .u8, 0⟩ := TIok.int (by kernel_rfl) Tryz.underlying157
theorem tok158 : TIok Tryz.prog 158 ⟨1, [.nilFunc], .scalar, 0⟩ := TIok.scalar (z := .nilFunc) (by kernel_rfl) rfl Tryz.underlying158 (by simp) (by simp)
theorem tok159 : TIok Tryz.prog 159 ⟨1, [.pointer none], .scalar, 0⟩ := TIok.scalar (z := .pointer none) (by kernel_rfl) rfl Tryz.underlying159 (by simp) (by simp)
theorem tok160 : TIok Tryz.prog 160 ⟨1, [.int .i32 0], .int .i32, 0⟩ := TIok.int (by kernel_rfl) Tryz.underlying160
theorem tok161 : TIok Tryz.prog 161 ⟨1, [.int .i32 0], .int .i32, 0⟩ := TIok.int (by kernel_rfl) Tryz.underlying161
theorem tok162 : TIok Tryz.prog 162 ⟨11, [.int .u64 0, .int .u64 0, .int .u32 0, .int .u8 0, .int .u8 0, .int .u8 0, .int .u8 0, .nilFunc, .pointer none, .int .i32 0, .int .i32 0], .st [(0, 1), (1, 1), (2, 1), (3, 1), (4, 1), (5, 1), (6, 1), (7, 1), (8, 1), (9, 1), (10, 1)], 0⟩ := TIok.st (z := .agg #[.int .u64 0, .int .u64 0, .int .u32 0, .int .u8 0, .int .u8 0, .int .u8 0, .int .u8 0, .nilFunc, .pointer none, .int .i32 0, .int .i32 0]) (by kernel_rfl) rfl Tryz.underlying162 ⟨rfl, (by kernel_rfl), (by decide), rfl, (by kernel_rfl), (by decide), rfl, (by kernel_rfl), (by decide), rfl, (by kernel_rfl), (by decide), rfl, (by kernel_rfl), (by decide), rfl, (by kernel_rfl), (by decide), rfl, (by kernel_rfl), (by decide), rfl, (by kernel_rfl), (by decide), rfl, (by kernel_rfl), (by decide), rfl, (by kernel_rfl), (by decide), rfl, (by kernel_rfl), (by decide), trivial⟩ (fun h => absurd rfl h) (fun h => absurd rfl h)
theorem tok163 : TIok Tryz.prog 163 ⟨11, [.int .u64 0, .int .u64 0, .int .u32 0, .int .u8 0, .int .u8 0, .int .u8 0, .int .u8 0, .nilFunc, .pointer none, .int .i32 0, .int .i32 0], .st [(0, 1), (1, 1), (2, 1), (3, 1), (4, 1), (5, 1), (6, 1), (7, 1), (8, 1), (9, 1), (10, 1)], 0⟩ := TIok.st (z := .agg #[.int .u64 0, .int .u64 0, .int .u32 0, .int .u8 0, .int .u8 0, .int .u8 0, .int .u8 0, .nilFunc, .pointer none, .int .i32 0, .int .i32 0]) (by kernel_rfl) rfl Tryz.underlying163 ⟨rfl, (by kernel_rfl), (by decide), rfl, (by kernel_rfl), (by decide), rfl, (by kernel_rfl), (by decide), rfl, (by kernel_rfl), (by decide), rfl, (by kernel_rfl), (by decide), rfl, (by kernel_rfl), (by decide), rfl, (by kernel_rfl), (by decide), rfl, (by kernel_rfl), (by decide), rfl, (by kernel_rfl), (by decide), rfl, (by kernel_rfl), (by decide), rfl, (by kernel_rfl), (by decide), trivial⟩ (fun h => absurd rfl h) (fun h => absurd rfl h)
set_option maxRecDepth 20000 in
theorem Tok : TabOk Tryz.prog Tt :=
  TabOk.cons tok1 <| TabOk.cons tok2 <| TabOk.cons tok3 <| TabOk.cons tok4 <| TabOk.cons tok5 <| TabOk.cons tok6 <| TabOk.cons tok7 <| TabOk.cons tok8 <| TabOk.cons tok9 <| TabOk.cons tok10 <| TabOk.cons tok11 <| TabOk.cons tok12 <| TabOk.cons tok13 <| TabOk.cons tok14 <| TabOk.cons tok15 <| TabOk.cons tok16 <| TabOk.cons tok17 <| TabOk.cons tok18 <| TabOk.cons tok19 <| TabOk.cons tok20 <| TabOk.cons tok21 <| TabOk.cons tok22 <| TabOk.cons tok23 <| TabOk.cons tok24 <| TabOk.cons tok25 <| TabOk.cons tok26 <| TabOk.cons tok27 <| TabOk.cons tok28 <| TabOk.cons tok29 <| TabOk.cons tok30 <| TabOk.cons tok32 <| TabOk.cons tok33 <| TabOk.cons tok34 <| TabOk.cons tok36 <| TabOk.cons tok37 <| TabOk.cons tok39 <| TabOk.cons tok40 <| TabOk.cons tok42 <| TabOk.cons tok44 <| TabOk.cons tok45 <| TabOk.cons tok46 <| TabOk.cons tok47 <| TabOk.cons tok48 <| TabOk.cons tok49 <| TabOk.cons tok50 <| TabOk.cons tok52 <| TabOk.cons tok53 <| TabOk.cons tok54 <| TabOk.cons tok56 <| TabOk.cons tok58 <| TabOk.cons tok59 <| TabOk.cons tok60 <| TabOk.cons tok61 <| TabOk.cons tok62 <| TabOk.cons tok63 <| TabOk.cons tok64 <| TabOk.cons tok65 <| TabOk.cons tok66 <| TabOk.cons tok67 <| TabOk.cons tok68 <| TabOk.cons tok69 <| TabOk.cons tok70 <| TabOk.cons tok71 <| TabOk.cons tok72 <| TabOk.cons tok73 <| TabOk.cons tok74 <| TabOk.cons tok75 <| TabOk.cons tok76 <| TabOk.cons tok77 <| TabOk.cons tok78 <| TabOk.cons tok79 <| TabOk.cons tok80 <| TabOk.cons tok81 <| TabOk.cons tok82 <| TabOk.cons tok83 <| TabOk.cons tok84 <| TabOk.cons tok85 <| TabOk.cons tok86 <| TabOk.cons tok87 <| TabOk.cons tok88 <| TabOk.cons tok89 <| TabOk.cons tok90 <| TabOk.cons tok91 <| TabOk.cons tok92 <| TabOk.cons tok93 <| TabOk.cons tok94 <| TabOk.cons tok95 <| TabOk.cons tok96 <| TabOk.cons tok97 <| TabOk.cons tok98 <| TabOk.cons tok99 <| TabOk.cons tok100 <| TabOk.cons tok101 <| TabOk.cons tok102 <| TabOk.cons tok103 <| TabOk.cons tok104 <| TabOk.cons tok105 <| TabOk.cons tok106 <| TabOk.cons tok107 <| TabOk.cons tok108 <| TabOk.cons tok109 <| TabOk.cons tok110 <| TabOk.cons tok111 <| TabOk.cons tok112 <| TabOk.cons tok113 <| TabOk.cons tok114 <| TabOk.cons tok115 <| TabOk.cons tok116 <| TabOk.cons tok117 <| TabOk.cons tok118 <| TabOk.cons tok119 <| TabOk.cons tok120 <| TabOk.cons tok121 <| TabOk.cons tok122 <| TabOk.cons tok123 <| TabOk.cons tok124 <| TabOk.cons tok125 <| TabOk.cons tok127 <| TabOk.cons tok128 <| TabOk.cons tok129 <| TabOk.cons tok130 <| TabOk.cons tok132 <| TabOk.cons tok133 <| TabOk.cons tok134 <| TabOk.cons tok135 <| TabOk.cons tok136 <| TabOk.cons tok137 <| TabOk.cons tok138 <| TabOk.cons tok139 <| TabOk.cons tok140 <| TabOk.cons tok141 <| TabOk.cons tok142 <| TabOk.cons tok143 <| TabOk.cons tok144 <| TabOk.cons tok145 <| TabOk.cons tok146 <| TabOk.cons tok147 <| TabOk.cons tok148 <| TabOk.cons tok149 <| TabOk.cons tok150 <| TabOk.cons tok151 <| TabOk.cons tok152 <| TabOk.cons tok155 <| TabOk.cons tok156 <| TabOk.cons tok157 <| TabOk.cons tok158 <| TabOk.cons tok159 <| TabOk.cons tok160 <| TabOk.cons tok161 <| TabOk.cons tok162 <| TabOk.cons tok163 <| TabOk.nil
set_option maxRecDepth 20000 in
theorem tys :
    (tlook Tt 1 = some ⟨1, [.nilFunc], .scalar, 0⟩) ∧
    (tlook Tt 2 = some ⟨1, [.int .i64 0], .int .i64, 0⟩) ∧
    (tlook Tt 3 = some ⟨1, [.int .i64 0], .int .i64, 0⟩) ∧
    (tlook Tt 4 = some ⟨1, [.bool false], .scalar, 0⟩) ∧
    (tlook Tt 5 = some ⟨1, [.int .u8 0], .int .u8, 0⟩) ∧
    (tlook Tt 6 = some ⟨1, [.int .u8 0], .int .u8, 0⟩) ∧
    (tlook Tt 7 = some ⟨4, [.int .i64 0, .int .i64 0, .bool false, .int .u8 0], .st [(0, 1), (1, 1), (2, 1), (3, 1)], 0⟩) ∧
    (tlook Tt 8 = some ⟨4, [.int .i64 0, .int .i64 0, .bool false, .int .u8 0], .st [(0, 1), (1, 1), (2, 1), (3, 1)], 0⟩) ∧
    (tlook Tt 9 = some ⟨1, [.string ⟨#[]⟩], .str, 0⟩) ∧
    (tlook Tt 10 = some ⟨1, [.string ⟨#[]⟩], .str, 0⟩) ∧
    (tlook Tt 11 = some ⟨1, [.string ⟨#[]⟩], .str, 0⟩) ∧
    (tlook Tt 12 = some ⟨1, [.int .u64 0], .int .u64, 0⟩) ∧
    (tlook Tt 13 = some ⟨2, [.string ⟨#[]⟩, .int .u64 0], .st [(0, 1), (1, 1)], 0⟩) ∧
    (tlook Tt 14 = some ⟨2, [.string ⟨#[]⟩, .int .u64 0], .st [(0, 1), (1, 1)], 0⟩) ∧
    (tlook Tt 15 = some ⟨1, [.pointer none], .scalar, 0⟩) ∧
    (tlook Tt 16 = some ⟨1, [.pointer none], .scalar, 0⟩) ∧
    (tlook Tt 17 = some ⟨1, [.pointer none], .scalar, 0⟩) ∧
    (tlook Tt 18 = some ⟨1, [.pointer none], .st [(0, 1)], 0⟩) ∧
    (tlook Tt 19 = some ⟨1, [.pointer none], .st [(0, 1)], 0⟩) ∧
    (tlook Tt 20 = some ⟨1, [.nilIface], .scalar, 0⟩) ∧
    (tlook Tt 21 = some ⟨1, [.int .i32 0], .int .i32, 0⟩) ∧
    (tlook Tt 22 = some ⟨1, [.slice none 0 0], .sl 65 2 32 [.int .i64 0, .slice none 0 0], 0⟩) ∧
    (tlook Tt 23 = some ⟨1, [.slice none 0 0], .sl 3 1 8 [.int .i64 0], 0⟩) ∧
    (tlook Tt 24 = some ⟨4, [.slice none 0 0, .slice none 0 0, .slice none 0 0, .slice none 0 0], .st [(0, 1), (1, 1), (2, 1), (3, 1)], 0⟩) ∧
    (tlook Tt 25 = some ⟨4, [.slice none 0 0, .slice none 0 0, .slice none 0 0, .slice none 0 0], .st [(0, 1), (1, 1), (2, 1), (3, 1)], 0⟩) ∧
    (tlook Tt 26 = some ⟨1, [.nilFunc], .scalar, 0⟩) ∧
    (tlook Tt 27 = some ⟨1, [.nilFunc], .scalar, 0⟩) ∧
    (tlook Tt 28 = some ⟨1, [.nilFunc], .scalar, 0⟩) ∧
    (tlook Tt 29 = some ⟨2, [.slice none 0 0, .slice none 0 0], .arr 2 23 1, 0⟩) ∧
    (tlook Tt 30 = some ⟨1, [.int .i64 0], .int .i64, 0⟩) ∧
    (tlook Tt 32 = some ⟨1, [.nilFunc], .scalar, 0⟩) ∧
    (tlook Tt 33 = some ⟨1, [.nilFunc], .scalar, 0⟩) ∧
    (tlook Tt 34 = some ⟨1, [.slice none 0 0], .sl 37 2 16 [.int .i64 0, .int .i64 0], 0⟩) ∧
    (tlook Tt 36 = some ⟨1, [.nilFunc], .scalar, 0⟩) ∧
    (tlook Tt 37 = some ⟨2, [.int .i64 0, .int .i64 0], .arr 2 3 1, 2⟩) ∧
    (tlook Tt 39 = some ⟨1, [.nilFunc], .scalar, 0⟩) ∧
    (tlook Tt 40 = some ⟨1, [.nilFunc], .scalar, 0⟩) ∧
    (tlook Tt 42 = some ⟨1, [.nilFunc], .scalar, 0⟩) ∧
    (tlook Tt 44 = some ⟨1, [.nilFunc], .scalar, 0⟩) ∧
    (tlook Tt 45 = some ⟨1, [.nilFunc], .scalar, 0⟩) ∧
    (tlook Tt 46 = some ⟨1, [.nilFunc], .scalar, 0⟩) ∧
    (tlook Tt 47 = some ⟨1, [.nilFunc], .scalar, 0⟩) ∧
    (tlook Tt 48 = some ⟨1, [.nilFunc], .scalar, 0⟩) ∧
    (tlook Tt 49 = some ⟨7, [.int .i64 0, .int .i64 0, .int .i64 0, .string ⟨#[]⟩, .string ⟨#[]⟩, .int .i64 0, .int .i64 0], .st [(0, 1), (1, 1), (2, 1), (3, 1), (4, 1), (5, 1), (6, 1)], 1000231⟩) ∧
    (tlook Tt 50 = some ⟨7, [.int .i64 0, .int .i64 0, .int .i64 0, .string ⟨#[]⟩, .string ⟨#[]⟩, .int .i64 0, .int .i64 0], .st [(0, 1), (1, 1), (2, 1), (3, 1), (4, 1), (5, 1), (6, 1)], 1000231⟩) ∧
    (tlook Tt 52 = some ⟨1, [.nilFunc], .scalar, 0⟩) ∧
    (tlook Tt 53 = some ⟨1, [.nilFunc], .scalar, 0⟩) ∧
    (tlook Tt 54 = some ⟨14, [.int .i64 0, .int .i64 0, .int .i64 0, .string ⟨#[]⟩, .string ⟨#[]⟩, .int .i64 0, .int .i64 0, .int .i64 0, .int .i64 0, .int .i64 0, .string ⟨#[]⟩, .string ⟨#[]⟩, .int .i64 0, .int .i64 0], .arr 2 50 7, 0⟩) ∧
    (tlook Tt 56 = some ⟨1, [.nilFunc], .scalar, 0⟩) ∧
    (tlook Tt 58 = some ⟨1, [.nilFunc], .scalar, 0⟩) ∧
    (tlook Tt 59 = some ⟨1, [.slice none 0 0], .sl 9 1 16 [.string ⟨#[]⟩], 0⟩) ∧
    (tlook Tt 60 = some ⟨2, [.int .i64 0, .int .i64 0], .st [(0, 1), (1, 1)], 2⟩) ∧
    (tlook Tt 61 = some ⟨2, [.int .i64 0, .int .i64 0], .st [(0, 1), (1, 1)], 2⟩) ∧
    (tlook Tt 62 = some ⟨1, [.slice none 0 0], .sl 61 2 16 [.int .i64 0, .int .i64 0], 0⟩) ∧
    (tlook Tt 63 = some ⟨1, [.nilFunc], .scalar, 0⟩) ∧
    (tlook Tt 64 = some ⟨2, [.int .i64 0, .slice none 0 0], .st [(0, 1), (1, 1)], 0⟩) ∧
    (tlook Tt 65 = some ⟨2, [.int .i64 0, .slice none 0 0], .st [(0, 1), (1, 1)], 0⟩) ∧
    (tlook Tt 66 = some ⟨1, [.nilFunc], .scalar, 0⟩) ∧
    (tlook Tt 67 = some ⟨1, [.nilFunc], .scalar, 0⟩) ∧
    (tlook Tt 68 = some ⟨1, [.nilFunc], .scalar, 0⟩) ∧
    (tlook Tt 69 = some ⟨1, [.slice none 0 0], .sl 23 1 24 [.slice none 0 0], 0⟩) ∧
    (tlook Tt 70 = some ⟨1, [.nilFunc], .scalar, 0⟩) ∧
    (tlook Tt 71 = some ⟨2, [.slice none 0 0, .slice none 0 0], .arr 2 22 1, 0⟩) ∧
    (tlook Tt 72 = some ⟨1, [.nilFunc], .scalar, 0⟩) ∧
    (tlook Tt 73 = some ⟨1, [.nilFunc], .scalar, 0⟩) ∧
    (tlook Tt 74 = some ⟨1, [.nilFunc], .scalar, 0⟩) ∧
    (tlook Tt 75 = some ⟨1, [.nilFunc], .scalar, 0⟩) ∧
    (tlook Tt 76 = some ⟨1, [.nilFunc], .scalar, 0⟩) ∧
    (tlook Tt 77 = some ⟨1, [.nilFunc], .scalar, 0⟩) ∧
    (tlook Tt 78 = some ⟨1, [.nilFunc], .scalar, 0⟩) ∧
    (tlook Tt 79 = some ⟨1, [.nilFunc], .scalar, 0⟩) ∧
    (tlook Tt 80 = some ⟨1, [.pointer none], .scalar, 0⟩) ∧
    (tlook Tt 81 = some ⟨1, [.map none], .mp (some .i64) (.int .i64 0), 0⟩) ∧
    (tlook Tt 82 = some ⟨1, [.nilFunc], .scalar, 0⟩) ∧
    (tlook Tt 83 = some ⟨1, [.nilFunc], .scalar, 0⟩) ∧
    (tlook Tt 84 = some ⟨1, [.nilFunc], .scalar, 0⟩) ∧
    (tlook Tt 85 = some ⟨1, [.nilFunc], .scalar, 0⟩) ∧
    (tlook Tt 86 = some ⟨1, [.nilFunc], .scalar, 0⟩) ∧
    (tlook Tt 87 = some ⟨1, [.nilFunc], .scalar, 0⟩) ∧
    (tlook Tt 88 = some ⟨1, [.nilFunc], .scalar, 0⟩) ∧
    (tlook Tt 89 = some ⟨1, [.nilFunc], .scalar, 0⟩) ∧
    (tlook Tt 90 = some ⟨4, [.string ⟨#[]⟩, .string ⟨#[]⟩, .int .i64 0, .int .i64 0], .st [(0, 1), (1, 1), (2, 1), (3, 1)], 1000028⟩) ∧
    (tlook Tt 91 = some ⟨4, [.string ⟨#[]⟩, .string ⟨#[]⟩, .int .i64 0, .int .i64 0], .st [(0, 1), (1, 1), (2, 1), (3, 1)], 1000028⟩) ∧
    (tlook Tt 92 = some ⟨1, [.nilFunc], .scalar, 0⟩) ∧
    (tlook Tt 93 = some ⟨1, [.nilFunc], .scalar, 0⟩) ∧
    (tlook Tt 94 = some ⟨1, [.pointer none], .scalar, 0⟩) ∧
    (tlook Tt 95 = some ⟨2, [.pointer none, .pointer none], .st [(0, 1), (1, 1)], 0⟩) ∧
    (tlook Tt 96 = some ⟨2, [.pointer none, .pointer none], .st [(0, 1), (1, 1)], 0⟩) ∧
    (tlook Tt 97 = some ⟨1, [.nilFunc], .scalar, 0⟩) ∧
    (tlook Tt 98 = some ⟨1, [.slice none 0 0], .sl 50 7 72 [.int .i64 0, .int .i64 0, .int .i64 0, .string ⟨#[]⟩, .string ⟨#[]⟩, .int .i64 0, .int .i64 0], 0⟩) ∧
    (tlook Tt 99 = some ⟨1, [.nilFunc], .scalar, 0⟩) ∧
    (tlook Tt 100 = some ⟨1, [.nilFunc], .scalar, 0⟩) ∧
    (tlook Tt 101 = some ⟨1, [.nilFunc], .scalar, 0⟩) ∧
    (tlook Tt 102 = some ⟨1, [.nilFunc], .scalar, 0⟩) ∧
    (tlook Tt 103 = some ⟨1, [.pointer none], .scalar, 0⟩) ∧
    (tlook Tt 104 = some ⟨1, [.nilFunc], .scalar, 0⟩) ∧
    (tlook Tt 105 = some ⟨1, [.nilFunc], .scalar, 0⟩) ∧
    (tlook Tt 106 = some ⟨1, [.nilFunc], .scalar, 0⟩) ∧
    (tlook Tt 107 = some ⟨1, [.nilFunc], .scalar, 0⟩) ∧
    (tlook Tt 108 = some ⟨1, [.nilFunc], .scalar, 0⟩) ∧
    (tlook Tt 109 = some ⟨1, [.nilFunc], .scalar, 0⟩) ∧
    (tlook Tt 110 = some ⟨1, [.slice none 0 0], .sl 59 1 24 [.slice none 0 0], 0⟩) ∧
    (tlook Tt 111 = some ⟨1, [.nilFunc], .scalar, 0⟩) ∧
    (tlook Tt 112 = some ⟨1, [.slice none 0 0], .sl 5 1 1 [.int .u8 0], 0⟩) ∧
    (tlook Tt 113 = some ⟨1, [.nilFunc], .scalar, 0⟩) ∧
    (tlook Tt 114 = some ⟨1, [.nilFunc], .scalar, 0⟩) ∧
    (tlook Tt 115 = some ⟨1, [.nilFunc], .scalar, 0⟩) ∧
    (tlook Tt 116 = some ⟨1, [.int .u64 0], .int .u64, 0⟩) ∧
    (tlook Tt 117 = some ⟨1, [.nilFunc], .scalar, 0⟩) ∧
    (tlook Tt 118 = some ⟨1, [.nilFunc], .scalar, 0⟩) ∧
    (tlook Tt 119 = some ⟨1, [.nilFunc], .scalar, 0⟩) ∧
    (tlook Tt 120 = some ⟨1, [.nilFunc], .scalar, 0⟩) ∧
    (tlook Tt 121 = some ⟨2, [.int .i64 0, .int .i64 0], .st [(0, 1), (1, 1)], 2⟩) ∧
    (tlook Tt 122 = some ⟨2, [.int .i64 0, .int .i64 0], .st [(0, 1), (1, 1)], 2⟩) ∧
    (tlook Tt 123 = some ⟨1, [.nilFunc], .scalar, 0⟩) ∧
    (tlook Tt 124 = some ⟨1, [.nilFunc], .scalar, 0⟩) ∧
    (tlook Tt 125 = some ⟨1, [.int .i64 0], .int .i64, 0⟩) ∧
    (tlook Tt 127 = some ⟨1, [.nilFunc], .scalar, 0⟩) ∧
    (tlook Tt 128 = some ⟨1, [.nilFunc], .scalar, 0⟩) ∧
    (tlook Tt 129 = some ⟨1, [.nilFunc], .scalar, 0⟩) ∧
    (tlook Tt 130 = some ⟨1, [.nilFunc], .scalar, 0⟩) ∧
    (tlook Tt 132 = some ⟨1, [.nilFunc], .scalar, 0⟩) ∧
    (tlook Tt 133 = some ⟨1, [.nilFunc], .scalar, 0⟩) ∧
    (tlook Tt 134 = some ⟨1, [.int .u32 0], .int .u32, 0⟩) ∧
    (tlook Tt 135 = some ⟨1, [.nilFunc], .scalar, 0⟩) ∧
    (tlook Tt 136 = some ⟨1, [.int .u64 0], .int .u64, 0⟩) ∧
    (tlook Tt 137 = some ⟨1, [.nilFunc], .scalar, 0⟩) ∧
    (tlook Tt 138 = some ⟨1, [.nilFunc], .scalar, 0⟩) ∧
    (tlook Tt 139 = some ⟨1, [.int .u64 0], .int .u64, 0⟩) ∧
    (tlook Tt 140 = some ⟨1, [.nilFunc], .scalar, 0⟩) ∧
    (tlook Tt 141 = some ⟨1, [.nilFunc], .scalar, 0⟩) ∧
    (tlook Tt 142 = some ⟨1, [.nilFunc], .scalar, 0⟩) ∧
    (tlook Tt 143 = some ⟨1, [.nilFunc], .scalar, 0⟩) ∧
    (tlook Tt 144 = some ⟨1, [.nilFunc], .scalar, 0⟩) ∧
    (tlook Tt 145 = some ⟨1, [.nilFunc], .scalar, 0⟩) ∧
    (tlook Tt 146 = some ⟨1, [.nilFunc], .scalar, 0⟩) ∧
    (tlook Tt 147 = some ⟨1, [.pointer none], .scalar, 0⟩) ∧
    (tlook Tt 148 = some ⟨1, [.nilFunc], .scalar, 0⟩) ∧
    (tlook Tt 149 = some ⟨1, [.nilFunc], .scalar, 0⟩) ∧
    (tlook Tt 150 = some ⟨4, [.pointer none, .pointer none, .pointer none, .string ⟨#[]⟩], .st [(0, 1), (1, 1), (2, 1), (3, 1)], 0⟩) ∧
    (tlook Tt 151 = some ⟨4, [.pointer none, .pointer none, .pointer none, .string ⟨#[]⟩], .st [(0, 1), (1, 1), (2, 1), (3, 1)], 0⟩) ∧
    (tlook Tt 152 = some ⟨0, [], .arr 0 16 1, 0⟩) ∧
    (tlook Tt 155 = some ⟨1, [.nilFunc], .scalar, 0⟩) ∧
    (tlook Tt 156 = some ⟨1, [.int .u8 0], .int .u8, 0⟩) ∧
    (tlook Tt 157 = some ⟨1, [.int .u8 0], .int .u8, 0⟩) ∧
    (tlook Tt 158 = some ⟨1, [.nilFunc], .scalar, 0⟩) ∧
    (tlook Tt 159 = some ⟨1, [.pointer none], .scalar, 0⟩) ∧
    (tlook Tt 160 = some ⟨1, [.int .i32 0], .int .i32, 0⟩) ∧
    (tlook Tt 161 = some ⟨1, [.int .i32 0], .int .i32, 0⟩) ∧
    (tlook Tt 162 = some ⟨11, [.int .u64 0, .int .u64 0, .int .u32 0, .int .u8 0, .int .u8 0, .int .u8 0, .int .u8 0, .nilFunc, .pointer none, .int .i32 0, .int .i32 0], .st [(0, 1), (1, 1), (2, 1), (3, 1), (4, 1), (5, 1), (6, 1), (7, 1), (8, 1), (9, 1), (10, 1)], 0⟩) ∧
    (tlook Tt 163 = some ⟨11, [.int .u64 0, .int .u64 0, .int .u32 0, .int .u8 0, .int .u8 0, .int .u8 0, .int .u8 0, .nilFunc, .pointer none, .int .i32 0, .int .i32 0], .st [(0, 1), (1, 1), (2, 1), (3, 1), (4, 1), (5, 1), (6, 1), (7, 1), (8, 1), (9, 1), (10, 1)], 0⟩) :=
  ⟨rfl, rfl, rfl, rfl, rfl, rfl, rfl, rfl, rfl, rfl, rfl, rfl, rfl, rfl, rfl, rfl, rfl, rfl, rfl, rfl, rfl, rfl, rfl, rfl, rfl, rfl, rfl, rfl, rfl, rfl, rfl, rfl, rfl, rfl, rfl, rfl, rfl, rfl, rfl, rfl, rfl, rfl, rfl, rfl, rfl, rfl, rfl, rfl, rfl, rfl, rfl, rfl, rfl, rfl, rfl, rfl, rfl, rfl, rfl, rfl, rfl, rfl, rfl, rfl, rfl, rfl, rfl, rfl, rfl, rfl, rfl, rfl, rfl, rfl, rfl, rfl, rfl, rfl, rfl, rfl, rfl, rfl, rfl, rfl, rfl, rfl, rfl, rfl, rfl, rfl, rfl, rfl, rfl, rfl, rfl, rfl, rfl, rfl, rfl, rfl, rfl, rfl, rfl, rfl, rfl, rfl, rfl, rfl, rfl, rfl, rfl, rfl, rfl, rfl, rfl, rfl, rfl, rfl, rfl, rfl, rfl, rfl, rfl, rfl, rfl, rfl, rfl, rfl, rfl, rfl, rfl, rfl, rfl, rfl, rfl, rfl, rfl, rfl, rfl, rfl, rfl, rfl, rfl, rfl, rfl, rfl, rfl, rfl, rfl, rfl, rfl⟩
end Go.Proofs.YthkkcemefngeiaaGreat
