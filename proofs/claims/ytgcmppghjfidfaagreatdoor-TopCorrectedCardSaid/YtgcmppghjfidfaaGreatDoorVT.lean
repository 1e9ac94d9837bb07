/-
 The executor's table of this program's types, proved. Written by gen_t.py.
-/
import Derived.Test.YtgcmppghjfidfaaGreatDoorVLib
import Derived.Test.YtgcmppghjfidfaaGreatDoorVTabA
import Derived.Test.YtgcmppghjfidfaaGreatDoorProg
import Derived.KernelRfl
namespace Go.Proofs.YtgcmppghjfidfaaGreatDoor
open Go Go.Vx
set_option linter.unusedSimpArgs false
def Tt : Tab := [
 (1, ⟨1, [.nilFunc], .scalar, 0⟩),
 (2, ⟨1, [.int .i64 0], .int .i64, 0⟩),
 (3, ⟨1, [.int .i64 0], .int .i64, 0⟩),
 (4, ⟨1, [.bool false], .scalar, 0⟩),
 (5, ⟨1, [.int .u8 0], .int .u8, 0⟩),
 (6, ⟨1, [.int .u8 0], .int .u8, 0⟩),
 (7, ⟨4, [.int .i64 0, .int .i64 0, .bool false, .int .u8 0], .st [(0, 1), (1, 1), (2, 1), (3, 1)], 0⟩),
 (8, ⟨4, [.int .i64 0, .int .i64 0, .bool false, .int .u8 0], .st [(0, 1), (1, 1), (2, 1), (3, 1)], 0⟩),
 (9, ⟨1, [.string ⟨#[]⟩], .str, 0⟩),
 (11, ⟨1, [.string ⟨#[]⟩], .str, 0⟩),
 (12, ⟨1, [.int .u64 0], .int .u64, 0⟩),
 (15, ⟨1, [.pointer none], .scalar, 0⟩),
 (16, ⟨1, [.pointer none], .scalar, 0⟩),
 (18, ⟨1, [.pointer none], .st [(0, 1)], 0⟩),
 (19, ⟨1, [.pointer none], .st [(0, 1)], 0⟩),
 (20, ⟨1, [.nilIface], .ifc, 0⟩),
 (21, ⟨1, [.int .i32 0], .int .i32, 0⟩),
 (22, ⟨1, [.slice none 0 0], .sl 81 2 32 [.int .i64 0, .slice none 0 0], 0⟩),
 (23, ⟨1, [.slice none 0 0], .sl 78 7 72 [.int .i64 0, .int .i64 0, .int .i64 0, .string ⟨#[]⟩, .string ⟨#[]⟩, .int .i64 0, .int .i64 0], 0⟩),
 (24, ⟨1, [.nilFunc], .scalar, 0⟩),
 (25, ⟨1, [.nilFunc], .scalar, 0⟩),
 (29, ⟨1, [.nilFunc], .scalar, 0⟩),
 (30, ⟨1, [.int .i64 0], .int .i64, 0⟩),
 (32, ⟨1, [.nilFunc], .scalar, 0⟩),
 (33, ⟨1, [.nilFunc], .scalar, 0⟩),
 (35, ⟨1, [.nilFunc], .scalar, 0⟩),
 (42, ⟨1, [.nilFunc], .scalar, 0⟩),
 (44, ⟨2, [.int .i64 0, .int .i64 0], .arr 2 3 1, 2⟩),
 (46, ⟨1, [.nilFunc], .scalar, 0⟩),
 (47, ⟨1, [.nilFunc], .scalar, 0⟩),
 (48, ⟨1, [.slice none 0 0], .sl 116 4 48 [.string ⟨#[]⟩, .string ⟨#[]⟩, .int .i64 0, .int .i64 0], 0⟩),
 (49, ⟨3, [.string ⟨#[]⟩, .int .i64 0, .slice none 0 0], .st [(0, 1), (1, 1), (2, 1)], 0⟩),
 (50, ⟨3, [.string ⟨#[]⟩, .int .i64 0, .slice none 0 0], .st [(0, 1), (1, 1), (2, 1)], 0⟩),
 (51, ⟨1, [.slice none 0 0], .sl 9 1 16 [.string ⟨#[]⟩], 0⟩),
 (52, ⟨5, [.slice none 0 0, .slice none 0 0, .slice none 0 0, .int .i64 0, .int .i64 0], .st [(0, 1), (1, 1), (2, 1), (3, 1), (4, 1)], 0⟩),
 (53, ⟨5, [.slice none 0 0, .slice none 0 0, .slice none 0 0, .int .i64 0, .int .i64 0], .st [(0, 1), (1, 1), (2, 1), (3, 1), (4, 1)], 0⟩),
 (54, ⟨8, [.string ⟨#[]⟩, .int .i64 0, .slice none 0 0, .slice none 0 0, .slice none 0 0, .slice none 0 0, .int .i64 0, .int .i64 0], .st [(0, 3), (3, 5)], 0⟩),
 (55, ⟨8, [.string ⟨#[]⟩, .int .i64 0, .slice none 0 0, .slice none 0 0, .slice none 0 0, .slice none 0 0, .int .i64 0, .int .i64 0], .st [(0, 3), (3, 5)], 0⟩),
 (56, ⟨1, [.nilFunc], .scalar, 0⟩),
 (57, ⟨1, [.nilFunc], .scalar, 0⟩),
 (58, ⟨1, [.nilFunc], .scalar, 0⟩),
 (60, ⟨1, [.slice none 0 0], .sl 3 1 8 [.int .i64 0], 0⟩),
 (62, ⟨1, [.nilFunc], .scalar, 0⟩),
 (63, ⟨1, [.nilFunc], .scalar, 0⟩),
 (64, ⟨1, [.nilFunc], .scalar, 0⟩),
 (65, ⟨2, [.slice none 0 0, .slice none 0 0], .arr 2 60 1, 0⟩),
 (67, ⟨1, [.nilFunc], .scalar, 0⟩),
 (69, ⟨1, [.slice none 0 0], .sl 44 2 16 [.int .i64 0, .int .i64 0], 0⟩),
 (72, ⟨1, [.nilFunc], .scalar, 0⟩),
 (76, ⟨1, [.nilFunc], .scalar, 0⟩),
 (77, ⟨7, [.int .i64 0, .int .i64 0, .int .i64 0, .string ⟨#[]⟩, .string ⟨#[]⟩, .int .i64 0, .int .i64 0], .st [(0, 1), (1, 1), (2, 1), (3, 1), (4, 1), (5, 1), (6, 1)], 1000231⟩),
 (78, ⟨7, [.int .i64 0, .int .i64 0, .int .i64 0, .string ⟨#[]⟩, .string ⟨#[]⟩, .int .i64 0, .int .i64 0], .st [(0, 1), (1, 1), (2, 1), (3, 1), (4, 1), (5, 1), (6, 1)], 1000231⟩),
 (80, ⟨2, [.int .i64 0, .slice none 0 0], .st [(0, 1), (1, 1)], 0⟩),
 (81, ⟨2, [.int .i64 0, .slice none 0 0], .st [(0, 1), (1, 1)], 0⟩),
 (82, ⟨1, [.nilFunc], .scalar, 0⟩),
 (83, ⟨1, [.nilFunc], .scalar, 0⟩),
 (85, ⟨1, [.nilFunc], .scalar, 0⟩),
 (86, ⟨1, [.nilFunc], .scalar, 0⟩),
 (88, ⟨1, [.slice none 0 0], .sl 5 1 1 [.int .u8 0], 0⟩),
 (89, ⟨2, [.pointer none, .slice none 0 0], .st [(0, 1), (1, 1)], 0⟩),
 (92, ⟨1, [.nilIface], .ifc, 0⟩),
 (94, ⟨1, [.nilFunc], .scalar, 0⟩),
 (95, ⟨1, [.nilFunc], .scalar, 0⟩),
 (96, ⟨1, [.nilFunc], .scalar, 0⟩),
 (97, ⟨1, [.nilFunc], .scalar, 0⟩),
 (98, ⟨1, [.nilFunc], .scalar, 0⟩),
 (99, ⟨1, [.nilFunc], .scalar, 0⟩),
 (101, ⟨1, [.nilFunc], .scalar, 0⟩),
 (103, ⟨1, [.nilFunc], .scalar, 0⟩),
 (104, ⟨1, [.nilFunc], .scalar, 0⟩),
 (105, ⟨1, [.nilFunc], .scalar, 0⟩),
 (107, ⟨1, [.nilFunc], .scalar, 0⟩),
 (108, ⟨1, [.nilFunc], .scalar, 0⟩),
 (111, ⟨1, [.nilFunc], .scalar, 0⟩),
 (113, ⟨1, [.nilFunc], .scalar, 0⟩),
 (114, ⟨2, [.slice none 0 0, .slice none 0 0], .arr 2 22 1, 0⟩),
 (115, ⟨4, [.string ⟨#[]⟩, .string ⟨#[]⟩, .int .i64 0, .int .i64 0], .st [(0, 1), (1, 1), (2, 1), (3, 1)], 1000028⟩),
 (116, ⟨4, [.string ⟨#[]⟩, .string ⟨#[]⟩, .int .i64 0, .int .i64 0], .st [(0, 1), (1, 1), (2, 1), (3, 1)], 1000028⟩),
 (117, ⟨1, [.nilFunc], .scalar, 0⟩),
 (118, ⟨1, [.nilFunc], .scalar, 0⟩),
 (119, ⟨1, [.slice none 0 0], .sl 123 2 48 [.slice none 0 0, .slice none 0 0], 0⟩),
 (121, ⟨1, [.nilFunc], .scalar, 0⟩),
 (123, ⟨2, [.slice none 0 0, .slice none 0 0], .st [(0, 1), (1, 1)], 0⟩),
 (124, ⟨3, [.string ⟨#[]⟩, .int .i64 0, .slice none 0 0], .st [(0, 3)], 0⟩),
 (125, ⟨3, [.string ⟨#[]⟩, .int .i64 0, .slice none 0 0], .st [(0, 3)], 0⟩),
 (126, ⟨1, [.pointer none], .scalar, 0⟩),
 (131, ⟨1, [.slice none 0 0], .sl 207 1 8 [.pointer none], 0⟩),
 (132, ⟨1, [.map none], .mp none (.slice none 0 0), 0⟩),
 (134, ⟨8, [.slice none 0 0, .slice none 0 0, .slice none 0 0, .int .i64 0, .int .i64 0, .slice none 0 0, .map none, .map none], .st [(0, 5), (5, 1), (6, 1), (7, 1)], 0⟩),
 (135, ⟨1, [.nilFunc], .scalar, 0⟩),
 (137, ⟨1, [.slice none 0 0], .sl 60 1 24 [.slice none 0 0], 0⟩),
 (141, ⟨1, [.slice none 0 0], .sl 23 1 24 [.slice none 0 0], 0⟩),
 (143, ⟨2, [.string ⟨#[]⟩, .nilFunc], .st [(0, 1), (1, 1)], 0⟩),
 (145, ⟨1, [.slice none 0 0], .sl 144 2 24 [.string ⟨#[]⟩, .nilFunc], 0⟩),
 (149, ⟨1, [.pointer none], .scalar, 0⟩),
 (150, ⟨1, [.pointer none], .scalar, 0⟩),
 (156, ⟨1, [.nilFunc], .scalar, 0⟩),
 (162, ⟨2, [.string ⟨#[]⟩, .slice none 0 0], .st [(0, 1), (1, 1)], 0⟩),
 (170, ⟨1, [.nilFunc], .scalar, 0⟩),
 (173, ⟨1, [.map none], .mp (some .i64) (.int .i64 0), 0⟩),
 (175, ⟨1, [.nilFunc], .scalar, 0⟩),
 (176, ⟨1, [.nilFunc], .scalar, 0⟩),
 (179, ⟨4, [.string ⟨#[]⟩, .string ⟨#[]⟩, .int .i64 0, .int .i64 0], .st [(0, 1), (1, 1), (2, 1), (3, 1)], 1000028⟩),
 (181, ⟨1, [.nilFunc], .scalar, 0⟩),
 (187, ⟨1, [.nilFunc], .scalar, 0⟩),
 (188, ⟨1, [.pointer none], .scalar, 0⟩),
 (191, ⟨1, [.nilFunc], .scalar, 0⟩),
 (199, ⟨1, [.nilFunc], .scalar, 0⟩),
 (202, ⟨1, [.map none], .mp none (.int .i64 0), 0⟩),
 (203, ⟨2, [.map none, .map none], .st [(0, 1), (1, 1)], 0⟩),
 (204, ⟨2, [.map none, .map none], .st [(0, 1), (1, 1)], 0⟩),
 (206, ⟨1, [.nilFunc], .scalar, 0⟩),
 (207, ⟨1, [.pointer none], .scalar, 0⟩),
 (210, ⟨1, [.nilFunc], .scalar, 0⟩),
 (211, ⟨4, [.slice none 0 0, .string ⟨#[]⟩, .map none, .nilFunc], .st [(0, 1), (1, 1), (2, 1), (3, 1)], 0⟩),
 (212, ⟨8, [.slice none 0 0, .string ⟨#[]⟩, .map none, .nilFunc, .slice none 0 0, .string ⟨#[]⟩, .map none, .nilFunc], .arr 2 211 4, 0⟩),
 (214, ⟨1, [.nilFunc], .scalar, 0⟩),
 (215, ⟨1, [.nilFunc], .scalar, 0⟩),
 (216, ⟨1, [.nilFunc], .scalar, 0⟩),
 (221, ⟨1, [.nilFunc], .scalar, 0⟩),
 (223, ⟨1, [.slice none 0 0], .sl 51 1 24 [.slice none 0 0], 0⟩),
 (225, ⟨1, [.nilFunc], .scalar, 0⟩),
 (229, ⟨1, [.nilFunc], .scalar, 0⟩),
 (232, ⟨4, [.string ⟨#[]⟩, .slice none 0 0, .bool false, .bool false], .st [(0, 1), (1, 1), (2, 1), (3, 1)], 0⟩),
 (235, ⟨1, [.nilFunc], .scalar, 0⟩),
 (237, ⟨1, [.int .u64 0], .int .u64, 0⟩),
 (240, ⟨1, [.nilFunc], .scalar, 0⟩),
 (265, ⟨1, [.int .u32 0], .int .u32, 0⟩),
 (287, ⟨32, [.int .u8 0, .int .u8 0, .int .u8 0, .int .u8 0, .int .u8 0, .int .u8 0, .int .u8 0, .int .u8 0, .int .u8 0, .int .u8 0, .int .u8 0, .int .u8 0, .int .u8 0, .int .u8 0, .int .u8 0, .int .u8 0, .int .u8 0, .int .u8 0, .int .u8 0, .int .u8 0, .int .u8 0, .int .u8 0, .int .u8 0, .int .u8 0, .int .u8 0, .int .u8 0, .int .u8 0, .int .u8 0, .int .u8 0, .int .u8 0, .int .u8 0, .int .u8 0], .arr 16 286 2, 0⟩),
 (288, ⟨1, [.nilFunc], .scalar, 0⟩),
 (293, ⟨2, [.int .i64 0, .int .i64 0], .st [(0, 1), (1, 1)], 2⟩),
 (294, ⟨8, [.int .i64 0, .int .i64 0, .int .i64 0, .int .i64 0, .int .i64 0, .int .i64 0, .int .i64 0, .int .i64 0], .arr 4 293 2, 8⟩)]
theorem tok1 : TIok Tryz.prog 1 ⟨1, [.nilFunc], .scalar, 0⟩ := TIok.scalar (z := .nilFunc) (by kernel_rfl) rfl Tryz.underlying1 (by simp) (by simp) (by simp)
theorem tok2 : TIok Tryz.prog 2 ⟨1, [.int .i64 0], .int .i64, 0⟩ := TIok.int (by kernel_rfl) Tryz.underlying2
theorem tok3 : TIok Tryz.prog 3 ⟨1, [.int .i64 0], .int .i64, 0⟩ := TIok.int (by kernel_rfl) Tryz.underlying3
theorem tok4 : TIok Tryz.prog 4 ⟨1, [.bool false], .scalar, 0⟩ := TIok.scalar (z := .bool false) (by kernel_rfl) rfl Tryz.underlying4 (by simp) (by simp) (by simp)
theorem tok5 : TIok Tryz.prog 5 ⟨1, [.int .u8 0], .int .u8, 0⟩ := TIok.int (by kernel_rfl) Tryz.underlying5
theorem tok6 : TIok Tryz.prog 6 ⟨1, [.int .u8 0], .int .u8, 0⟩ := TIok.int (by kernel_rfl) Tryz.underlying6
theorem tok7 : TIok Tryz.prog 7 ⟨4, [.int .i64 0, .int .i64 0, .bool false, .int .u8 0], .st [(0, 1), (1, 1), (2, 1), (3, 1)], 0⟩ := TIok.st (z := .agg #[.int .i64 0, .int .i64 0, .bool false, .int .u8 0]) (by kernel_rfl) rfl Tryz.underlying7 ⟨rfl, (by kernel_rfl), (by decide), rfl, (by kernel_rfl), (by decide), rfl, (by kernel_rfl), (by decide), rfl, (by kernel_rfl), (by decide), trivial⟩ (fun h => absurd rfl h) (fun h => absurd rfl h)
theorem tok8 : TIok Tryz.prog 8 ⟨4, [.int .i64 0, .int .i64 0, .bool false, .int .u8 0], .st [(0, 1), (1, 1), (2, 1), (3, 1)], 0⟩ := TIok.st (z := .agg #[.int .i64 0, .int .i64 0, .bool false, .int .u8 0]) (by kernel_rfl) rfl Tryz.underlying8 ⟨rfl, (by kernel_rfl), (by decide), rfl, (by kernel_rfl), (by decide), rfl, (by kernel_rfl), (by decide), rfl, (by kernel_rfl), (by decide), trivial⟩ (fun h => absurd rfl h) (fun h => absurd rfl h)
theorem tok9 : TIok Tryz.prog 9 ⟨1, [.string ⟨#[]⟩], .str, 0⟩ := TIok.str (by kernel_rfl) Tryz.underlying9
theorem tok11 : TIok Tryz.prog 11 ⟨1, [.string ⟨#[]⟩], .str, 0⟩ := TIok.str (by kernel_rfl) Tryz.underlying11
theorem tok12 : TIok Tryz.prog 12 ⟨1, [.int .u64 0], .int .u64, 0⟩ := TIok.int (by kernel_rfl) Tryz.underlying12
theorem tok15 : TIok Tryz.prog 15 ⟨1, [.pointer none], .scalar, 0⟩ := TIok.scalar (z := .pointer none) (by kernel_rfl) rfl Tryz.underlying15 (by simp) (by simp) (by simp)
theorem tok16 : TIok Tryz.prog 16 ⟨1, [.pointer none], .scalar, 0⟩ := TIok.scalar (z := .pointer none) (by kernel_rfl) rfl Tryz.underlying16 (by simp) (by simp) (by simp)
theorem tok18 : TIok Tryz.prog 18 ⟨1, [.pointer none], .st [(0, 1)], 0⟩ := TIok.st (z := .agg #[.pointer none]) (by kernel_rfl) rfl Tryz.underlying18 ⟨rfl, (by kernel_rfl), (by decide), trivial⟩ (fun h => absurd rfl h) (fun h => absurd rfl h)
theorem tok19 : TIok Tryz.prog 19 ⟨1, [.pointer none], .st [(0, 1)], 0⟩ := TIok.st (z := .agg #[.pointer none]) (by kernel_rfl) rfl Tryz.underlying19 ⟨rfl, (by kernel_rfl), (by decide), trivial⟩ (fun h => absurd rfl h) (fun h => absurd rfl h)
theorem tok20 : TIok Tryz.prog 20 ⟨1, [.nilIface], .ifc, 0⟩ := TIok.ifc (by kernel_rfl) Tryz.underlying20
theorem tok21 : TIok Tryz.prog 21 ⟨1, [.int .i32 0], .int .i32, 0⟩ := TIok.int (by kernel_rfl) Tryz.underlying21
theorem tok22 : TIok Tryz.prog 22 ⟨1, [.slice none 0 0], .sl 81 2 32 [.int .i64 0, .slice none 0 0], 0⟩ := TIok.sl (z := .agg #[.int .i64 0, .slice none 0 0]) (by kernel_rfl) Tryz.underlying22 (by kernel_rfl) rfl (by decide) (by decide) rfl rfl
theorem tok23 : TIok Tryz.prog 23 ⟨1, [.slice none 0 0], .sl 78 7 72 [.int .i64 0, .int .i64 0, .int .i64 0, .string ⟨#[]⟩, .string ⟨#[]⟩, .int .i64 0, .int .i64 0], 0⟩ := TIok.sl (z := .agg #[.int .i64 0, .int .i64 0, .int .i64 0, .string ⟨#[]⟩, .string ⟨#[]⟩, .int .i64 0, .int .i64 0]) (by kernel_rfl) Tryz.underlying23 (by kernel_rfl) rfl (by decide) (by decide) rfl rfl
theorem tok24 : TIok Tryz.prog 24 ⟨1, [.nilFunc], .scalar, 0⟩ := TIok.scalar (z := .nilFunc) (by kernel_rfl) rfl Tryz.underlying24 (by simp) (by simp) (by simp)
theorem tok25 : TIok Tryz.prog 25 ⟨1, [.nilFunc], .scalar, 0⟩ := TIok.scalar (z := .nilFunc) (by kernel_rfl) rfl Tryz.underlying25 (by simp) (by simp) (by simp)
theorem tok29 : TIok Tryz.prog 29 ⟨1, [.nilFunc], .scalar, 0⟩ := TIok.scalar (z := .nilFunc) (by kernel_rfl) rfl Tryz.underlying29 (by simp) (by simp) (by simp)
theorem tok30 : TIok Tryz.prog 30 ⟨1, [.int .i64 0], .int .i64, 0⟩ := TIok.int (by kernel_rfl) Tryz.underlying30
theorem tok32 : TIok Tryz.prog 32 ⟨1, [.nilFunc], .scalar, 0⟩ := TIok.scalar (z := .nilFunc) (by kernel_rfl) rfl Tryz.underlying32 (by simp) (by simp) (by simp)
theorem tok33 : TIok Tryz.prog 33 ⟨1, [.nilFunc], .scalar, 0⟩ := TIok.scalar (z := .nilFunc) (by kernel_rfl) rfl Tryz.underlying33 (by simp) (by simp) (by simp)
theorem tok35 : TIok Tryz.prog 35 ⟨1, [.nilFunc], .scalar, 0⟩ := TIok.scalar (z := .nilFunc) (by kernel_rfl) rfl Tryz.underlying35 (by simp) (by simp) (by simp)
theorem tok42 : TIok Tryz.prog 42 ⟨1, [.nilFunc], .scalar, 0⟩ := TIok.scalar (z := .nilFunc) (by kernel_rfl) rfl Tryz.underlying42 (by simp) (by simp) (by simp)
theorem tok44 : TIok Tryz.prog 44 ⟨2, [.int .i64 0, .int .i64 0], .arr 2 3 1, 2⟩ := TIok.arrE (z := .agg #[.int .i64 0, .int .i64 0]) (by kernel_rfl) rfl Tryz.underlying44 (by kernel_rfl) rfl Tryz.eqGuardType44 (PartEq.int Tryz.underlying3)
theorem tok46 : TIok Tryz.prog 46 ⟨1, [.nilFunc], .scalar, 0⟩ := TIok.scalar (z := .nilFunc) (by kernel_rfl) rfl Tryz.underlying46 (by simp) (by simp) (by simp)
theorem tok47 : TIok Tryz.prog 47 ⟨1, [.nilFunc], .scalar, 0⟩ := TIok.scalar (z := .nilFunc) (by kernel_rfl) rfl Tryz.underlying47 (by simp) (by simp) (by simp)
theorem tok48 : TIok Tryz.prog 48 ⟨1, [.slice none 0 0], .sl 116 4 48 [.string ⟨#[]⟩, .string ⟨#[]⟩, .int .i64 0, .int .i64 0], 0⟩ := TIok.sl (z := .agg #[.string ⟨#[]⟩, .string ⟨#[]⟩, .int .i64 0, .int .i64 0]) (by kernel_rfl) Tryz.underlying48 (by kernel_rfl) rfl (by decide) (by decide) rfl rfl
theorem tok49 : TIok Tryz.prog 49 ⟨3, [.string ⟨#[]⟩, .int .i64 0, .slice none 0 0], .st [(0, 1), (1, 1), (2, 1)], 0⟩ := TIok.st (z := .agg #[.string ⟨#[]⟩, .int .i64 0, .slice none 0 0]) (by kernel_rfl) rfl Tryz.underlying49 ⟨rfl, (by kernel_rfl), (by decide), rfl, (by kernel_rfl), (by decide), rfl, (by kernel_rfl), (by decide), trivial⟩ (fun h => absurd rfl h) (fun h => absurd rfl h)
theorem tok50 : TIok Tryz.prog 50 ⟨3, [.string ⟨#[]⟩, .int .i64 0, .slice none 0 0], .st [(0, 1), (1, 1), (2, 1)], 0⟩ := TIok.st (z := .agg #[.string ⟨#[]⟩, .int .i64 0, .slice none 0 0]) (by kernel_rfl) rfl Tryz.underlying50 ⟨rfl, (by kernel_rfl), (by decide), rfl, (by kernel_rfl), (by decide), rfl, (by kernel_rfl), (by decide), trivial⟩ (fun h => absurd rfl h) (fun h => absurd rfl h)
theorem tok51 : TIok Tryz.prog 51 ⟨1, [.slice none 0 0], .sl 9 1 16 [.string ⟨#[]⟩], 0⟩ := TIok.sl (z := .string ⟨#[]⟩) (by kernel_rfl) Tryz.underlying51 (by kernel_rfl) rfl (by decide) (by decide) rfl rfl
theorem tok52 : TIok Tryz.prog 52 ⟨5, [.slice none 0 0, .slice none 0 0, .slice none 0 0, .int .i64 0, .int .i64 0], .st [(0, 1), (1, 1), (2, 1), (3, 1), (4, 1)], 0⟩ := TIok.st (z := .agg #[.slice none 0 0, .slice none 0 0, .slice none 0 0, .int .i64 0, .int .i64 0]) (by kernel_rfl) rfl Tryz.underlying52 ⟨rfl, (by kernel_rfl), (by decide), rfl, (by kernel_rfl), (by decide), rfl, (by kernel_rfl), (by decide), rfl, (by kernel_rfl), (by decide), rfl, (by kernel_rfl), (by decide), trivial⟩ (fun h => absurd rfl h) (fun h => absurd rfl h)
theorem tok53 : TIok Tryz.prog 53 ⟨5, [.slice none 0 0, .slice none 0 0, .slice none 0 0, .int .i64 0, .int .i64 0], .st [(0, 1), (1, 1), (2, 1), (3, 1), (4, 1)], 0⟩ := TIok.st (z := .agg #[.slice none 0 0, .slice none 0 0, .slice none 0 0, .int .i64 0, .int .i64 0]) (by kernel_rfl) rfl Tryz.underlying53 ⟨rfl, (by kernel_rfl), (by decide), rfl, (by kernel_rfl), (by decide), rfl, (by kernel_rfl), (by decide), rfl, (by kernel_rfl), (by decide), rfl, (by kernel_rfl), (by decide), trivial⟩ (fun h => absurd rfl h) (fun h => absurd rfl h)
theorem tok54 : TIok Tryz.prog 54 ⟨8, [.string ⟨#[]⟩, .int .i64 0, .slice none 0 0, .slice none 0 0, .slice none 0 0, .slice none 0 0, .int .i64 0, .int .i64 0], .st [(0, 3), (3, 5)], 0⟩ := TIok.st (z := .agg #[.string ⟨#[]⟩, .int .i64 0, .slice none 0 0, .slice none 0 0, .slice none 0 0, .slice none 0 0, .int .i64 0, .int .i64 0]) (by kernel_rfl) rfl Tryz.underlying54 ⟨rfl, (by kernel_rfl), (by decide), rfl, (by kernel_rfl), (by decide), trivial⟩ (fun h => absurd rfl h) (fun h => absurd rfl h)
theorem tok55 : TIok Tryz.prog 55 ⟨8, [.string ⟨#[]⟩, .int .i64 0, .slice none 0 0, .slice none 0 0, .slice none 0 0, .slice none 0 0, .int .i64 0, .int .i64 0], .st [(0, 3), (3, 5)], 0⟩ := TIok.st (z := .agg #[.string ⟨#[]⟩, .int .i64 0, .slice none 0 0, .slice none 0 0, .slice none 0 0, .slice none 0 0, .int .i64 0, .int .i64 0]) (by kernel_rfl) rfl Tryz.underlying55 ⟨rfl, (by kernel_rfl), (by decide), rfl, (by kernel_rfl), (by decide), trivial⟩ (fun h => absurd rfl h) (fun h => absurd rfl h)
theorem tok56 : TIok Tryz.prog 56 ⟨1, [.nilFunc], .scalar, 0⟩ := TIok.scalar (z := .nilFunc) (by kernel_rfl) rfl Tryz.underlying56 (by simp) (by simp) (by simp)
theorem tok57 : TIok Tryz.prog 57 ⟨1, [.nilFunc], .scalar, 0⟩ := TIok.scalar (z := .nilFunc) (by kernel_rfl) rfl Tryz.underlying57 (by simp) (by simp) (by simp)
theorem tok58 : TIok Tryz.prog 58 ⟨1, [.nilFunc], .scalar, 0⟩ := TIok.scalar (z := .nilFunc) (by kernel_rfl) rfl Tryz.underlying58 (by simp) (by simp) (by simp)
theorem tok60 : TIok Tryz.prog 60 ⟨1, [.slice none 0 0], .sl 3 1 8 [.int .i64 0], 0⟩ := TIok.sl (z := .int .i64 0) (by kernel_rfl) Tryz.underlying60 (by kernel_rfl) rfl (by decide) (by decide) rfl rfl
theorem tok62 : TIok Tryz.prog 62 ⟨1, [.nilFunc], .scalar, 0⟩ := TIok.scalar (z := .nilFunc) (by kernel_rfl) rfl Tryz.underlying62 (by simp) (by simp) (by simp)
theorem tok63 : TIok Tryz.prog 63 ⟨1, [.nilFunc], .scalar, 0⟩ := TIok.scalar (z := .nilFunc) (by kernel_rfl) rfl Tryz.underlying63 (by simp) (by simp) (by simp)
theorem tok64 : TIok Tryz.prog 64 ⟨1, [.nilFunc], .scalar, 0⟩ := TIok.scalar (z := .nilFunc) (by kernel_rfl) rfl Tryz.underlying64 (by simp) (by simp) (by simp)
theorem tok65 : TIok Tryz.prog 65 ⟨2, [.slice none 0 0, .slice none 0 0], .arr 2 60 1, 0⟩ := TIok.arr (z := .agg #[.slice none 0 0, .slice none 0 0]) (by kernel_rfl) rfl Tryz.underlying65 (by kernel_rfl)
theorem tok67 : TIok Tryz.prog 67 ⟨1, [.nilFunc], .scalar, 0⟩ := TIok.scalar (z := .nilFunc) (by kernel_rfl) rfl Tryz.underlying67 (by simp) (by simp) (by simp)
theorem tok69 : TIok Tryz.prog 69 ⟨1, [.slice none 0 0], .sl 44 2 16 [.int .i64 0, .int .i64 0], 0⟩ := TIok.sl (z := .agg #[.int .i64 0, .int .i64 0]) (by kernel_rfl) Tryz.underlying69 (by kernel_rfl) rfl (by decide) (by decide) rfl rfl
theorem tok72 : TIok Tryz.prog 72 ⟨1, [.nilFunc], .scalar, 0⟩ := TIok.scalar (z := .nilFunc) (by kernel_rfl) rfl Tryz.underlying72 (by simp) (by simp) (by simp)
theorem tok76 : TIok Tryz.prog 76 ⟨1, [.nilFunc], .scalar, 0⟩ := TIok.scalar (z := .nilFunc) (by kernel_rfl) rfl Tryz.underlying76 (by simp) (by simp) (by simp)
theorem tok77 : TIok Tryz.prog 77 ⟨7, [.int .i64 0, .int .i64 0, .int .i64 0, .string ⟨#[]⟩, .string ⟨#[]⟩, .int .i64 0, .int .i64 0], .st [(0, 1), (1, 1), (2, 1), (3, 1), (4, 1), (5, 1), (6, 1)], 1000231⟩ := TIok.st (z := .agg #[.int .i64 0, .int .i64 0, .int .i64 0, .string ⟨#[]⟩, .string ⟨#[]⟩, .int .i64 0, .int .i64 0]) (by kernel_rfl) rfl Tryz.underlying77 ⟨rfl, (by kernel_rfl), (by decide), rfl, (by kernel_rfl), (by decide), rfl, (by kernel_rfl), (by decide), rfl, (by kernel_rfl), (by decide), rfl, (by kernel_rfl), (by decide), rfl, (by kernel_rfl), (by decide), rfl, (by kernel_rfl), (by decide), trivial⟩ (fun _ => EqS.up (c := 231) (EqS.of Tryz.underlying77 Tryz.eqGuardType77 Tryz.stoodInHeld77 (by simp [flOk, Tryz.underlying3, Tryz.underlying9]))) (fun _ => ScOk.ofS (c := 231) Tryz.underlying77 (by simp [flOk, Tryz.underlying3, Tryz.underlying9]))
theorem tok78 : TIok Tryz.prog 78 ⟨7, [.int .i64 0, .int .i64 0, .int .i64 0, .string ⟨#[]⟩, .string ⟨#[]⟩, .int .i64 0, .int .i64 0], .st [(0, 1), (1, 1), (2, 1), (3, 1), (4, 1), (5, 1), (6, 1)], 1000231⟩ := TIok.st (z := .agg #[.int .i64 0, .int .i64 0, .int .i64 0, .string ⟨#[]⟩, .string ⟨#[]⟩, .int .i64 0, .int .i64 0]) (by kernel_rfl) rfl Tryz.underlying78 ⟨rfl, (by kernel_rfl), (by decide), rfl, (by kernel_rfl), (by decide), rfl, (by kernel_rfl), (by decide), rfl, (by kernel_rfl), (by decide), rfl, (by kernel_rfl), (by decide), rfl, (by kernel_rfl), (by decide), rfl, (by kernel_rfl), (by decide), trivial⟩ (fun _ => EqS.up (c := 231) (EqS.of Tryz.underlying78 Tryz.eqGuardType78 Tryz.stoodInHeld78 (by simp [flOk, Tryz.underlying3, Tryz.underlying9]))) (fun _ => ScOk.ofS (c := 231) Tryz.underlying78 (by simp [flOk, Tryz.underlying3, Tryz.underlying9]))
theorem tok80 : TIok Tryz.prog 80 ⟨2, [.int .i64 0, .slice none 0 0], .st [(0, 1), (1, 1)], 0⟩ := TIok.st (z := .agg #[.int .i64 0, .slice none 0 0]) (by kernel_rfl) rfl Tryz.underlying80 ⟨rfl, (by kernel_rfl), (by decide), rfl, (by kernel_rfl), (by decide), trivial⟩ (fun h => absurd rfl h) (fun h => absurd rfl h)
theorem tok81 : TIok Tryz.prog 81 ⟨2, [.int .i64 0, .slice none 0 0], .st [(0, 1), (1, 1)], 0⟩ := TIok.st (z := .agg #[.int .i64 0, .slice none 0 0]) (by kernel_rfl) rfl Tryz.underlying81 ⟨rfl, (by kernel_rfl), (by decide), rfl, (by kernel_rfl), (by decide), trivial⟩ (fun h => absurd rfl h) (fun h => absurd rfl h)
theorem tok82 : TIok Tryz.prog 82 ⟨1, [.nilFunc], .scalar, 0⟩ := TIok.scalar (z := .nilFunc) (by kernel_rfl) rfl Tryz.underlying82 (by simp) (by simp) (by simp)
theorem tok83 : TIok Tryz.prog 83 ⟨1, [.nilFunc], .scalar, 0⟩ := TIok.scalar (z := .nilFunc) (by kernel_rfl) rfl Tryz.underlying83 (by simp) (by simp) (by simp)
theorem tok85 : TIok Tryz.prog 85 ⟨1, [.nilFunc], .scalar, 0⟩ := TIok.scalar (z := .nilFunc) (by kernel_rfl) rfl Tryz.underlying85 (by simp) (by simp) (by simp)
theorem tok86 : TIok Tryz.prog 86 ⟨1, [.nilFunc], .scalar, 0⟩ := TIok.scalar (z := .nilFunc) (by kernel_rfl) rfl Tryz.underlying86 (by simp) (by simp) (by simp)
theorem tok88 : TIok Tryz.prog 88 ⟨1, [.slice none 0 0], .sl 5 1 1 [.int .u8 0], 0⟩ := TIok.sl (z := .int .u8 0) (by kernel_rfl) Tryz.underlying88 (by kernel_rfl) rfl (by decide) (by decide) rfl rfl
theorem tok89 : TIok Tryz.prog 89 ⟨2, [.pointer none, .slice none 0 0], .st [(0, 1), (1, 1)], 0⟩ := TIok.st (z := .agg #[.pointer none, .slice none 0 0]) (by kernel_rfl) rfl Tryz.underlying89 ⟨rfl, (by kernel_rfl), (by decide), rfl, (by kernel_rfl), (by decide), trivial⟩ (fun h => absurd rfl h) (fun h => absurd rfl h)
theorem tok92 : TIok Tryz.prog 92 ⟨1, [.nilIface], .ifc, 0⟩ := TIok.ifc (by kernel_rfl) Tryz.underlying92
theorem tok94 : TIok Tryz.prog 94 ⟨1, [.nilFunc], .scalar, 0⟩ := TIok.scalar (z := .nilFunc) (by kernel_rfl) rfl Tryz.underlying94 (by simp) (by simp) (by simp)
theorem tok95 : TIok Tryz.prog 95 ⟨1, [.nilFunc], .scalar, 0⟩ := TIok.scalar (z := .nilFunc) (by kernel_rfl) rfl Tryz.underlying95 (by simp) (by simp) (by simp)
theorem tok96 : TIok Tryz.prog 96 ⟨1, [.nilFunc], .scalar, 0⟩ := TIok.scalar (z := .nilFunc) (by kernel_rfl) rfl Tryz.underlying96 (by simp) (by simp) (by simp)
theorem tok97 : TIok Tryz.prog 97 ⟨1, [.nilFunc], .scalar, 0⟩ := TIok.scalar (z := .nilFunc) (by kernel_rfl) rfl Tryz.underlying97 (by simp) (by simp) (by simp)
theorem tok98 : TIok Tryz.prog 98 ⟨1, [.nilFunc], .scalar, 0⟩ := TIok.scalar (z := .nilFunc) (by kernel_rfl) rfl Tryz.underlying98 (by simp) (by simp) (by simp)
theorem tok99 : TIok Tryz.prog 99 ⟨1, [.nilFunc], .scalar, 0⟩ := TIok.scalar (z := .nilFunc) (by kernel_rfl) rfl Tryz.underlying99 (by simp) (by simp) (by simp)
theorem tok101 : TIok Tryz.prog 101 ⟨1, [.nilFunc], .scalar, 0⟩ := TIok.scalar (z := .nilFunc) (by kernel_rfl) rfl Tryz.underlying101 (by simp) (by simp) (by simp)
theorem tok103 : TIok Tryz.prog 103 ⟨1, [.nilFunc], .scalar, 0⟩ := TIok.scalar (z := .nilFunc) (by kernel_rfl) rfl Tryz.underlying103 (by simp) (by simp) (by simp)
theorem tok104 : TIok Tryz.prog 104 ⟨1, [.nilFunc], .scalar, 0⟩ := TIok.scalar (z := .nilFunc) (by kernel_rfl) rfl Tryz.underlying104 (by simp) (by simp) (by simp)
theorem tok105 : TIok Tryz.prog 105 ⟨1, [.nilFunc], .scalar, 0⟩ := TIok.scalar (z := .nilFunc) (by kernel_rfl) rfl Tryz.underlying105 (by simp) (by simp) (by simp)
theorem tok107 : TIok Tryz.prog 107 ⟨1, [.nilFunc], .scalar, 0⟩ := TIok.scalar (z := .nilFunc) (by kernel_rfl) rfl Tryz.underlying107 (by simp) (by simp) (by simp)
theorem tok108 : TIok Tryz.prog 108 ⟨1, [.nilFunc], .scalar, 0⟩ := TIok.scalar (z := .nilFunc) (by kernel_rfl) rfl Tryz.underlying108 (by simp) (by simp) (by simp)
theorem tok111 : TIok Tryz.prog 111 ⟨1, [.nilFunc], .scalar, 0⟩ := TIok.scalar (z := .nilFunc) (by kernel_rfl) rfl Tryz.underlying111 (by simp) (by simp) (by simp)
theorem tok113 : TIok Tryz.prog 113 ⟨1, [.nilFunc], .scalar, 0⟩ := TIok.scalar (z := .nilFunc) (by kernel_rfl) rfl Tryz.underlying113 (by simp) (by simp) (by simp)
theorem tok114 : TIok Tryz.prog 114 ⟨2, [.slice none 0 0, .slice none 0 0], .arr 2 22 1, 0⟩ := TIok.arr (z := .agg #[.slice none 0 0, .slice none 0 0]) (by kernel_rfl) rfl Tryz.underlying114 (by kernel_rfl)
theorem tok115 : TIok Tryz.prog 115 ⟨4, [.string ⟨#[]⟩, .string ⟨#[]⟩, .int .i64 0, .int .i64 0], .st [(0, 1), (1, 1), (2, 1), (3, 1)], 1000028⟩ := TIok.st (z := .agg #[.string ⟨#[]⟩, .string ⟨#[]⟩, .int .i64 0, .int .i64 0]) (by kernel_rfl) rfl Tryz.underlying115 ⟨rfl, (by kernel_rfl), (by decide), rfl, (by kernel_rfl), (by decide), rfl, (by kernel_rfl), (by decide), rfl, (by kernel_rfl), (by decide), trivial⟩ (fun _ => EqS.up (c := 28) (EqS.of Tryz.underlying115 Tryz.eqGuardType115 Tryz.stoodInHeld115 (by simp [flOk, Tryz.underlying3, Tryz.underlying9]))) (fun _ => ScOk.ofS (c := 28) Tryz.underlying115 (by simp [flOk, Tryz.underlying3, Tryz.underlying9]))
theorem tok116 : TIok Tryz.prog 116 ⟨4, [.string ⟨#[]⟩, .string ⟨#[]⟩, .int .i64 0, .int .i64 0], .st [(0, 1), (1, 1), (2, 1), (3, 1)], 1000028⟩ := TIok.st (z := .agg #[.string ⟨#[]⟩, .string ⟨#[]⟩, .int .i64 0, .int .i64 0]) (by kernel_rfl) rfl Tryz.underlying116 ⟨rfl, (by kernel_rfl), (by decide), rfl, (by kernel_rfl), (by decide), rfl, (by kernel_rfl), (by decide), rfl, (by kernel_rfl), (by decide), trivial⟩ (fun _ => EqS.up (c := 28) (EqS.of Tryz.underlying116 Tryz.eqGuardType116 Tryz.stoodInHeld116 (by simp [flOk, Tryz.underlying3, Tryz.underlying9]))) (fun _ => ScOk.ofS (c := 28) Tryz.underlying116 (by simp [flOk, Tryz.underlying3, Tryz.underlying9]))
theorem tok117 : TIok Tryz.prog 117 ⟨1, [.nilFunc], .scalar, 0⟩ := TIok.scalar (z := .nilFunc) (by kernel_rfl) rfl Tryz.underlying117 (by simp) (by simp) (by simp)
theorem tok118 : TIok Tryz.prog 118 ⟨1, [.nilFunc], .scalar, 0⟩ := TIok.scalar (z := .nilFunc) (by kernel_rfl) rfl Tryz.underlying118 (by simp) (by simp) (by simp)
theorem tok119 : TIok Tryz.prog 119 ⟨1, [.slice none 0 0], .sl 123 2 48 [.slice none 0 0, .slice none 0 0], 0⟩ := TIok.sl (z := .agg #[.slice none 0 0, .slice none 0 0]) (by kernel_rfl) Tryz.underlying119 (by kernel_rfl) rfl (by decide) (by decide) rfl rfl
theorem tok121 : TIok Tryz.prog 121 ⟨1, [.nilFunc], .scalar, 0⟩ := TIok.scalar (z := .nilFunc) (by kernel_rfl) rfl Tryz.underlying121 (by simp) (by simp) (by simp)
theorem tok123 : TIok Tryz.prog 123 ⟨2, [.slice none 0 0, .slice none 0 0], .st [(0, 1), (1, 1)], 0⟩ := TIok.st (z := .agg #[.slice none 0 0, .slice none 0 0]) (by kernel_rfl) rfl Tryz.underlying123 ⟨rfl, (by kernel_rfl), (by decide), rfl, (by kernel_rfl), (by decide), trivial⟩ (fun h => absurd rfl h) (fun h => absurd rfl h)
theorem tok124 : TIok Tryz.prog 124 ⟨3, [.string ⟨#[]⟩, .int .i64 0, .slice none 0 0], .st [(0, 3)], 0⟩ := TIok.st (z := .agg #[.string ⟨#[]⟩, .int .i64 0, .slice none 0 0]) (by kernel_rfl) rfl Tryz.underlying124 ⟨rfl, (by kernel_rfl), (by decide), trivial⟩ (fun h => absurd rfl h) (fun h => absurd rfl h)
theorem tok125 : TIok Tryz.prog 125 ⟨3, [.string ⟨#[]⟩, .int .i64 0, .slice none 0 0], .st [(0, 3)], 0⟩ := TIok.st (z := .agg #[.string ⟨#[]⟩, .int .i64 0, .slice none 0 0]) (by kernel_rfl) rfl Tryz.underlying125 ⟨rfl, (by kernel_rfl), (by decide), trivial⟩ (fun h => absurd rfl h) (fun h => absurd rfl h)
theorem tok126 : TIok Tryz.prog 126 ⟨1, [.pointer none], .scalar, 0⟩ := TIok.scalar (z := .pointer none) (by kernel_rfl) rfl Tryz.underlying126 (by simp) (by simp) (by simp)
theorem tok131 : TIok Tryz.prog 131 ⟨1, [.slice none 0 0], .sl 207 1 8 [.pointer none], 0⟩ := TIok.sl (z := .pointer none) (by kernel_rfl) Tryz.underlying131 (by kernel_rfl) rfl (by decide) (by decide) rfl rfl
theorem tok132 : TIok Tryz.prog 132 ⟨1, [.map none], .mp none (.slice none 0 0), 0⟩ := TIok.mp (by kernel_rfl) Tryz.underlying132 Tryz.underlying9 (by kernel_rfl)
theorem tok134 : TIok Tryz.prog 134 ⟨8, [.slice none 0 0, .slice none 0 0, .slice none 0 0, .int .i64 0, .int .i64 0, .slice none 0 0, .map none, .map none], .st [(0, 5), (5, 1), (6, 1), (7, 1)], 0⟩ := TIok.st (z := .agg #[.slice none 0 0, .slice none 0 0, .slice none 0 0, .int .i64 0, .int .i64 0, .slice none 0 0, .map none, .map none]) (by kernel_rfl) rfl Tryz.underlying134 ⟨rfl, (by kernel_rfl), (by decide), rfl, (by kernel_rfl), (by decide), rfl, (by kernel_rfl), (by decide), rfl, (by kernel_rfl), (by decide), trivial⟩ (fun h => absurd rfl h) (fun h => absurd rfl h)
theorem tok135 : TIok Tryz.prog 135 ⟨1, [.nilFunc], .scalar, 0⟩ := TIok.scalar (z := .nilFunc) (by kernel_rfl) rfl Tryz.underlying135 (by simp) (by simp) (by simp)
theorem tok137 : TIok Tryz.prog 137 ⟨1, [.slice none 0 0], .sl 60 1 24 [.slice none 0 0], 0⟩ := TIok.sl (z := .slice none 0 0) (by kernel_rfl) Tryz.underlying137 (by kernel_rfl) rfl (by decide) (by decide) rfl rfl
theorem tok141 : TIok Tryz.prog 141 ⟨1, [.slice none 0 0], .sl 23 1 24 [.slice none 0 0], 0⟩ := TIok.sl (z := .slice none 0 0) (by kernel_rfl) Tryz.underlying141 (by kernel_rfl) rfl (by decide) (by decide) rfl rfl
theorem tok143 : TIok Tryz.prog 143 ⟨2, [.string ⟨#[]⟩, .nilFunc], .st [(0, 1), (1, 1)], 0⟩ := TIok.st (z := .agg #[.string ⟨#[]⟩, .nilFunc]) (by kernel_rfl) rfl Tryz.underlying143 ⟨rfl, (by kernel_rfl), (by decide), rfl, (by kernel_rfl), (by decide), trivial⟩ (fun h => absurd rfl h) (fun h => absurd rfl h)
theorem tok145 : TIok Tryz.prog 145 ⟨1, [.slice none 0 0], .sl 144 2 24 [.string ⟨#[]⟩, .nilFunc], 0⟩ := TIok.sl (z := .agg #[.string ⟨#[]⟩, .nilFunc]) (by kernel_rfl) Tryz.underlying145 (by kernel_rfl) rfl (by decide) (by decide) rfl rfl
theorem tok149 : TIok Tryz.prog 149 ⟨1, [.pointer none], .scalar, 0⟩ := TIok.scalar (z := .pointer none) (by kernel_rfl) rfl Tryz.underlying149 (by simp) (by simp) (by simp)
theorem tok150 : TIok Tryz.prog 150 ⟨1, [.pointer none], .scalar, 0⟩ := TIok.scalar (z := .pointer none) (by kernel_rfl) rfl Tryz.underlying150 (by simp) (by simp) (by simp)
theorem tok156 : TIok Tryz.prog 156 ⟨1, [.nilFunc], .scalar, 0⟩ := TIok.scalar (z := .nilFunc) (by kernel_rfl) rfl Tryz.underlying156 (by simp) (by simp) (by simp)
theorem tok162 : TIok Tryz.prog 162 ⟨2, [.string ⟨#[]⟩, .slice none 0 0], .st [(0, 1), (1, 1)], 0⟩ := TIok.st (z := .agg #[.string ⟨#[]⟩, .slice none 0 0]) (by kernel_rfl) rfl Tryz.underlying162 ⟨rfl, (by kernel_rfl), (by decide), rfl, (by kernel_rfl), (by decide), trivial⟩ (fun h => absurd rfl h) (fun h => absurd rfl h)
theorem tok170 : TIok Tryz.prog 170 ⟨1, [.nilFunc], .scalar, 0⟩ := TIok.scalar (z := .nilFunc) (by kernel_rfl) rfl Tryz.underlying170 (by simp) (by simp) (by simp)
theorem tok173 : TIok Tryz.prog 173 ⟨1, [.map none], .mp (some .i64) (.int .i64 0), 0⟩ := TIok.mp (by kernel_rfl) Tryz.underlying173 Tryz.underlying3 (by kernel_rfl)
theorem tok175 : TIok Tryz.prog 175 ⟨1, [.nilFunc], .scalar, 0⟩ := TIok.scalar (z := .nilFunc) (by kernel_rfl) rfl Tryz.underlying175 (by simp) (by simp) (by simp)
theorem tok176 : TIok Tryz.prog 176 ⟨1, [.nilFunc], .scalar, 0⟩ := TIok.scalar (z := .nilFunc) (by kernel_rfl) rfl Tryz.underlying176 (by simp) (by simp) (by simp)
theorem tok179 : TIok Tryz.prog 179 ⟨4, [.string ⟨#[]⟩, .string ⟨#[]⟩, .int .i64 0, .int .i64 0], .st [(0, 1), (1, 1), (2, 1), (3, 1)], 1000028⟩ := TIok.st (z := .agg #[.string ⟨#[]⟩, .string ⟨#[]⟩, .int .i64 0, .int .i64 0]) (by kernel_rfl) rfl Tryz.underlying179 ⟨rfl, (by kernel_rfl), (by decide), rfl, (by kernel_rfl), (by decide), rfl, (by kernel_rfl), (by decide), rfl, (by kernel_rfl), (by decide), trivial⟩ (fun _ => EqS.up (c := 28) (EqS.of Tryz.underlying179 Tryz.eqGuardType179 Tryz.stoodInHeld179 (by simp [flOk, Tryz.underlying3, Tryz.underlying9]))) (fun _ => ScOk.ofS (c := 28) Tryz.underlying179 (by simp [flOk, Tryz.underlying3, Tryz.underlying9]))
theorem tok181 : TIok Tryz.prog 181 ⟨1, [.nilFunc], .scalar, 0⟩ := TIok.scalar (z := .nilFunc) (by kernel_rfl) rfl Tryz.underlying181 (by simp) (by simp) (by simp)
theorem tok187 : TIok Tryz.prog 187 ⟨1, [.nilFunc], .scalar, 0⟩ := TIok.scalar (z := .nilFunc) (by kernel_rfl) rfl Tryz.underlying187 (by simp) (by simp) (by simp)
theorem tok188 : TIok Tryz.prog 188 ⟨1, [.pointer none], .scalar, 0⟩ := TIok.scalar (z := .pointer none) (by kernel_rfl) rfl Tryz.underlying188 (by simp) (by simp) (by simp)
theorem tok191 : TIok Tryz.prog 191 ⟨1, [.nilFunc], .scalar, 0⟩ := TIok.scalar (z := .nilFunc) (by kernel_rfl) rfl Tryz.underlying191 (by simp) (by simp) (by simp)
theorem tok199 : TIok Tryz.prog 199 ⟨1, [.nilFunc], .scalar, 0⟩ := TIok.scalar (z := .nilFunc) (by kernel_rfl) rfl Tryz.underlying199 (by simp) (by simp) (by simp)
theorem tok202 : TIok Tryz.prog 202 ⟨1, [.map none], .mp none (.int .i64 0), 0⟩ := TIok.mp (by kernel_rfl) Tryz.underlying202 Tryz.underlying9 (by kernel_rfl)
theorem tok203 : TIok Tryz.prog 203 ⟨2, [.map none, .map none], .st [(0, 1), (1, 1)], 0⟩ := TIok.st (z := .agg #[.map none, .map none]) (by kernel_rfl) rfl Tryz.underlying203 ⟨rfl, (by kernel_rfl), (by decide), rfl, (by kernel_rfl), (by decide), trivial⟩ (fun h => absurd rfl h) (fun h => absurd rfl h)
theorem tok204 : TIok Tryz.prog 204 ⟨2, [.map none, .map none], .st [(0, 1), (1, 1)], 0⟩ := TIok.st (z := .agg #[.map none, .map none]) (by kernel_rfl) rfl Tryz.underlying204 ⟨rfl, (by kernel_rfl), (by decide), rfl, (by kernel_rfl), (by decide), trivial⟩ (fun h => absurd rfl h) (fun h => absurd rfl h)
theorem tok206 : TIok Tryz.prog 206 ⟨1, [.nilFunc], .scalar, 0⟩ := TIok.scalar (z := .nilFunc) (by kernel_rfl) rfl Tryz.underlying206 (by simp) (by simp) (by simp)
theorem tok207 : TIok Tryz.prog 207 ⟨1, [.pointer none], .scalar, 0⟩ := TIok.scalar (z := .pointer none) (by kernel_rfl) rfl Tryz.underlying207 (by simp) (by simp) (by simp)
theorem tok210 : TIok Tryz.prog 210 ⟨1, [.nilFunc], .scalar, 0⟩ := TIok.scalar (z := .nilFunc) (by kernel_rfl) rfl Tryz.underlying210 (by simp) (by simp) (by simp)
theorem tok211 : TIok Tryz.prog 211 ⟨4, [.slice none 0 0, .string ⟨#[]⟩, .map none, .nilFunc], .st [(0, 1), (1, 1), (2, 1), (3, 1)], 0⟩ := TIok.st (z := .agg #[.slice none 0 0, .string ⟨#[]⟩, .map none, .nilFunc]) (by kernel_rfl) rfl Tryz.underlying211 ⟨rfl, (by kernel_rfl), (by decide), rfl, (by kernel_rfl), (by decide), rfl, (by kernel_rfl), (by decide), rfl, (by kernel_rfl), (by decide), trivial⟩ (fun h => absurd rfl h) (fun h => absurd rfl h)
theorem tok212 : TIok Tryz.prog 212 ⟨8, [.slice none 0 0, .string ⟨#[]⟩, .map none, .nilFunc, .slice none 0 0, .string ⟨#[]⟩, .map none, .nilFunc], .arr 2 211 4, 0⟩ := TIok.arr (z := .agg #[.slice none 0 0, .string ⟨#[]⟩, .map none, .nilFunc, .slice none 0 0, .string ⟨#[]⟩, .map none, .nilFunc]) (by kernel_rfl) rfl Tryz.underlying212 (by kernel_rfl)
theorem tok214 : TIok Tryz.prog 214 ⟨1, [.nilFunc], .scalar, 0⟩ := TIok.scalar (z := .nilFunc) (by kernel_rfl) rfl Tryz.underlying214 (by simp) (by simp) (by simp)
theorem tok215 : TIok Tryz.prog 215 ⟨1, [.nilFunc], .scalar, 0⟩ := TIok.scalar (z := .nilFunc) (by kernel_rfl) rfl Tryz.underlying215 (by simp) (by simp) (by simp)
theorem tok216 : TIok Tryz.prog 216 ⟨1, [.nilFunc], .scalar, 0⟩ := TIok.scalar (z := .nilFunc) (by kernel_rfl) rfl Tryz.underlying216 (by simp) (by simp) (by simp)
theorem tok221 : TIok Tryz.prog 221 ⟨1, [.nilFunc], .scalar, 0⟩ := TIok.scalar (z := .nilFunc) (by kernel_rfl) rfl Tryz.underlying221 (by simp) (by simp) (by simp)
theorem tok223 : TIok Tryz.prog 223 ⟨1, [.slice none 0 0], .sl 51 1 24 [.slice none 0 0], 0⟩ := TIok.sl (z := .slice none 0 0) (by kernel_rfl) Tryz.underlying223 (by kernel_rfl) rfl (by decide) (by decide) rfl rfl
theorem tok225 : TIok Tryz.prog 225 ⟨1, [.nilFunc], .scalar, 0⟩ := TIok.scalar (z := .nilFunc) (by kernel_rfl) rfl Tryz.underlying225 (by simp) (by simp) (by simp)
theorem tok229 : TIok Tryz.prog 229 ⟨1, [.nilFunc], .scalar, 0⟩ := TIok.scalar (z := .nilFunc) (by kernel_rfl) rfl Tryz.underlying229 (by simp) (by simp) (by simp)
theorem tok232 : TIok Tryz.prog 232 ⟨4, [.string ⟨#[]⟩, .slice none 0 0, .bool false, .bool false], .st [(0, 1), (1, 1), (2, 1), (3, 1)], 0⟩ := TIok.st (z := .agg #[.string ⟨#[]⟩, .slice none 0 0, .bool false, .bool false]) (by kernel_rfl) rfl Tryz.underlying232 ⟨rfl, (by kernel_rfl), (by decide), rfl, (by kernel_rfl), (by decide), rfl, (by kernel_rfl), (by decide), rfl, (by kernel_rfl), (by decide), trivial⟩ (fun h => absurd rfl h) (fun h => absurd rfl h)
theorem tok235 : TIok Tryz.prog 235 ⟨1, [.nilFunc], .scalar, 0⟩ := TIok.scalar (z := .nilFunc) (by kernel_rfl) rfl Tryz.underlying235 (by simp) (by simp) (by simp)
theorem tok237 : TIok Tryz.prog 237 ⟨1, [.int .u64 0], .int .u64, 0⟩ := TIok.int (by kernel_rfl) Tryz.underlying237
theorem tok240 : TIok Tryz.prog 240 ⟨1, [.nilFunc], .scalar, 0⟩ := TIok.scalar (z := .nilFunc) (by kernel_rfl) rfl Tryz.underlying240 (by simp) (by simp) (by simp)
theorem tok265 : TIok Tryz.prog 265 ⟨1, [.int .u32 0], .int .u32, 0⟩ := TIok.int (by kernel_rfl) Tryz.underlying265
theorem tok287 : TIok Tryz.prog 287 ⟨32, [.int .u8 0, .int .u8 0, .int .u8 0, .int .u8 0, .int .u8 0, .int .u8 0, .int .u8 0, .int .u8 0, .int .u8 0, .int .u8 0, .int .u8 0, .int .u8 0, .int .u8 0, .int .u8 0, .int .u8 0, .int .u8 0, .int .u8 0, .int .u8 0, .int .u8 0, .int .u8 0, .int .u8 0, .int .u8 0, .int .u8 0, .int .u8 0, .int .u8 0, .int .u8 0, .int .u8 0, .int .u8 0, .int .u8 0, .int .u8 0, .int .u8 0, .int .u8 0], .arr 16 286 2, 0⟩ := TIok.arr (z := .agg #[.int .u8 0, .int .u8 0, .int .u8 0, .int .u8 0, .int .u8 0, .int .u8 0, .int .u8 0, .int .u8 0, .int .u8 0, .int .u8 0, .int .u8 0, .int .u8 0, .int .u8 0, .int .u8 0, .int .u8 0, .int .u8 0, .int .u8 0, .int .u8 0, .int .u8 0, .int .u8 0, .int .u8 0, .int .u8 0, .int .u8 0, .int .u8 0, .int .u8 0, .int .u8 0, .int .u8 0, .int .u8 0, .int .u8 0, .int .u8 0, .int .u8 0, .int .u8 0]) (by kernel_rfl) rfl Tryz.underlying287 (by kernel_rfl)
theorem tok288 : TIok Tryz.prog 288 ⟨1, [.nilFunc], .scalar, 0⟩ := TIok.scalar (z := .nilFunc) (by kernel_rfl) rfl Tryz.underlying288 (by simp) (by simp) (by simp)
theorem tok293 : TIok Tryz.prog 293 ⟨2, [.int .i64 0, .int .i64 0], .st [(0, 1), (1, 1)], 2⟩ := TIok.st (z := .agg #[.int .i64 0, .int .i64 0]) (by kernel_rfl) rfl Tryz.underlying293 ⟨rfl, (by kernel_rfl), (by decide), rfl, (by kernel_rfl), (by decide), trivial⟩ (fun _ => EqOk.up (EqOk.of Tryz.underlying293 Tryz.eqGuardType293 Tryz.stoodInHeld293 (by simp [Tryz.underlying3]) rfl)) (fun _ => ScOk.of Tryz.underlying293 (by simp [Tryz.underlying3]))
theorem tok294 : TIok Tryz.prog 294 ⟨8, [.int .i64 0, .int .i64 0, .int .i64 0, .int .i64 0, .int .i64 0, .int .i64 0, .int .i64 0, .int .i64 0], .arr 4 293 2, 8⟩ := TIok.arrE (z := .agg #[.int .i64 0, .int .i64 0, .int .i64 0, .int .i64 0, .int .i64 0, .int .i64 0, .int .i64 0, .int .i64 0]) (by kernel_rfl) rfl Tryz.underlying294 (by kernel_rfl) rfl Tryz.eqGuardType294 (PartEq.st' Tryz.underlying293 (by kernel_rfl) Tryz.stoodInHeld293 (by simp [Tryz.underlying3]) rfl)
set_option maxRecDepth 20000 in
theorem Tok : TabOk Tryz.prog Tt :=
 TabOk.cons tok1 <| TabOk.cons tok2 <| TabOk.cons tok3 <| TabOk.cons tok4 <| TabOk.cons tok5 <| TabOk.cons tok6 <| TabOk.cons tok7 <| TabOk.cons tok8 <| TabOk.cons tok9 <| TabOk.cons tok11 <| TabOk.cons tok12 <| TabOk.cons tok15 <| TabOk.cons tok16 <| TabOk.cons tok18 <| TabOk.cons tok19 <| TabOk.cons tok20 <| TabOk.cons tok21 <| TabOk.cons tok22 <| TabOk.cons tok23 <| TabOk.cons tok24 <| TabOk.cons tok25 <| TabOk.cons tok29 <| TabOk.cons tok30 <| TabOk.cons tok32 <| TabOk.cons tok33 <| TabOk.cons tok35 <| TabOk.cons tok42 <| TabOk.cons tok44 <| TabOk.cons tok46 <| TabOk.cons tok47 <| TabOk.cons tok48 <| TabOk.cons tok49 <| TabOk.cons tok50 <| TabOk.cons tok51 <| TabOk.cons tok52 <| TabOk.cons tok53 <| TabOk.cons tok54 <| TabOk.cons tok55 <| TabOk.cons tok56 <| TabOk.cons tok57 <| TabOk.cons tok58 <| TabOk.cons tok60 <| TabOk.cons tok62 <| TabOk.cons tok63 <| TabOk.cons tok64 <| TabOk.cons tok65 <| TabOk.cons tok67 <| TabOk.cons tok69 <| TabOk.cons tok72 <| TabOk.cons tok76 <| TabOk.cons tok77 <| TabOk.cons tok78 <| TabOk.cons tok80 <| TabOk.cons tok81 <| TabOk.cons tok82 <| TabOk.cons tok83 <| TabOk.cons tok85 <| TabOk.cons tok86 <| TabOk.cons tok88 <| TabOk.cons tok89 <| TabOk.cons tok92 <| TabOk.cons tok94 <| TabOk.cons tok95 <| TabOk.cons tok96 <| TabOk.cons tok97 <| TabOk.cons tok98 <| TabOk.cons tok99 <| TabOk.cons tok101 <| TabOk.cons tok103 <| TabOk.cons tok104 <| TabOk.cons tok105 <| TabOk.cons tok107 <| TabOk.cons tok108 <| TabOk.cons tok111 <| TabOk.cons tok113 <| TabOk.cons tok114 <| TabOk.cons tok115 <| TabOk.cons tok116 <| TabOk.cons tok117 <| TabOk.cons tok118 <| TabOk.cons tok119 <| TabOk.cons tok121 <| TabOk.cons tok123 <| TabOk.cons tok124 <| TabOk.cons tok125 <| TabOk.cons tok126 <| TabOk.cons tok131 <| TabOk.cons tok132 <| TabOk.cons tok134 <| TabOk.cons tok135 <| TabOk.cons tok137 <| TabOk.cons tok141 <| TabOk.cons tok143 <| TabOk.cons tok145 <| TabOk.cons tok149 <| TabOk.cons tok150 <| TabOk.cons tok156 <| TabOk.cons tok162 <| TabOk.cons tok170 <| TabOk.cons tok173 <| TabOk.cons tok175 <| TabOk.cons tok176 <| TabOk.cons tok179 <| TabOk.cons tok181 <| TabOk.cons tok187 <| TabOk.cons tok188 <| TabOk.cons tok191 <| TabOk.cons tok199 <| TabOk.cons tok202 <| TabOk.cons tok203 <| TabOk.cons tok204 <| TabOk.cons tok206 <| TabOk.cons tok207 <| TabOk.cons tok210 <| TabOk.cons tok211 <| TabOk.cons tok212 <| TabOk.cons tok214 <| TabOk.cons tok215 <| TabOk.cons tok216 <| TabOk.cons tok221 <| TabOk.cons tok223 <| TabOk.cons tok225 <| TabOk.cons tok229 <| TabOk.cons tok232 <| TabOk.cons tok235 <| TabOk.cons tok237 <| TabOk.cons tok240 <| TabOk.cons tok265 <| TabOk.cons tok287 <| TabOk.cons tok288 <| TabOk.cons tok293 <| TabOk.cons tok294 <| TabOk.nil
set_option maxRecDepth 20000 in
theorem tys :
  (tlook Tt 1 = some ⟨1, [.nilFunc], .scalar, 0⟩) ∧
  (tlook Tt 2 = some ⟨1, [.int .i64 0], .int .i64, 0⟩) ∧
  (tlook Tt 3 = some ⟨1, [.int .i64 0], .int .i64, 0⟩) ∧
  (tlook Tt 4 = some ⟨1, [.bool false], .scalar, 0⟩) ∧
  (tlook Tt 5 = some ⟨1, [.int .u8 0], .int .u8, 0⟩) ∧
  (tlook Tt 6 = some ⟨1, [.int .u8 0], .int .u8, 0⟩) ∧
  (tlook Tt 7 = some ⟨4, [.int .i64 0, .int .i64 0, .bool false, .int .u8 0], .st [(0, 1), (1, 1), (2, 1), (3, 1)], 0⟩) ∧
  (tlook Tt 8 = some ⟨4, [.int .i64 0, .int .i64 0, .bool false, .int .u8 0], .st [(0, 1), (1, 1), (2, 1), (3, 1)], 0⟩) ∧
  (tlook Tt 9 = some ⟨1, [.string ⟨#[]⟩], .str, 0⟩) ∧
  (tlook Tt 11 = some ⟨1, [.string ⟨#[]⟩], .str, 0⟩) ∧
  (tlook Tt 12 = some ⟨1, [.int .u64 0], .int .u64, 0⟩) ∧
  (tlook Tt 15 = some ⟨1, [.pointer none], .scalar, 0⟩) ∧
  (tlook Tt 16 = some ⟨1, [.pointer none], .scalar, 0⟩) ∧
  (tlook Tt 18 = some ⟨1, [.pointer none], .st [(0, 1)], 0⟩) ∧
  (tlook Tt 19 = some ⟨1, [.pointer none], .st [(0, 1)], 0⟩) ∧
  (tlook Tt 20 = some ⟨1, [.nilIface], .ifc, 0⟩) ∧
  (tlook Tt 21 = some ⟨1, [.int .i32 0], .int .i32, 0⟩) ∧
  (tlook Tt 22 = some ⟨1, [.slice none 0 0], .sl 81 2 32 [.int .i64 0, .slice none 0 0], 0⟩) ∧
  (tlook Tt 23 = some ⟨1, [.slice none 0 0], .sl 78 7 72 [.int .i64 0, .int .i64 0, .int .i64 0, .string ⟨#[]⟩, .string ⟨#[]⟩, .int .i64 0, .int .i64 0], 0⟩) ∧
  (tlook Tt 24 = some ⟨1, [.nilFunc], .scalar, 0⟩) ∧
  (tlook Tt 25 = some ⟨1, [.nilFunc], .scalar, 0⟩) ∧
  (tlook Tt 29 = some ⟨1, [.nilFunc], .scalar, 0⟩) ∧
  (tlook Tt 30 = some ⟨1, [.int .i64 0], .int .i64, 0⟩) ∧
  (tlook Tt 32 = some ⟨1, [.nilFunc], .scalar, 0⟩) ∧
  (tlook Tt 33 = some ⟨1, [.nilFunc], .scalar, 0⟩) ∧
  (tlook Tt 35 = some ⟨1, [.nilFunc], .scalar, 0⟩) ∧
  (tlook Tt 42 = some ⟨1, [.nilFunc], .scalar, 0⟩) ∧
  (tlook Tt 44 = some ⟨2, [.int .i64 0, .int .i64 0], .arr 2 3 1, 2⟩) ∧
  (tlook Tt 46 = some ⟨1, [.nilFunc], .scalar, 0⟩) ∧
  (tlook Tt 47 = some ⟨1, [.nilFunc], .scalar, 0⟩) ∧
  (tlook Tt 48 = some ⟨1, [.slice none 0 0], .sl 116 4 48 [.string ⟨#[]⟩, .string ⟨#[]⟩, .int .i64 0, .int .i64 0], 0⟩) ∧
  (tlook Tt 49 = some ⟨3, [.string ⟨#[]⟩, .int .i64 0, .slice none 0 0], .st [(0, 1), (1, 1), (2, 1)], 0⟩) ∧
  (tlook Tt 50 = some ⟨3, [.string ⟨#[]⟩, .int .i64 0, .slice none 0 0], .st [(0, 1), (1, 1), (2, 1)], 0⟩) ∧
  (tlook Tt 51 = some ⟨1, [.slice none 0 0], .sl 9 1 16 [.string ⟨#[]⟩], 0⟩) ∧
  (tlook Tt 52 = some ⟨5, [.slice none 0 0, .slice none 0 0, .slice none 0 0, .int .i64 0, .int .i64 0], .st [(0, 1), (1, 1), (2, 1), (3, 1), (4, 1)], 0⟩) ∧
  (tlook Tt 53 = some ⟨5, [.slice none 0 0, .slice none 0 0, .slice none 0 0, .int .i64 0, .int .i64 0], .st [(0, 1), (1, 1), (2, 1), (3, 1), (4, 1)], 0⟩) ∧
  (tlook Tt 54 = some ⟨8, [.string ⟨#[]⟩, .int .i64 0, .slice none 0 0, .slice none 0 0, .slice none 0 0, .slice none 0 0, .int .i64 0, .int .i64 0], .st [(0, 3), (3, 5)], 0⟩) ∧
  (tlook Tt 55 = some ⟨8, [.string ⟨#[]⟩, .int .i64 0, .slice none 0 0, .slice none 0 0, .slice none 0 0, .slice none 0 0, .int .i64 0, .int .i64 0], .st [(0, 3), (3, 5)], 0⟩) ∧
  (tlook Tt 56 = some ⟨1, [.nilFunc], .scalar, 0⟩) ∧
  (tlook Tt 57 = some ⟨1, [.nilFunc], .scalar, 0⟩) ∧
  (tlook Tt 58 = some ⟨1, [.nilFunc], .scalar, 0⟩) ∧
  (tlook Tt 60 = some ⟨1, [.slice none 0 0], .sl 3 1 8 [.int .i64 0], 0⟩) ∧
  (tlook Tt 62 = some ⟨1, [.nilFunc], .scalar, 0⟩) ∧
  (tlook Tt 63 = some ⟨1, [.nilFunc], .scalar, 0⟩) ∧
  (tlook Tt 64 = some ⟨1, [.nilFunc], .scalar, 0⟩) ∧
  (tlook Tt 65 = some ⟨2, [.slice none 0 0, .slice none 0 0], .arr 2 60 1, 0⟩) ∧
  (tlook Tt 67 = some ⟨1, [.nilFunc], .scalar, 0⟩) ∧
  (tlook Tt 69 = some ⟨1, [.slice none 0 0], .sl 44 2 16 [.int .i64 0, .int .i64 0], 0⟩) ∧
  (tlook Tt 72 = some ⟨1, [.nilFunc], .scalar, 0⟩) ∧
  (tlook Tt 76 = some ⟨1, [.nilFunc], .scalar, 0⟩) ∧
  (tlook Tt 77 = some ⟨7, [.int .i64 0, .int .i64 0, .int .i64 0, .string ⟨#[]⟩, .string ⟨#[]⟩, .int .i64 0, .int .i64 0], .st [(0, 1), (1, 1), (2, 1), (3, 1), (4, 1), (5, 1), (6, 1)], 1000231⟩) ∧
  (tlook Tt 78 = some ⟨7, [.int .i64 0, .int .i64 0, .int .i64 0, .string ⟨#[]⟩, .string ⟨#[]⟩, .int .i64 0, .int .i64 0], .st [(0, 1), (1, 1), (2, 1), (3, 1), (4, 1), (5, 1), (6, 1)], 1000231⟩) ∧
  (tlook Tt 80 = some ⟨2, [.int .i64 0, .slice none 0 0], .st [(0, 1), (1, 1)], 0⟩) ∧
  (tlook Tt 81 = some ⟨2, [.int .i64 0, .slice none 0 0], .st [(0, 1), (1, 1)], 0⟩) ∧
  (tlook Tt 82 = some ⟨1, [.nilFunc], .scalar, 0⟩) ∧
  (tlook Tt 83 = some ⟨1, [.nilFunc], .scalar, 0⟩) ∧
  (tlook Tt 85 = some ⟨1, [.nilFunc], .scalar, 0⟩) ∧
  (tlook Tt 86 = some ⟨1, [.nilFunc], .scalar, 0⟩) ∧
  (tlook Tt 88 = some ⟨1, [.slice none 0 0], .sl 5 1 1 [.int .u8 0], 0⟩) ∧
  (tlook Tt 89 = some ⟨2, [.pointer none, .slice none 0 0], .st [(0, 1), (1, 1)], 0⟩) ∧
  (tlook Tt 92 = some ⟨1, [.nilIface], .ifc, 0⟩) ∧
  (tlook Tt 94 = some ⟨1, [.nilFunc], .scalar, 0⟩) ∧
  (tlook Tt 95 = some ⟨1, [.nilFunc], .scalar, 0⟩) ∧
  (tlook Tt 96 = some ⟨1, [.nilFunc], .scalar, 0⟩) ∧
  (tlook Tt 97 = some ⟨1, [.nilFunc], .scalar, 0⟩) ∧
  (tlook Tt 98 = some ⟨1, [.nilFunc], .scalar, 0⟩) ∧
  (tlook Tt 99 = some ⟨1, [.nilFunc], .scalar, 0⟩) ∧
  (tlook Tt 101 = some ⟨1, [.nilFunc], .scalar, 0⟩) ∧
  (tlook Tt 103 = some ⟨1, [.nilFunc], .scalar, 0⟩) ∧
  (tlook Tt 104 = some ⟨1, [.nilFunc], .scalar, 0⟩) ∧
  (tlook Tt 105 = some ⟨1, [.nilFunc], .scalar, 0⟩) ∧
  (tlook Tt 107 = some ⟨1, [.nilFunc], .scalar, 0⟩) ∧
  (tlook Tt 108 = some ⟨1, [.nilFunc], .scalar, 0⟩) ∧
  (tlook Tt 111 = some ⟨1, [.nilFunc], .scalar, 0⟩) ∧
  (tlook Tt 113 = some ⟨1, [.nilFunc], .scalar, 0⟩) ∧
  (tlook Tt 114 = some ⟨2, [.slice none 0 0, .slice none 0 0], .arr 2 22 1, 0⟩) ∧
  (tlook Tt 115 = some ⟨4, [.string ⟨#[]⟩, .string ⟨#[]⟩, .int .i64 0, .int .i64 0], .st [(0, 1), (1, 1), (2, 1), (3, 1)], 1000028⟩) ∧
  (tlook Tt 116 = some ⟨4, [.string ⟨#[]⟩, .string ⟨#[]⟩, .int .i64 0, .int .i64 0], .st [(0, 1), (1, 1), (2, 1), (3, 1)], 1000028⟩) ∧
  (tlook Tt 117 = some ⟨1, [.nilFunc], .scalar, 0⟩) ∧
  (tlook Tt 118 = some ⟨1, [.nilFunc], .scalar, 0⟩) ∧
  (tlook Tt 119 = some ⟨1, [.slice none 0 0], .sl 123 2 48 [.slice none 0 0, .slice none 0 0], 0⟩) ∧
  (tlook Tt 121 = some ⟨1, [.nilFunc], .scalar, 0⟩) ∧
  (tlook Tt 123 = some ⟨2, [.slice none 0 0, .slice none 0 0], .st [(0, 1), (1, 1)], 0⟩) ∧
  (tlook Tt 124 = some ⟨3, [.string ⟨#[]⟩, .int .i64 0, .slice none 0 0], .st [(0, 3)], 0⟩) ∧
  (tlook Tt 125 = some ⟨3, [.string ⟨#[]⟩, .int .i64 0, .slice none 0 0], .st [(0, 3)], 0⟩) ∧
  (tlook Tt 126 = some ⟨1, [.pointer none], .scalar, 0⟩) ∧
  (tlook Tt 131 = some ⟨1, [.slice none 0 0], .sl 207 1 8 [.pointer none], 0⟩) ∧
  (tlook Tt 132 = some ⟨1, [.map none], .mp none (.slice none 0 0), 0⟩) ∧
  (tlook Tt 134 = some ⟨8, [.slice none 0 0, .slice none 0 0, .slice none 0 0, .int .i64 0, .int .i64 0, .slice none 0 0, .map none, .map none], .st [(0, 5), (5, 1), (6, 1), (7, 1)], 0⟩) ∧
  (tlook Tt 135 = some ⟨1, [.nilFunc], .scalar, 0⟩) ∧
  (tlook Tt 137 = some ⟨1, [.slice none 0 0], .sl 60 1 24 [.slice none 0 0], 0⟩) ∧
  (tlook Tt 141 = some ⟨1, [.slice none 0 0], .sl 23 1 24 [.slice none 0 0], 0⟩) ∧
  (tlook Tt 143 = some ⟨2, [.string ⟨#[]⟩, .nilFunc], .st [(0, 1), (1, 1)], 0⟩) ∧
  (tlook Tt 145 = some ⟨1, [.slice none 0 0], .sl 144 2 24 [.string ⟨#[]⟩, .nilFunc], 0⟩) ∧
  (tlook Tt 149 = some ⟨1, [.pointer none], .scalar, 0⟩) ∧
  (tlook Tt 150 = some ⟨1, [.pointer none], .scalar, 0⟩) ∧
  (tlook Tt 156 = some ⟨1, [.nilFunc], .scalar, 0⟩) ∧
  (tlook Tt 162 = some ⟨2, [.string ⟨#[]⟩, .slice none 0 0], .st [(0, 1), (1, 1)], 0⟩) ∧
  (tlook Tt 170 = some ⟨1, [.nilFunc], .scalar, 0⟩) ∧
  (tlook Tt 173 = some ⟨1, [.map none], .mp (some .i64) (.int .i64 0), 0⟩) ∧
  (tlook Tt 175 = some ⟨1, [.nilFunc], .scalar, 0⟩) ∧
  (tlook Tt 176 = some ⟨1, [.nilFunc], .scalar, 0⟩) ∧
  (tlook Tt 179 = some ⟨4, [.string ⟨#[]⟩, .string ⟨#[]⟩, .int .i64 0, .int .i64 0], .st [(0, 1), (1, 1), (2, 1), (3, 1)], 1000028⟩) ∧
  (tlook Tt 181 = some ⟨1, [.nilFunc], .scalar, 0⟩) ∧
  (tlook Tt 187 = some ⟨1, [.nilFunc], .scalar, 0⟩) ∧
  (tlook Tt 188 = some ⟨1, [.pointer none], .scalar, 0⟩) ∧
  (tlook Tt 191 = some ⟨1, [.nilFunc], .scalar, 0⟩) ∧
  (tlook Tt 199 = some ⟨1, [.nilFunc], .scalar, 0⟩) ∧
  (tlook Tt 202 = some ⟨1, [.map none], .mp none (.int .i64 0), 0⟩) ∧
  (tlook Tt 203 = some ⟨2, [.map none, .map none], .st [(0, 1), (1, 1)], 0⟩) ∧
  (tlook Tt 204 = some ⟨2, [.map none, .map none], .st [(0, 1), (1, 1)], 0⟩) ∧
  (tlook Tt 206 = some ⟨1, [.nilFunc], .scalar, 0⟩) ∧
  (tlook Tt 207 = some ⟨1, [.pointer none], .scalar, 0⟩) ∧
  (tlook Tt 210 = some ⟨1, [.nilFunc], .scalar, 0⟩) ∧
  (tlook Tt 211 = some ⟨4, [.slice none 0 0, .string ⟨#[]⟩, .map none, .nilFunc], .st [(0, 1), (1, 1), (2, 1), (3, 1)], 0⟩) ∧
  (tlook Tt 212 = some ⟨8, [.slice none 0 0, .string ⟨#[]⟩, .map none, .nilFunc, .slice none 0 0, .string ⟨#[]⟩, .map none, .nilFunc], .arr 2 211 4, 0⟩) ∧
  (tlook Tt 214 = some ⟨1, [.nilFunc], .scalar, 0⟩) ∧
  (tlook Tt 215 = some ⟨1, [.nilFunc], .scalar, 0⟩) ∧
  (tlook Tt 216 = some ⟨1, [.nilFunc], .scalar, 0⟩) ∧
  (tlook Tt 221 = some ⟨1, [.nilFunc], .scalar, 0⟩) ∧
  (tlook Tt 223 = some ⟨1, [.slice none 0 0], .sl 51 1 24 [.slice none 0 0], 0⟩) ∧
  (tlook Tt 225 = some ⟨1, [.nilFunc], .scalar, 0⟩) ∧
  (tlook Tt 229 = some ⟨1, [.nilFunc], .scalar, 0⟩) ∧
  (tlook Tt 232 = some ⟨4, [.string ⟨#[]⟩, .slice none 0 0, .bool false, .bool false], .st [(0, 1), (1, 1), (2, 1), (3, 1)], 0⟩) ∧
  (tlook Tt 235 = some ⟨1, [.nilFunc], .scalar, 0⟩) ∧
  (tlook Tt 237 = some ⟨1, [.int .u64 0], .int .u64, 0⟩) ∧
  (tlook Tt 240 = some ⟨1, [.nilFunc], .scalar, 0⟩) ∧
  (tlook Tt 265 = some ⟨1, [.int .u32 0], .int .u32, 0⟩) ∧
  (tlook Tt 287 = some ⟨32, [.int .u8 0, .int .u8 0, .int .u8 0, .int .u8 0, .int .u8 0, .int .u8 0, .int .u8 0, .int .u8 0, .int .u8 0, .int .u8 0, .int .u8 0, .int .u8 0, .int .u8 0, .int .u8 0, .int .u8 0, .int .u8 0, .int .u8 0, .int .u8 0, .int .u8 0, .int .u8 0, .int .u8 0, .int .u8 0, .int .u8 0, .int .u8 0, .int .u8 0, .int .u8 0, .int .u8 0, .int .u8 0, .int .u8 0, .int .u8 0, .int .u8 0, .int .u8 0], .arr 16 286 2, 0⟩) ∧
  (tlook Tt 288 = some ⟨1, [.nilFunc], .scalar, 0⟩) ∧
  (tlook Tt 293 = some ⟨2, [.int .i64 0, .int .i64 0], .st [(0, 1), (1, 1)], 2⟩) ∧
  (tlook Tt 294 = some ⟨8, [.int .i64 0, .int .i64 0, .int .i64 0, .int .i64 0, .int .i64 0, .int .i64 0, .int .i64 0, .int .i64 0], .arr 4 293 2, 8⟩) :=
 ⟨rfl, rfl, rfl, rfl, rfl, rfl, rfl, rfl, rfl, rfl, rfl, rfl, rfl, rfl, rfl, rfl, rfl, rfl, rfl, rfl, rfl, rfl, rfl, rfl, rfl, rfl, rfl, rfl, rfl, rfl, rfl, rfl, rfl, rfl, rfl, rfl, rfl, rfl, rfl, rfl, rfl, rfl, rfl, rfl, rfl, rfl, rfl, rfl, rfl, rfl, rfl, rfl, rfl, rfl, rfl, rfl, rfl, rfl, rfl, rfl, rfl, rfl, rfl, rfl, rfl, rfl, rfl, rfl, rfl, rfl, rfl, rfl, rfl, rfl, rfl, rfl, rfl, rfl, rfl, rfl, rfl, rfl, rfl, rfl, rfl, rfl, rfl, rfl, rfl, rfl, rfl, rfl, rfl, rfl, rfl, rfl, rfl, rfl, rfl, rfl, rfl, rfl, rfl, rfl, rfl, rfl, rfl, rfl, rfl, rfl, rfl, rfl, rfl, rfl, rfl, rfl, rfl, rfl, rfl, rfl, rfl, rfl, rfl, rfl, rfl, rfl, rfl, rfl, rfl, rfl, rfl, rfl⟩
end Go.Proofs.YtgcmppghjfidfaaGreatDoor
