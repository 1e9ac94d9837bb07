/-
 The executor's table of this program's types, proved. Written by gen_t.py.
-/
import Derived.Test.YtgcmppghjfidfaaGreatDoorVLib
import Derived.Test.YtgcmppghjfidfaaGreatDoorVTabA
import Derived.Test.YtgcmppghjfidfaaGreatDoorProg
import Derived.KernelRfl
namespace Go.Proofs.YtgcmppghjfidfaaGreatDoor
open Go Go.Vx
set_option linter.unusedSimpArgs false
def Tt : Tab := [
 (1, ⟨1, [.nilFunc], .scalar, 0⟩),
 (2, ⟨1, [.int .i64 0], .int .i64, 0⟩),
 (3, ⟨1, [.int .i64 0], .int .i64, 0⟩),
 (4, ⟨1, [.bool false], .scalar, 0⟩),
 (5, ⟨1, [.int .u8 0], .int .u8, 0⟩),
 (6, ⟨1, [.int .u8 0], .int .u8, 0⟩),
 (7, ⟨4, [.int .i64 0, .int .i64 0, .bool false, .int .u8 0], .st [(0, 1), (1, 1), (2, 1), (3, 1)], 0⟩),
 (8, ⟨4, [.int .i64 0, .int .i64 0, .bool false, .int .u8 0], .st [(0, 1), (1, 1), (2, 1), (3, 1)], 0⟩),
 (9, ⟨1, [.string ⟨#[]⟩], .str, 0⟩),
 (10, ⟨1, [.string ⟨#[]⟩], .str, 0⟩),
 (11, ⟨1, [.string ⟨#[]⟩], .str, 0⟩),
 (12, ⟨1, [.int .u64 0], .int .u64, 0⟩),
 (15, ⟨1, [.pointer none], .scalar, 0⟩),
 (16, ⟨1, [.pointer none], .scalar, 0⟩),
 (17, ⟨1, [.pointer none], .scalar, 0⟩),
 (18, ⟨1, [.pointer none], .st [(0, 1)], 0⟩),
 (19, ⟨1, [.pointer none], .st [(0, 1)], 0⟩),
 (20, ⟨1, [.nilIface], .ifc, 0⟩),
 (21, ⟨1, [.int .i32 0], .int .i32, 0⟩),
 (22, ⟨1, [.slice none 0 0], .sl 81 2 32 [.int .i64 0, .slice none 0 0], 0⟩),
 (23, ⟨1, [.slice none 0 0], .sl 78 7 72 [.int .i64 0, .int .i64 0, .int .i64 0, .string ⟨#[]⟩, .string ⟨#[]⟩, .int .i64 0, .int .i64 0], 0⟩),
 (24, ⟨1, [.nilFunc], .scalar, 0⟩),
 (25, ⟨1, [.nilFunc], .scalar, 0⟩),
 (26, ⟨1, [.nilFunc], .scalar, 0⟩),
 (27, ⟨1, [.nilFunc], .scalar, 0⟩),
 (29, ⟨1, [.nilFunc], .scalar, 0⟩),
 (30, ⟨1, [.int .i64 0], .int .i64, 0⟩),
 (32, ⟨1, [.nilFunc], .scalar, 0⟩),
 (33, ⟨1, [.nilFunc], .scalar, 0⟩),
 (35, ⟨1, [.nilFunc], .scalar, 0⟩),
 (38, ⟨1, [.nilFunc], .scalar, 0⟩),
 (43, ⟨1, [.nilFunc], .scalar, 0⟩),
 (44, ⟨2, [.int .i64 0, .int .i64 0], .arr 2 3 1, 2⟩),
 (47, ⟨1, [.nilFunc], .scalar, 0⟩),
 (48, ⟨1, [.slice none 0 0], .sl 116 4 48 [.string ⟨#[]⟩, .string ⟨#[]⟩, .int .i64 0, .int .i64 0], 0⟩),
 (51, ⟨1, [.slice none 0 0], .sl 9 1 16 [.string ⟨#[]⟩], 0⟩),
 (52, ⟨5, [.slice none 0 0, .slice none 0 0, .slice none 0 0, .int .i64 0, .int .i64 0], .st [(0, 1), (1, 1), (2, 1), (3, 1), (4, 1)], 0⟩),
 (53, ⟨5, [.slice none 0 0, .slice none 0 0, .slice none 0 0, .int .i64 0, .int .i64 0], .st [(0, 1), (1, 1), (2, 1), (3, 1), (4, 1)], 0⟩),
 (54, ⟨8, [.string ⟨#[]⟩, .int .i64 0, .slice none 0 0, .slice none 0 0, .slice none 0 0, .slice none 0 0, .int .i64 0, .int .i64 0], .st [(0, 3), (3, 5)], 0⟩),
 (56, ⟨1, [.nilFunc], .scalar, 0⟩),
 (57, ⟨1, [.nilFunc], .scalar, 0⟩),
 (58, ⟨1, [.nilFunc], .scalar, 0⟩),
 (59, ⟨1, [.nilFunc], .scalar, 0⟩),
 (64, ⟨1, [.nilFunc], .scalar, 0⟩),
 (65, ⟨2, [.slice none 0 0, .slice none 0 0], .arr 2 60 1, 0⟩),
 (67, ⟨1, [.nilFunc], .scalar, 0⟩),
 (72, ⟨1, [.nilFunc], .scalar, 0⟩),
 (78, ⟨7, [.int .i64 0, .int .i64 0, .int .i64 0, .string ⟨#[]⟩, .string ⟨#[]⟩, .int .i64 0, .int .i64 0], .st [(0, 1), (1, 1), (2, 1), (3, 1), (4, 1), (5, 1), (6, 1)], 1000231⟩),
 (81, ⟨2, [.int .i64 0, .slice none 0 0], .st [(0, 1), (1, 1)], 0⟩),
 (85, ⟨1, [.nilFunc], .scalar, 0⟩),
 (87, ⟨1, [.pointer none], .scalar, 0⟩),
 (88, ⟨1, [.slice none 0 0], .sl 5 1 1 [.int .u8 0], 0⟩),
 (89, ⟨2, [.pointer none, .slice none 0 0], .st [(0, 1), (1, 1)], 0⟩),
 (90, ⟨2, [.pointer none, .slice none 0 0], .st [(0, 1), (1, 1)], 0⟩),
 (92, ⟨1, [.nilIface], .ifc, 0⟩),
 (94, ⟨1, [.nilFunc], .scalar, 0⟩),
 (95, ⟨1, [.nilFunc], .scalar, 0⟩),
 (97, ⟨1, [.nilFunc], .scalar, 0⟩),
 (98, ⟨1, [.nilFunc], .scalar, 0⟩),
 (99, ⟨1, [.nilFunc], .scalar, 0⟩),
 (101, ⟨1, [.nilFunc], .scalar, 0⟩),
 (103, ⟨1, [.nilFunc], .scalar, 0⟩),
 (104, ⟨1, [.nilFunc], .scalar, 0⟩),
 (105, ⟨1, [.nilFunc], .scalar, 0⟩),
 (106, ⟨1, [.nilFunc], .scalar, 0⟩),
 (107, ⟨1, [.nilFunc], .scalar, 0⟩),
 (108, ⟨1, [.nilFunc], .scalar, 0⟩),
 (111, ⟨1, [.nilFunc], .scalar, 0⟩),
 (112, ⟨1, [.nilFunc], .scalar, 0⟩),
 (113, ⟨1, [.nilFunc], .scalar, 0⟩),
 (114, ⟨2, [.slice none 0 0, .slice none 0 0], .arr 2 22 1, 0⟩),
 (115, ⟨4, [.string ⟨#[]⟩, .string ⟨#[]⟩, .int .i64 0, .int .i64 0], .st [(0, 1), (1, 1), (2, 1), (3, 1)], 1000028⟩),
 (116, ⟨4, [.string ⟨#[]⟩, .string ⟨#[]⟩, .int .i64 0, .int .i64 0], .st [(0, 1), (1, 1), (2, 1), (3, 1)], 1000028⟩),
 (117, ⟨1, [.nilFunc], .scalar, 0⟩),
 (118, ⟨1, [.nilFunc], .scalar, 0⟩),
 (119, ⟨1, [.slice none 0 0], .sl 123 2 48 [.slice none 0 0, .slice none 0 0], 0⟩),
 (121, ⟨1, [.nilFunc], .scalar, 0⟩),
 (123, ⟨2, [.slice none 0 0, .slice none 0 0], .st [(0, 1), (1, 1)], 0⟩),
 (126, ⟨1, [.pointer none], .scalar, 0⟩),
 (141, ⟨1, [.slice none 0 0], .sl 23 1 24 [.slice none 0 0], 0⟩),
 (142, ⟨1, [.nilFunc], .scalar, 0⟩),
 (144, ⟨2, [.string ⟨#[]⟩, .nilFunc], .st [(0, 1), (1, 1)], 0⟩),
 (145, ⟨1, [.slice none 0 0], .sl 144 2 24 [.string ⟨#[]⟩, .nilFunc], 0⟩),
 (147, ⟨1, [.slice none 0 0], .sl 20 1 16 [.nilIface], 0⟩),
 (148, ⟨1, [.pointer none], .scalar, 0⟩),
 (149, ⟨1, [.pointer none], .scalar, 0⟩),
 (150, ⟨1, [.pointer none], .scalar, 0⟩),
 (151, ⟨1, [.pointer none], .scalar, 0⟩),
 (152, ⟨1, [.nilFunc], .scalar, 0⟩),
 (156, ⟨1, [.nilFunc], .scalar, 0⟩),
 (162, ⟨2, [.string ⟨#[]⟩, .slice none 0 0], .st [(0, 1), (1, 1)], 0⟩),
 (173, ⟨1, [.map none], .mp (some .i64) (.int .i64 0), 0⟩),
 (176, ⟨1, [.nilFunc], .scalar, 0⟩),
 (179, ⟨4, [.string ⟨#[]⟩, .string ⟨#[]⟩, .int .i64 0, .int .i64 0], .st [(0, 1), (1, 1), (2, 1), (3, 1)], 1000028⟩),
 (184, ⟨1, [.nilFunc], .scalar, 0⟩),
 (188, ⟨1, [.pointer none], .scalar, 0⟩),
 (191, ⟨1, [.nilFunc], .scalar, 0⟩),
 (199, ⟨1, [.nilFunc], .scalar, 0⟩),
 (210, ⟨1, [.nilFunc], .scalar, 0⟩),
 (215, ⟨1, [.nilFunc], .scalar, 0⟩),
 (216, ⟨1, [.nilFunc], .scalar, 0⟩),
 (223, ⟨1, [.slice none 0 0], .sl 51 1 24 [.slice none 0 0], 0⟩),
 (225, ⟨1, [.nilFunc], .scalar, 0⟩),
 (230, ⟨1, [.nilFunc], .scalar, 0⟩),
 (235, ⟨1, [.nilFunc], .scalar, 0⟩),
 (251, ⟨1, [.pointer none], .scalar, 0⟩),
 (288, ⟨1, [.nilFunc], .scalar, 0⟩)]
theorem tok1 : TIok Tryz.prog 1 ⟨1, [.nilFunc], .scalar, 0⟩ := TIok.scalar (z := .nilFunc) (by kernel_rfl) rfl Tryz.underlying1 (by simp) (by simp) (by simp)
theorem tok2 : TIok Tryz.prog 2 ⟨1, [.int .i64 0], .int .i64, 0⟩ := TIok.int (by kernel_rfl) Tryz.underlying2
theorem tok3 : TIok Tryz.prog 3 ⟨1, [.int .i64 0], .int .i64, 0⟩ := TIok.int (by kernel_rfl) Tryz.underlying3
theorem tok4 : TIok Tryz.prog 4 ⟨1, [.bool false], .scalar, 0⟩ := TIok.scalar (z := .bool false) (by kernel_rfl) rfl Tryz.underlying4 (by simp) (by simp) (by simp)
theorem tok5 : TIok Tryz.prog 5 ⟨1, [.int .u8 0], .int .u8, 0⟩ := TIok.int (by kernel_rfl) Tryz.underlying5
theorem tok6 : TIok Tryz.prog 6 ⟨1, [.int .u8 0], .int .u8, 0⟩ := TIok.int (by kernel_rfl) Tryz.underlying6
theorem tok7 : TIok Tryz.prog 7 ⟨4, [.int .i64 0, .int .i64 0, .bool false, .int .u8 0], .st [(0, 1), (1, 1), (2, 1), (3, 1)], 0⟩ := TIok.st (z := .agg #[.int .i64 0, .int .i64 0, .bool false, .int .u8 0]) (by kernel_rfl) rfl Tryz.underlying7 ⟨rfl, (by kernel_rfl), (by decide), rfl, (by kernel_rfl), (by decide), rfl, (by kernel_rfl), (by decide), rfl, (by kernel_rfl), (by decide), trivial⟩ (fun h => absurd rfl h) (fun h => absurd rfl h)
theorem tok8 : TIok Tryz.prog 8 ⟨4, [.int .i64 0, .int .i64 0, .bool false, .int .u8 0], .st [(0, 1), (1, 1), (2, 1), (3, 1)], 0⟩ := TIok.st (z := .agg #[.int .i64 0, .int .i64 0, .bool false, .int .u8 0]) (by kernel_rfl) rfl Tryz.underlying8 ⟨rfl, (by kernel_rfl), (by decide), rfl, (by kernel_rfl), (by decide), rfl, (by kernel_rfl), (by decide), rfl, (by kernel_rfl), (by decide), trivial⟩ (fun h => absurd rfl h) (fun h => absurd rfl h)
theorem tok9 : TIok Tryz.prog 9 ⟨1, [.string ⟨#[]⟩], .str, 0⟩ := TIok.str (by kernel_rfl) Tryz.underlying9
theorem tok10 : TIok Tryz.prog 10 ⟨1, [.string ⟨#[]⟩], .str, 0⟩ := TIok.str (by kernel_rfl) Tryz.underlying10
theorem tok11 : TIok Tryz.prog 11 ⟨1, [.string ⟨#[]⟩], .str, 0⟩ := TIok.str (by kernel_rfl) Tryz.underlying11
theorem tok12 : TIok Tryz.prog 12 ⟨1, [.int .u64 0], .int .u64, 0⟩ := TIok.int (by kernel_rfl) Tryz.underlying12
theorem tok15 : TIok Tryz.prog 15 ⟨1, [.pointer none], .scalar, 0⟩ := TIok.scalar (z := .pointer none) (by kernel_rfl) rfl Tryz.underlying15 (by simp) (by simp) (by simp)
theorem tok16 : TIok Tryz.prog 16 ⟨1, [.pointer none], .scalar, 0⟩ := TIok.scalar (z := .pointer none) (by kernel_rfl) rfl Tryz.underlying16 (by simp) (by simp) (by simp)
theorem tok17 : TIok Tryz.prog 17 ⟨1, [.pointer none], .scalar, 0⟩ := TIok.scalar (z := .pointer none) (by kernel_rfl) rfl Tryz.underlying17 (by simp) (by simp) (by simp)
theorem tok18 : TIok Tryz.prog 18 ⟨1, [.pointer none], .st [(0, 1)], 0⟩ := TIok.st (z := .agg #[.pointer none]) (by kernel_rfl) rfl Tryz.underlying18 ⟨rfl, (by kernel_rfl), (by decide), trivial⟩ (fun h => absurd rfl h) (fun h => absurd rfl h)
theorem tok19 : TIok Tryz.prog 19 ⟨1, [.pointer none], .st [(0, 1)], 0⟩ := TIok.st (z := .agg #[.pointer none]) (by kernel_rfl) rfl Tryz.underlying19 ⟨rfl, (by kernel_rfl), (by decide), trivial⟩ (fun h => absurd rfl h) (fun h => absurd rfl h)
theorem tok20 : TIok Tryz.prog 20 ⟨1, [.nilIface], .ifc, 0⟩ := TIok.ifc (by kernel_rfl) Tryz.underlying20
theorem tok21 : TIok Tryz.prog 21 ⟨1, [.int .i32 0], .int .i32, 0⟩ := TIok.int (by kernel_rfl) Tryz.underlying21
theorem tok22 : TIok Tryz.prog 22 ⟨1, [.slice none 0 0], .sl 81 2 32 [.int .i64 0, .slice none 0 0], 0⟩ := TIok.sl (z := .agg #[.int .i64 0, .slice none 0 0]) (by kernel_rfl) Tryz.underlying22 (by kernel_rfl) rfl (by decide) (by decide) rfl rfl
theorem tok23 : TIok Tryz.prog 23 ⟨1, [.slice none 0 0], .sl 78 7 72 [.int .i64 0, .int .i64 0, .int .i64 0, .string ⟨#[]⟩, .string ⟨#[]⟩, .int .i64 0, .int .i64 0], 0⟩ := TIok.sl (z := .agg #[.int .i64 0, .int .i64 0, .int .i64 0, .string ⟨#[]⟩, .string ⟨#[]⟩, .int .i64 0, .int .i64 0]) (by kernel_rfl) Tryz.underlying23 (by kernel_rfl) rfl (by decide) (by decide) rfl rfl
theorem tok24 : TIok Tryz.prog 24 ⟨1, [.nilFunc], .scalar, 0⟩ := TIok.scalar (z := .nilFunc) (by kernel_rfl) rfl Tryz.underlying24 (by simp) (by simp) (by simp)
theorem tok25 : TIok Tryz.prog 25 ⟨1, [.nilFunc], .scalar, 0⟩ := TIok.scalar (z := .nilFunc) (by kernel_rfl) rfl Tryz.underlying25 (by simp) (by simp) (by simp)
theorem tok26 : TIok Tryz.prog 26 ⟨1, [.nilFunc], .scalar, 0⟩ := TIok.scalar (z := .nilFunc) (by kernel_rfl) rfl Tryz.underlying26 (by simp) (by simp) (by simp)
theorem tok27 : TIok Tryz.prog 27 ⟨1, [.nilFunc], .scalar, 0⟩ := TIok.scalar (z := .nilFunc) (by kernel_rfl) rfl Tryz.underlying27 (by simp) (by simp) (by simp)
theorem tok29 : TIok Tryz.prog 29 ⟨1, [.nilFunc], .scalar, 0⟩ := TIok.scalar (z := .nilFunc) (by kernel_rfl) rfl Tryz.underlying29 (by simp) (by simp) (by simp)
theorem tok30 : TIok Tryz.prog 30 ⟨1, [.int .i64 0], .int .i64, 0⟩ := TIok.int (by kernel_rfl) Tryz.underlying30
theorem tok32 : TIok Tryz.prog 32 ⟨1, [.nilFunc], .scalar, 0⟩ := TIok.scalar (z := .nilFunc) (by kernel_rfl) rfl Tryz.underlying32 (by simp) (by simp) (by simp)
theorem tok33 : TIok Tryz.prog 33 ⟨1, [.nilFunc], .scalar, 0⟩ := TIok.scalar (z := .nilFunc) (by kernel_rfl) rfl Tryz.underlying33 (by simp) (by simp) (by simp)
theorem tok35 : TIok Tryz.prog 35 ⟨1, [.nilFunc], .scalar, 0⟩ := TIok.scalar (z := .nilFunc) (by kernel_rfl) rfl Tryz.underlying35 (by simp) (by simp) (by simp)
theorem tok38 : TIok Tryz.prog 38 ⟨1, [.nilFunc], .scalar, 0⟩ := TIok.scalar (z := .nilFunc) (by kernel_rfl) rfl Tryz.underlying38 (by simp) (by simp) (by simp)
theorem tok43 : TIok Tryz.prog 43 ⟨1, [.nilFunc], .scalar, 0⟩ := TIok.scalar (z := .nilFunc) (by kernel_rfl) rfl Tryz.underlying43 (by simp) (by simp) (by simp)
theorem tok44 : TIok Tryz.prog 44 ⟨2, [.int .i64 0, .int .i64 0], .arr 2 3 1, 2⟩ := TIok.arrE (z := .agg #[.int .i64 0, .int .i64 0]) (by kernel_rfl) rfl Tryz.underlying44 (by kernel_rfl) rfl Tryz.eqGuardType44 (PartEq.int Tryz.underlying3)
theorem tok47 : TIok Tryz.prog 47 ⟨1, [.nilFunc], .scalar, 0⟩ := TIok.scalar (z := .nilFunc) (by kernel_rfl) rfl Tryz.underlying47 (by simp) (by simp) (by simp)
theorem tok48 : TIok Tryz.prog 48 ⟨1, [.slice none 0 0], .sl 116 4 48 [.string ⟨#[]⟩, .string ⟨#[]⟩, .int .i64 0, .int .i64 0], 0⟩ := TIok.sl (z := .agg #[.string ⟨#[]⟩, .string ⟨#[]⟩, .int .i64 0, .int .i64 0]) (by kernel_rfl) Tryz.underlying48 (by kernel_rfl) rfl (by decide) (by decide) rfl rfl
theorem tok51 : TIok Tryz.prog 51 ⟨1, [.slice none 0 0], .sl 9 1 16 [.string ⟨#[]⟩], 0⟩ := TIok.sl (z := .string ⟨#[]⟩) (by kernel_rfl) Tryz.underlying51 (by kernel_rfl) rfl (by decide) (by decide) rfl rfl
theorem tok52 : TIok Tryz.prog 52 ⟨5, [.slice none 0 0, .slice none 0 0, .slice none 0 0, .int .i64 0, .int .i64 0], .st [(0, 1), (1, 1), (2, 1), (3, 1), (4, 1)], 0⟩ := TIok.st (z := .agg #[.slice none 0 0, .slice none 0 0, .slice none 0 0, .int .i64 0, .int .i64 0]) (by kernel_rfl) rfl Tryz.underlying52 ⟨rfl, (by kernel_rfl), (by decide), rfl, (by kernel_rfl), (by decide), rfl, (by kernel_rfl), (by decide), rfl, (by kernel_rfl), (by decide), rfl, (by kernel_rfl), (by decide), trivial⟩ (fun h => absurd rfl h) (fun h => absurd rfl h)
theorem tok53 : TIok Tryz.prog 53 ⟨5, [.slice none 0 0, .slice none 0 0, .slice none 0 0, .int .i64 0, .int .i64 0], .st [(0, 1), (1, 1), (2, 1), (3, 1), (4, 1)], 0⟩ := TIok.st (z := .agg #[.slice none 0 0, .slice none 0 0, .slice none 0 0, .int .i64 0, .int .i64 0]) (by kernel_rfl) rfl Tryz.underlying53 ⟨rfl, (by kernel_rfl), (by decide), rfl, (by kernel_rfl), (by decide), rfl, (by kernel_rfl), (by decide), rfl, (by kernel_rfl), (by decide), rfl, (by kernel_rfl), (by decide), trivial⟩ (fun h => absurd rfl h) (fun h => absurd rfl h)
theorem tok54 : TIok Tryz.prog 54 ⟨8, [.string ⟨#[]⟩, .int .i64 0, .slice none 0 0, .slice none 0 0, .slice none 0 0, .slice none 0 0, .int .i64 0, .int .i64 0], .st [(0, 3), (3, 5)], 0⟩ := TIok.st (z := .agg #[.string ⟨#[]⟩, .int .i64 0, .slice none 0 0, .slice none 0 0, .slice none 0 0, .slice none 0 0, .int .i64 0, .int .i64 0]) (by kernel_rfl) rfl Tryz.underlying54 ⟨rfl, (by kernel_rfl), (by decide), rfl, (by kernel_rfl), (by decide), trivial⟩ (fun h => absurd rfl h) (fun h => absurd rfl h)
theorem tok56 : TIok Tryz.prog 56 ⟨1, [.nilFunc], .scalar, 0⟩ := TIok.scalar (z := .nilFunc) (by kernel_rfl) rfl Tryz.underlying56 (by simp) (by simp) (by simp)
theorem tok57 : TIok Tryz.prog 57 ⟨1, [.nilFunc], .scalar, 0⟩ := TIok.scalar (z := .nilFunc) (by kernel_rfl) rfl Tryz.underlying57 (by simp) (by simp) (by simp)
theorem tok58 : TIok Tryz.prog 58 ⟨1, [.nilFunc], .scalar, 0⟩ := TIok.scalar (z := .nilFunc) (by kernel_rfl) rfl Tryz.underlying58 (by simp) (by simp) (by simp)
theorem tok59 : TIok Tryz.prog 59 ⟨1, [.nilFunc], .scalar, 0⟩ := TIok.scalar (z := .nilFunc) (by kernel_rfl) rfl Tryz.underlying59 (by simp) (by simp) (by simp)
theorem tok64 : TIok Tryz.prog 64 ⟨1, [.nilFunc], .scalar, 0⟩ := TIok.scalar (z := .nilFunc) (by kernel_rfl) rfl Tryz.underlying64 (by simp) (by simp) (by simp)
theorem tok65 : TIok Tryz.prog 65 ⟨2, [.slice none 0 0, .slice none 0 0], .arr 2 60 1, 0⟩ := TIok.arr (z := .agg #[.slice none 0 0, .slice none 0 0]) (by kernel_rfl) rfl Tryz.underlying65 (by kernel_rfl)
theorem tok67 : TIok Tryz.prog 67 ⟨1, [.nilFunc], .scalar, 0⟩ := TIok.scalar (z := .nilFunc) (by kernel_rfl) rfl Tryz.underlying67 (by simp) (by simp) (by simp)
theorem tok72 : TIok Tryz.prog 72 ⟨1, [.nilFunc], .scalar, 0⟩ := TIok.scalar (z := .nilFunc) (by kernel_rfl) rfl Tryz.underlying72 (by simp) (by simp) (by simp)
theorem tok78 : TIok Tryz.prog 78 ⟨7, [.int .i64 0, .int .i64 0, .int .i64 0, .string ⟨#[]⟩, .string ⟨#[]⟩, .int .i64 0, .int .i64 0], .st [(0, 1), (1, 1), (2, 1), (3, 1), (4, 1), (5, 1), (6, 1)], 1000231⟩ := TIok.st (z := .agg #[.int .i64 0, .int .i64 0, .int .i64 0, .string ⟨#[]⟩, .string ⟨#[]⟩, .int .i64 0, .int .i64 0]) (by kernel_rfl) rfl Tryz.underlying78 ⟨rfl, (by kernel_rfl), (by decide), rfl, (by kernel_rfl), (by decide), rfl, (by kernel_rfl), (by decide), rfl, (by kernel_rfl), (by decide), rfl, (by kernel_rfl), (by decide), rfl, (by kernel_rfl), (by decide), rfl, (by kernel_rfl), (by decide), trivial⟩ (fun _ => EqS.up (c := 231) (EqS.of Tryz.underlying78 Tryz.eqGuardType78 Tryz.stoodInHeld78 (by simp [flOk, Tryz.underlying3, Tryz.underlying9]))) (fun _ => ScOk.ofS (c := 231) Tryz.underlying78 (by simp [flOk, Tryz.underlying3, Tryz.underlying9]))
theorem tok81 : TIok Tryz.prog 81 ⟨2, [.int .i64 0, .slice none 0 0], .st [(0, 1), (1, 1)], 0⟩ := TIok.st (z := .agg #[.int .i64 0, .slice none 0 0]) (by kernel_rfl) rfl Tryz.underlying81 ⟨rfl, (by kernel_rfl), (by decide), rfl, (by kernel_rfl), (by decide), trivial⟩ (fun h => absurd rfl h) (fun h => absurd rfl h)
theorem tok85 : TIok Tryz.prog 85 ⟨1, [.nilFunc], .scalar, 0⟩ := TIok.scalar (z := .nilFunc) (by kernel_rfl) rfl Tryz.underlying85 (by simp) (by simp) (by simp)
theorem tok87 : TIok Tryz.prog 87 ⟨1, [.pointer none], .scalar, 0⟩ := TIok.scalar (z := .pointer none) (by kernel_rfl) rfl Tryz.underlying87 (by simp) (by simp) (by simp)
theorem tok88 : TIok Tryz.prog 88 ⟨1, [.slice none 0 0], .sl 5 1 1 [.int .u8 0], 0⟩ := TIok.sl (z := .int .u8 0) (by kernel_rfl) Tryz.underlying88 (by kernel_rfl) rfl (by decide) (by decide) rfl rfl
theorem tok89 : TIok Tryz.prog 89 ⟨2, [.pointer none, .slice none 0 0], .st [(0, 1), (1, 1)], 0⟩ := TIok.st (z := .agg #[.pointer none, .slice none 0 0]) (by kernel_rfl) rfl Tryz.underlying89 ⟨rfl, (by kernel_rfl), (by decide), rfl, (by kernel_rfl), (by decide), trivial⟩ (fun h => absurd rfl h) (fun h => absurd rfl h)
theorem tok90 : TIok Tryz.prog 90 ⟨2, [.pointer none, .slice none 0 0], .st [(0, 1), (1, 1)], 0⟩ := TIok.st (z := .agg #[.pointer none, .slice none 0 0]) (by kernel_rfl) rfl Tryz.underlying90 ⟨rfl, (by kernel_rfl), (by decide), rfl, (by kernel_rfl), (by decide), trivial⟩ (fun h => absurd rfl h) (fun h => absurd rfl h)
theorem tok92 : TIok Tryz.prog 92 ⟨1, [.nilIface], .ifc, 0⟩ := TIok.ifc (by kernel_rfl) Tryz.underlying92
theorem tok94 : TIok Tryz.prog 94 ⟨1, [.nilFunc], .scalar, 0⟩ := TIok.scalar (z := .nilFunc) (by kernel_rfl) rfl Tryz.underlying94 (by simp) (by simp) (by simp)
theorem tok95 : TIok Tryz.prog 95 ⟨1, [.nilFunc], .scalar, 0⟩ := TIok.scalar (z := .nilFunc) (by kernel_rfl) rfl Tryz.underlying95 (by simp) (by simp) (by simp)
theorem tok97 : TIok Tryz.prog 97 ⟨1, [.nilFunc], .scalar, 0⟩ := TIok.scalar (z := .nilFunc) (by kernel_rfl) rfl Tryz.underlying97 (by simp) (by simp) (by simp)
theorem tok98 : TIok Tryz.prog 98 ⟨1, [.nilFunc], .scalar, 0⟩ := TIok.scalar (z := .nilFunc) (by kernel_rfl) rfl Tryz.underlying98 (by simp) (by simp) (by simp)
theorem tok99 : TIok Tryz.prog 99 ⟨1, [.nilFunc], .scalar, 0⟩ := TIok.scalar (z := .nilFunc) (by kernel_rfl) rfl Tryz.underlying99 (by simp) (by simp) (by simp)
theorem tok101 : TIok Tryz.prog 101 ⟨1, [.nilFunc], .scalar, 0⟩ := TIok.scalar (z := .nilFunc) (by kernel_rfl) rfl Tryz.underlying101 (by simp) (by simp) (by simp)
theorem tok103 : TIok Tryz.prog 103 ⟨1, [.nilFunc], .scalar, 0⟩ := TIok.scalar (z := .nilFunc) (by kernel_rfl) rfl Tryz.underlying103 (by simp) (by simp) (by simp)
theorem tok104 : TIok Tryz.prog 104 ⟨1, [.nilFunc], .scalar, 0⟩ := TIok.scalar (z := .nilFunc) (by kernel_rfl) rfl Tryz.underlying104 (by simp) (by simp) (by simp)
theorem tok105 : TIok Tryz.prog 105 ⟨1, [.nilFunc], .scalar, 0⟩ := TIok.scalar (z := .nilFunc) (by kernel_rfl) rfl Tryz.underlying105 (by simp) (by simp) (by simp)
theorem tok106 : TIok Tryz.prog 106 ⟨1, [.nilFunc], .scalar, 0⟩ := TIok.scalar (z := .nilFunc) (by kernel_rfl) rfl Tryz.underlying106 (by simp) (by simp) (by simp)
theorem tok107 : TIok Tryz.prog 107 ⟨1, [.nilFunc], .scalar, 0⟩ := TIok.scalar (z := .nilFunc) (by kernel_rfl) rfl Tryz.underlying107 (by simp) (by simp) (by simp)
theorem tok108 : TIok Tryz.prog 108 ⟨1, [.nilFunc], .scalar, 0⟩ := TIok.scalar (z := .nilFunc) (by kernel_rfl) rfl Tryz.underlying108 (by simp) (by simp) (by simp)
theorem tok111 : TIok Tryz.prog 111 ⟨1, [.nilFunc], .scalar, 0⟩ := TIok.scalar (z := .nilFunc) (by kernel_rfl) rfl Tryz.underlying111 (by simp) (by simp) (by simp)
theorem tok112 : TIok Tryz.prog 112 ⟨1, [.nilFunc], .scalar, 0⟩ := TIok.scalar (z := .nilFunc) (by kernel_rfl) rfl Tryz.underlying112 (by simp) (by simp) (by simp)
theorem tok113 : TIok Tryz.prog 113 ⟨1, [.nilFunc], .scalar, 0⟩ := TIok.scalar (z := .nilFunc) (by kernel_rfl) rfl Tryz.underlying113 (by simp) (by simp) (by simp)
theorem tok114 : TIok Tryz.prog 114 ⟨2, [.slice none 0 0, .slice none 0 0], .arr 2 22 1, 0⟩ := TIok.arr (z := .agg #[.slice none 0 0, .slice none 0 0]) (by kernel_rfl) rfl Tryz.underlying114 (by kernel_rfl)
theorem tok115 : TIok Tryz.prog 115 ⟨4, [.string ⟨#[]⟩, .string ⟨#[]⟩, .int .i64 0, .int .i64 0], .st [(0, 1), (1, 1), (2, 1), (3, 1)], 1000028⟩ := TIok.st (z := .agg #[.string ⟨#[]⟩, .string ⟨#[]⟩, .int .i64 0, .int .i64 0]) (by kernel_rfl) rfl Tryz.underlying115 ⟨rfl, (by kernel_rfl), (by decide), rfl, (by kernel_rfl), (by decide), rfl, (by kernel_rfl), (by decide), rfl, (by kernel_rfl), (by decide), trivial⟩ (fun _ => EqS.up (c := 28) (EqS.of Tryz.underlying115 Tryz.eqGuardType115 Tryz.stoodInHeld115 (by simp [flOk, Tryz.underlying3, Tryz.underlying9]))) (fun _ => ScOk.ofS (c := 28) Tryz.underlying115 (by simp [flOk, Tryz.underlying3, Tryz.underlying9]))
theorem tok116 : TIok Tryz.prog 116 ⟨4, [.string ⟨#[]⟩, .string ⟨#[]⟩, .int .i64 0, .int .i64 0], .st [(0, 1), (1, 1), (2, 1), (3, 1)], 1000028⟩ := TIok.st (z := .agg #[.string ⟨#[]⟩, .string ⟨#[]⟩, .int .i64 0, .int .i64 0]) (by kernel_rfl) rfl Tryz.underlying116 ⟨rfl, (by kernel_rfl), (by decide), rfl, (by kernel_rfl), (by decide), rfl, (by kernel_rfl), (by decide), rfl, (by kernel_rfl), (by decide), trivial⟩ (fun _ => EqS.up (c := 28) (EqS.of Tryz.underlying116 Tryz.eqGuardType116 Tryz.stoodInHeld116 (by simp [flOk, Tryz.underlying3, Tryz.underlying9]))) (fun _ => ScOk.ofS (c := 28) Tryz.underlying116 (by simp [flOk, Tryz.underlying3, Tryz.underlying9]))
theorem tok117 : TIok Tryz.prog 117 ⟨1, [.nilFunc], .scalar, 0⟩ := TIok.scalar (z := .nilFunc) (by kernel_rfl) rfl Tryz.underlying117 (by simp) (by simp) (by simp)
theorem tok118 : TIok Tryz.prog 118 ⟨1, [.nilFunc], .scalar, 0⟩ := TIok.scalar (z := .nilFunc) (by kernel_rfl) rfl Tryz.underlying118 (by simp) (by simp) (by simp)
theorem tok119 : TIok Tryz.prog 119 ⟨1, [.slice none 0 0], .sl 123 2 48 [.slice none 0 0, .slice none 0 0], 0⟩ := TIok.sl (z := .agg #[.slice none 0 0, .slice none 0 0]) (by kernel_rfl) Tryz.underlying119 (by kernel_rfl) rfl (by decide) (by decide) rfl rfl
theorem tok121 : TIok Tryz.prog 121 ⟨1, [.nilFunc], .scalar, 0⟩ := TIok.scalar (z := .nilFunc) (by kernel_rfl) rfl Tryz.underlying121 (by simp) (by simp) (by simp)
theorem tok123 : TIok Tryz.prog 123 ⟨2, [.slice none 0 0, .slice none 0 0], .st [(0, 1), (1, 1)], 0⟩ := TIok.st (z := .agg #[.slice none 0 0, .slice none 0 0]) (by kernel_rfl) rfl Tryz.underlying123 ⟨rfl, (by kernel_rfl), (by decide), rfl, (by kernel_rfl), (by decide), trivial⟩ (fun h => absurd rfl h) (fun h => absurd rfl h)
theorem tok126 : TIok Tryz.prog 126 ⟨1, [.pointer none], .scalar, 0⟩ := TIok.scalar (z := .pointer none) (by kernel_rfl) rfl Tryz.underlying126 (by simp) (by simp) (by simp)
theorem tok141 : TIok Tryz.prog 141 ⟨1, [.slice none 0 0], .sl 23 1 24 [.slice none 0 0], 0⟩ := TIok.sl (z := .slice none 0 0) (by kernel_rfl) Tryz.underlying141 (by kernel_rfl) rfl (by decide) (by decide) rfl rfl
theorem tok142 : TIok Tryz.prog 142 ⟨1, [.nilFunc], .scalar, 0⟩ := TIok.scalar (z := .nilFunc) (by kernel_rfl) rfl Tryz.underlying142 (by simp) (by simp) (by simp)
theorem tok144 : TIok Tryz.prog 144 ⟨2, [.string ⟨#[]⟩, .nilFunc], .st [(0, 1), (1, 1)], 0⟩ := TIok.st (z := .agg #[.string ⟨#[]⟩, .nilFunc]) (by kernel_rfl) rfl Tryz.underlying144 ⟨rfl, (by kernel_rfl), (by decide), rfl, (by kernel_rfl), (by decide), trivial⟩ (fun h => absurd rfl h) (fun h => absurd rfl h)
theorem tok145 : TIok Tryz.prog 145 ⟨1, [.slice none 0 0], .sl 144 2 24 [.string ⟨#[]⟩, .nilFunc], 0⟩ := TIok.sl (z := .agg #[.string ⟨#[]⟩, .nilFunc]) (by kernel_rfl) Tryz.underlying145 (by kernel_rfl) rfl (by decide) (by decide) rfl rfl
theorem tok147 : TIok Tryz.prog 147 ⟨1, [.slice none 0 0], .sl 20 1 16 [.nilIface], 0⟩ := TIok.sl (z := .nilIface) (by kernel_rfl) Tryz.underlying147 (by kernel_rfl) rfl (by decide) (by decide) rfl rfl
theorem tok148 : TIok Tryz.prog 148 ⟨1, [.pointer none], .scalar, 0⟩ := TIok.scalar (z := .pointer none) (by kernel_rfl) rfl Tryz.underlying148 (by simp) (by simp) (by simp)
theorem tok149 : TIok Tryz.prog 149 ⟨1, [.pointer none], .scalar, 0⟩ := TIok.scalar (z := .pointer none) (by kernel_rfl) rfl Tryz.underlying149 (by simp) (by simp) (by simp)
theorem tok150 : TIok Tryz.prog 150 ⟨1, [.pointer none], .scalar, 0⟩ := TIok.scalar (z := .pointer none) (by kernel_rfl) rfl Tryz.underlying150 (by simp) (by simp) (by simp)
theorem tok151 : TIok Tryz.prog 151 ⟨1, [.pointer none], .scalar, 0⟩ := TIok.scalar (z := .pointer none) (by kernel_rfl) rfl Tryz.underlying151 (by simp) (by simp) (by simp)
theorem tok152 : TIok Tryz.prog 152 ⟨1, [.nilFunc], .scalar, 0⟩ := TIok.scalar (z := .nilFunc) (by kernel_rfl) rfl Tryz.underlying152 (by simp) (by simp) (by simp)
theorem tok156 : TIok Tryz.prog 156 ⟨1, [.nilFunc], .scalar, 0⟩ := TIok.scalar (z := .nilFunc) (by kernel_rfl) rfl Tryz.underlying156 (by simp) (by simp) (by simp)
theorem tok162 : TIok Tryz.prog 162 ⟨2, [.string ⟨#[]⟩, .slice none 0 0], .st [(0, 1), (1, 1)], 0⟩ := TIok.st (z := .agg #[.string ⟨#[]⟩, .slice none 0 0]) (by kernel_rfl) rfl Tryz.underlying162 ⟨rfl, (by kernel_rfl), (by decide), rfl, (by kernel_rfl), (by decide), trivial⟩ (fun h => absurd rfl h) (fun h => absurd rfl h)
theorem tok173 : TIok Tryz.prog 173 ⟨1, [.map none], .mp (some .i64) (.int .i64 0), 0⟩ := TIok.mp (by kernel_rfl) Tryz.underlying173 Tryz.underlying3 (by kernel_rfl)
theorem tok176 : TIok Tryz.prog 176 ⟨1, [.nilFunc], .scalar, 0⟩ := TIok.scalar (z := .nilFunc) (by kernel_rfl) rfl Tryz.underlying176 (by simp) (by simp) (by simp)
theorem tok179 : TIok Tryz.prog 179 ⟨4, [.string ⟨#[]⟩, .string ⟨#[]⟩, .int .i64 0, .int .i64 0], .st [(0, 1), (1, 1), (2, 1), (3, 1)], 1000028⟩ := TIok.st (z := .agg #[.string ⟨#[]⟩, .string ⟨#[]⟩, .int .i64 0, .int .i64 0]) (by kernel_rfl) rfl Tryz.underlying179 ⟨rfl, (by kernel_rfl), (by decide), rfl, (by kernel_rfl), (by decide), rfl, (by kernel_rfl), (by decide), rfl, (by kernel_rfl), (by decide), trivial⟩ (fun _ => EqS.up (c := 28) (EqS.of Tryz.underlying179 Tryz.eqGuardType179 Tryz.stoodInHeld179 (by simp [flOk, Tryz.underlying3, Tryz.underlying9]))) (fun _ => ScOk.ofS (c := 28) Tryz.underlying179 (by simp [flOk, Tryz.underlying3, Tryz.underlying9]))
theorem tok184 : TIok Tryz.prog 184 ⟨1, [.nilFunc], .scalar, 0⟩ := TIok.scalar (z := .nilFunc) (by kernel_rfl) rfl Tryz.underlying184 (by simp) (by simp) (by simp)
theorem tok188 : TIok Tryz.prog 188 ⟨1, [.pointer none], .scalar, 0⟩ := TIok.scalar (z := .pointer none) (by kernel_rfl) rfl Tryz.underlying188 (by simp) (by simp) (by simp)
theorem tok191 : TIok Tryz.prog 191 ⟨1, [.nilFunc], .scalar, 0⟩ := TIok.scalar (z := .nilFunc) (by kernel_rfl) rfl Tryz.underlying191 (by simp) (by simp) (by simp)
theorem tok199 : TIok Tryz.prog 199 ⟨1, [.nilFunc], .scalar, 0⟩ := TIok.scalar (z := .nilFunc) (by kernel_rfl) rfl Tryz.underlying199 (by simp) (by simp) (by simp)
theorem tok210 : TIok Tryz.prog 210 ⟨1, [.nilFunc], .scalar, 0⟩ := TIok.scalar (z := .nilFunc) (by kernel_rfl) rfl Tryz.underlying210 (by simp) (by simp) (by simp)
theorem tok215 : TIok Tryz.prog 215 ⟨1, [.nilFunc], .scalar, 0⟩ := TIok.scalar (z := .nilFunc) (by kernel_rfl) rfl Tryz.underlying215 (by simp) (by simp) (by simp)
theorem tok216 : TIok Tryz.prog 216 ⟨1, [.nilFunc], .scalar, 0⟩ := TIok.scalar (z := .nilFunc) (by kernel_rfl) rfl Tryz.underlying216 (by simp) (by simp) (by simp)
theorem tok223 : TIok Tryz.prog 223 ⟨1, [.slice none 0 0], .sl 51 1 24 [.slice none 0 0], 0⟩ := TIok.sl (z := .slice none 0 0) (by kernel_rfl) Tryz.underlying223 (by kernel_rfl) rfl (by decide) (by decide) rfl rfl
theorem tok225 : TIok Tryz.prog 225 ⟨1, [.nilFunc], .scalar, 0⟩ := TIok.scalar (z := .nilFunc) (by kernel_rfl) rfl Tryz.underlying225 (by simp) (by simp) (by simp)
theorem tok230 : TIok Tryz.prog 230 ⟨1, [.nilFunc], .scalar, 0⟩ := TIok.scalar (z := .nilFunc) (by kernel_rfl) rfl Tryz.underlying230 (by simp) (by simp) (by simp)
theorem tok235 : TIok Tryz.prog 235 ⟨1, [.nilFunc], .scalar, 0⟩ := TIok.scalar (z := .nilFunc) (by kernel_rfl) rfl Tryz.underlying235 (by simp) (by simp) (by simp)
theorem tok251 : TIok Tryz.prog 251 ⟨1, [.pointer none], .scalar, 0⟩ := TIok.scalar (z := .pointer none) (by kernel_rfl) rfl Tryz.underlying251 (by simp) (by simp) (by simp)
theorem tok288 : TIok Tryz.prog 288 ⟨1, [.nilFunc], .scalar, 0⟩ := TIok.scalar (z := .nilFunc) (by kernel_rfl) rfl Tryz.underlying288 (by simp) (by simp) (by simp)
set_option maxRecDepth 20000 in
theorem Tok : TabOk Tryz.prog Tt :=
 TabOk.cons tok1 <| TabOk.cons tok2 <| TabOk.cons tok3 <| TabOk.cons tok4 <| TabOk.cons tok5 <| TabOk.cons tok6 <| TabOk.cons tok7 <| TabOk.cons tok8 <| TabOk.cons tok9 <| TabOk.cons tok10 <| TabOk.cons tok11 <| TabOk.cons tok12 <| TabOk.cons tok15 <| TabOk.cons tok16 <| TabOk.cons tok17 <| TabOk.cons tok18 <| TabOk.cons tok19 <| TabOk.cons tok20 <| TabOk.cons tok21 <| TabOk.cons tok22 <| TabOk.cons tok23 <| TabOk.cons tok24 <| TabOk.cons tok25 <| TabOk.cons tok26 <| TabOk.cons tok27 <| TabOk.cons tok29 <| TabOk.cons tok30 <| TabOk.cons tok32 <| TabOk.cons tok33 <| TabOk.cons tok35 <| TabOk.cons tok38 <| TabOk.cons tok43 <| TabOk.cons tok44 <| TabOk.cons tok47 <| TabOk.cons tok48 <| TabOk.cons tok51 <| TabOk.cons tok52 <| TabOk.cons tok53 <| TabOk.cons tok54 <| TabOk.cons tok56 <| TabOk.cons tok57 <| TabOk.cons tok58 <| TabOk.cons tok59 <| TabOk.cons tok64 <| TabOk.cons tok65 <| TabOk.cons tok67 <| TabOk.cons tok72 <| TabOk.cons tok78 <| TabOk.cons tok81 <| TabOk.cons tok85 <| TabOk.cons tok87 <| TabOk.cons tok88 <| TabOk.cons tok89 <| TabOk.cons tok90 <| TabOk.cons tok92 <| TabOk.cons tok94 <| TabOk.cons tok95 <| TabOk.cons tok97 <| TabOk.cons tok98 <| TabOk.cons tok99 <| TabOk.cons tok101 <| TabOk.cons tok103 <| TabOk.cons tok104 <| TabOk.cons tok105 <| TabOk.cons tok106 <| TabOk.cons tok107 <| TabOk.cons tok108 <| TabOk.cons tok111 <| TabOk.cons tok112 <| TabOk.cons tok113 <| TabOk.cons tok114 <| TabOk.cons tok115 <| TabOk.cons tok116 <| TabOk.cons tok117 <| TabOk.cons tok118 <| TabOk.cons tok119 <| TabOk.cons tok121 <| TabOk.cons tok123 <| TabOk.cons tok126 <| TabOk.cons tok141 <| TabOk.cons tok142 <| TabOk.cons tok144 <| TabOk.cons tok145 <| TabOk.cons tok147 <| TabOk.cons tok148 <| TabOk.cons tok149 <| TabOk.cons tok150 <| TabOk.cons tok151 <| TabOk.cons tok152 <| TabOk.cons tok156 <| TabOk.cons tok162 <| TabOk.cons tok173 <| TabOk.cons tok176 <| TabOk.cons tok179 <| TabOk.cons tok184 <| TabOk.cons tok188 <| TabOk.cons tok191 <| TabOk.cons tok199 <| TabOk.cons tok210 <| TabOk.cons tok215 <| TabOk.cons tok216 <| TabOk.cons tok223 <| TabOk.cons tok225 <| TabOk.cons tok230 <| TabOk.cons tok235 <| TabOk.cons tok251 <| TabOk.cons tok288 <| TabOk.nil
set_option maxRecDepth 20000 in
theorem tys :
  (tlook Tt 1 = some ⟨1, [.nilFunc], .scalar, 0⟩) ∧
  (tlook Tt 2 = some ⟨1, [.int .i64 0], .int .i64, 0⟩) ∧
  (tlook Tt 3 = some ⟨1, [.int .i64 0], .int .i64, 0⟩) ∧
  (tlook Tt 4 = some ⟨1, [.bool false], .scalar, 0⟩) ∧
  (tlook Tt 5 = some ⟨1, [.int .u8 0], .int .u8, 0⟩) ∧
  (tlook Tt 6 = some ⟨1, [.int .u8 0], .int .u8, 0⟩) ∧
  (tlook Tt 7 = some ⟨4, [.int .i64 0, .int .i64 0, .bool false, .int .u8 0], .st [(0, 1), (1, 1), (2, 1), (3, 1)], 0⟩) ∧
  (tlook Tt 8 = some ⟨4, [.int .i64 0, .int .i64 0, .bool false, .int .u8 0], .st [(0, 1), (1, 1), (2, 1), (3, 1)], 0⟩) ∧
  (tlook Tt 9 = some ⟨1, [.string ⟨#[]⟩], .str, 0⟩) ∧
  (tlook Tt 10 = some ⟨1, [.string ⟨#[]⟩], .str, 0⟩) ∧
  (tlook Tt 11 = some ⟨1, [.string ⟨#[]⟩], .str, 0⟩) ∧
  (tlook Tt 12 = some ⟨1, [.int .u64 0], .int .u64, 0⟩) ∧
  (tlook Tt 15 = some ⟨1, [.pointer none], .scalar, 0⟩) ∧
  (tlook Tt 16 = some ⟨1, [.pointer none], .scalar, 0⟩) ∧
  (tlook Tt 17 = some ⟨1, [.pointer none], .scalar, 0⟩) ∧
  (tlook Tt 18 = some ⟨1, [.pointer none], .st [(0, 1)], 0⟩) ∧
  (tlook Tt 19 = some ⟨1, [.pointer none], .st [(0, 1)], 0⟩) ∧
  (tlook Tt 20 = some ⟨1, [.nilIface], .ifc, 0⟩) ∧
  (tlook Tt 21 = some ⟨1, [.int .i32 0], .int .i32, 0⟩) ∧
  (tlook Tt 22 = some ⟨1, [.slice none 0 0], .sl 81 2 32 [.int .i64 0, .slice none 0 0], 0⟩) ∧
  (tlook Tt 23 = some ⟨1, [.slice none 0 0], .sl 78 7 72 [.int .i64 0, .int .i64 0, .int .i64 0, .string ⟨#[]⟩, .string ⟨#[]⟩, .int .i64 0, .int .i64 0], 0⟩) ∧
  (tlook Tt 24 = some ⟨1, [.nilFunc], .scalar, 0⟩) ∧
  (tlook Tt 25 = some ⟨1, [.nilFunc], .scalar, 0⟩) ∧
  (tlook Tt 26 = some ⟨1, [.nilFunc], .scalar, 0⟩) ∧
  (tlook Tt 27 = some ⟨1, [.nilFunc], .scalar, 0⟩) ∧
  (tlook Tt 29 = some ⟨1, [.nilFunc], .scalar, 0⟩) ∧
  (tlook Tt 30 = some ⟨1, [.int .i64 0], .int .i64, 0⟩) ∧
  (tlook Tt 32 = some ⟨1, [.nilFunc], .scalar, 0⟩) ∧
  (tlook Tt 33 = some ⟨1, [.nilFunc], .scalar, 0⟩) ∧
  (tlook Tt 35 = some ⟨1, [.nilFunc], .scalar, 0⟩) ∧
  (tlook Tt 38 = some ⟨1, [.nilFunc], .scalar, 0⟩) ∧
  (tlook Tt 43 = some ⟨1, [.nilFunc], .scalar, 0⟩) ∧
  (tlook Tt 44 = some ⟨2, [.int .i64 0, .int .i64 0], .arr 2 3 1, 2⟩) ∧
  (tlook Tt 47 = some ⟨1, [.nilFunc], .scalar, 0⟩) ∧
  (tlook Tt 48 = some ⟨1, [.slice none 0 0], .sl 116 4 48 [.string ⟨#[]⟩, .string ⟨#[]⟩, .int .i64 0, .int .i64 0], 0⟩) ∧
  (tlook Tt 51 = some ⟨1, [.slice none 0 0], .sl 9 1 16 [.string ⟨#[]⟩], 0⟩) ∧
  (tlook Tt 52 = some ⟨5, [.slice none 0 0, .slice none 0 0, .slice none 0 0, .int .i64 0, .int .i64 0], .st [(0, 1), (1, 1), (2, 1), (3, 1), (4, 1)], 0⟩) ∧
  (tlook Tt 53 = some ⟨5, [.slice none 0 0, .slice none 0 0, .slice none 0 0, .int .i64 0, .int .i64 0], .st [(0, 1), (1, 1), (2, 1), (3, 1), (4, 1)], 0⟩) ∧
  (tlook Tt 54 = some ⟨8, [.string ⟨#[]⟩, .int .i64 0, .slice none 0 0, .slice none 0 0, .slice none 0 0, .slice none 0 0, .int .i64 0, .int .i64 0], .st [(0, 3), (3, 5)], 0⟩) ∧
  (tlook Tt 56 = some ⟨1, [.nilFunc], .scalar, 0⟩) ∧
  (tlook Tt 57 = some ⟨1, [.nilFunc], .scalar, 0⟩) ∧
  (tlook Tt 58 = some ⟨1, [.nilFunc], .scalar, 0⟩) ∧
  (tlook Tt 59 = some ⟨1, [.nilFunc], .scalar, 0⟩) ∧
  (tlook Tt 64 = some ⟨1, [.nilFunc], .scalar, 0⟩) ∧
  (tlook Tt 65 = some ⟨2, [.slice none 0 0, .slice none 0 0], .arr 2 60 1, 0⟩) ∧
  (tlook Tt 67 = some ⟨1, [.nilFunc], .scalar, 0⟩) ∧
  (tlook Tt 72 = some ⟨1, [.nilFunc], .scalar, 0⟩) ∧
  (tlook Tt 78 = some ⟨7, [.int .i64 0, .int .i64 0, .int .i64 0, .string ⟨#[]⟩, .string ⟨#[]⟩, .int .i64 0, .int .i64 0], .st [(0, 1), (1, 1), (2, 1), (3, 1), (4, 1), (5, 1), (6, 1)], 1000231⟩) ∧
  (tlook Tt 81 = some ⟨2, [.int .i64 0, .slice none 0 0], .st [(0, 1), (1, 1)], 0⟩) ∧
  (tlook Tt 85 = some ⟨1, [.nilFunc], .scalar, 0⟩) ∧
  (tlook Tt 87 = some ⟨1, [.pointer none], .scalar, 0⟩) ∧
  (tlook Tt 88 = some ⟨1, [.slice none 0 0], .sl 5 1 1 [.int .u8 0], 0⟩) ∧
  (tlook Tt 89 = some ⟨2, [.pointer none, .slice none 0 0], .st [(0, 1), (1, 1)], 0⟩) ∧
  (tlook Tt 90 = some ⟨2, [.pointer none, .slice none 0 0], .st [(0, 1), (1, 1)], 0⟩) ∧
  (tlook Tt 92 = some ⟨1, [.nilIface], .ifc, 0⟩) ∧
  (tlook Tt 94 = some ⟨1, [.nilFunc], .scalar, 0⟩) ∧
  (tlook Tt 95 = some ⟨1, [.nilFunc], .scalar, 0⟩) ∧
  (tlook Tt 97 = some ⟨1, [.nilFunc], .scalar, 0⟩) ∧
  (tlook Tt 98 = some ⟨1, [.nilFunc], .scalar, 0⟩) ∧
  (tlook Tt 99 = some ⟨1, [.nilFunc], .scalar, 0⟩) ∧
  (tlook Tt 101 = some ⟨1, [.nilFunc], .scalar, 0⟩) ∧
  (tlook Tt 103 = some ⟨1, [.nilFunc], .scalar, 0⟩) ∧
  (tlook Tt 104 = some ⟨1, [.nilFunc], .scalar, 0⟩) ∧
  (tlook Tt 105 = some ⟨1, [.nilFunc], .scalar, 0⟩) ∧
  (tlook Tt 106 = some ⟨1, [.nilFunc], .scalar, 0⟩) ∧
  (tlook Tt 107 = some ⟨1, [.nilFunc], .scalar, 0⟩) ∧
  (tlook Tt 108 = some ⟨1, [.nilFunc], .scalar, 0⟩) ∧
  (tlook Tt 111 = some ⟨1, [.nilFunc], .scalar, 0⟩) ∧
  (tlook Tt 112 = some ⟨1, [.nilFunc], .scalar, 0⟩) ∧
  (tlook Tt 113 = some ⟨1, [.nilFunc], .scalar, 0⟩) ∧
  (tlook Tt 114 = some ⟨2, [.slice none 0 0, .slice none 0 0], .arr 2 22 1, 0⟩) ∧
  (tlook Tt 115 = some ⟨4, [.string ⟨#[]⟩, .string ⟨#[]⟩, .int .i64 0, .int .i64 0], .st [(0, 1), (1, 1), (2, 1), (3, 1)], 1000028⟩) ∧
  (tlook Tt 116 = some ⟨4, [.string ⟨#[]⟩, .string ⟨#[]⟩, .int .i64 0, .int .i64 0], .st [(0, 1), (1, 1), (2, 1), (3, 1)], 1000028⟩) ∧
  (tlook Tt 117 = some ⟨1, [.nilFunc], .scalar, 0⟩) ∧
  (tlook Tt 118 = some ⟨1, [.nilFunc], .scalar, 0⟩) ∧
  (tlook Tt 119 = some ⟨1, [.slice none 0 0], .sl 123 2 48 [.slice none 0 0, .slice none 0 0], 0⟩) ∧
  (tlook Tt 121 = some ⟨1, [.nilFunc], .scalar, 0⟩) ∧
  (tlook Tt 123 = some ⟨2, [.slice none 0 0, .slice none 0 0], .st [(0, 1), (1, 1)], 0⟩) ∧
  (tlook Tt 126 = some ⟨1, [.pointer none], .scalar, 0⟩) ∧
  (tlook Tt 141 = some ⟨1, [.slice none 0 0], .sl 23 1 24 [.slice none 0 0], 0⟩) ∧
  (tlook Tt 142 = some ⟨1, [.nilFunc], .scalar, 0⟩) ∧
  (tlook Tt 144 = some ⟨2, [.string ⟨#[]⟩, .nilFunc], .st [(0, 1), (1, 1)], 0⟩) ∧
  (tlook Tt 145 = some ⟨1, [.slice none 0 0], .sl 144 2 24 [.string ⟨#[]⟩, .nilFunc], 0⟩) ∧
  (tlook Tt 147 = some ⟨1, [.slice none 0 0], .sl 20 1 16 [.nilIface], 0⟩) ∧
  (tlook Tt 148 = some ⟨1, [.pointer none], .scalar, 0⟩) ∧
  (tlook Tt 149 = some ⟨1, [.pointer none], .scalar, 0⟩) ∧
  (tlook Tt 150 = some ⟨1, [.pointer none], .scalar, 0⟩) ∧
  (tlook Tt 151 = some ⟨1, [.pointer none], .scalar, 0⟩) ∧
  (tlook Tt 152 = some ⟨1, [.nilFunc], .scalar, 0⟩) ∧
  (tlook Tt 156 = some ⟨1, [.nilFunc], .scalar, 0⟩) ∧
  (tlook Tt 162 = some ⟨2, [.string ⟨#[]⟩, .slice none 0 0], .st [(0, 1), (1, 1)], 0⟩) ∧
  (tlook Tt 173 = some ⟨1, [.map none], .mp (some .i64) (.int .i64 0), 0⟩) ∧
  (tlook Tt 176 = some ⟨1, [.nilFunc], .scalar, 0⟩) ∧
  (tlook Tt 179 = some ⟨4, [.string ⟨#[]⟩, .string ⟨#[]⟩, .int .i64 0, .int .i64 0], .st [(0, 1), (1, 1), (2, 1), (3, 1)], 1000028⟩) ∧
  (tlook Tt 184 = some ⟨1, [.nilFunc], .scalar, 0⟩) ∧
  (tlook Tt 188 = some ⟨1, [.pointer none], .scalar, 0⟩) ∧
  (tlook Tt 191 = some ⟨1, [.nilFunc], .scalar, 0⟩) ∧
  (tlook Tt 199 = some ⟨1, [.nilFunc], .scalar, 0⟩) ∧
  (tlook Tt 210 = some ⟨1, [.nilFunc], .scalar, 0⟩) ∧
  (tlook Tt 215 = some ⟨1, [.nilFunc], .scalar, 0⟩) ∧
  (tlook Tt 216 = some ⟨1, [.nilFunc], .scalar, 0⟩) ∧
  (tlook Tt 223 = some ⟨1, [.slice none 0 0], .sl 51 1 24 [.slice none 0 0], 0⟩) ∧
  (tlook Tt 225 = some ⟨1, [.nilFunc], .scalar, 0⟩) ∧
  (tlook Tt 230 = some ⟨1, [.nilFunc], .scalar, 0⟩) ∧
  (tlook Tt 235 = some ⟨1, [.nilFunc], .scalar, 0⟩) ∧
  (tlook Tt 251 = some ⟨1, [.pointer none], .scalar, 0⟩) ∧
  (tlook Tt 288 = some ⟨1, [.nilFunc], .scalar, 0⟩) :=
 ⟨rfl, rfl, rfl, rfl, rfl, rfl, rfl, rfl, rfl, rfl, rfl, rfl, rfl, rfl, rfl, rfl, rfl, rfl, rfl, rfl, rfl, rfl, rfl, rfl, rfl, rfl, rfl, rfl, rfl, rfl, rfl, rfl, rfl, rfl, rfl, rfl, rfl, rfl, rfl, rfl, rfl, rfl, rfl, rfl, rfl, rfl, rfl, rfl, rfl, rfl, rfl, rfl, rfl, rfl, rfl, rfl, rfl, rfl, rfl, rfl, rfl, rfl, rfl, rfl, rfl, rfl, rfl, rfl, rfl, rfl, rfl, rfl, rfl, rfl, rfl, rfl, rfl, rfl, rfl, rfl, rfl, rfl, rfl, rfl, rfl, rfl, rfl, rfl, rfl, rfl, rfl, rfl, rfl, rfl, rfl, rfl, rfl, rfl, rfl, rfl, rfl, rfl, rfl, rfl, rfl, rfl, rfl⟩
end Go.Proofs.YtgcmppghjfidfaaGreatDoor
