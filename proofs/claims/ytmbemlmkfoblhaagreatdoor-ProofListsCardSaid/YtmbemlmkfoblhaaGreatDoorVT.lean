/-
 The executor's table of this program's types, proved. Written by gen_t.py.
-/
import Derived.Test.YtmbemlmkfoblhaaGreatDoorVLib
import Derived.Test.YtmbemlmkfoblhaaGreatDoorVTabA
import Derived.Test.YtmbemlmkfoblhaaGreatDoorProg
import Derived.KernelRfl
namespace Go.Proofs.YtmbemlmkfoblhaaGreatDoor
open Go Go.Vx
set_option linter.unusedSimpArgs false
def Tt : Tab := [
 (1, ⟨1, [.nilFunc], .scalar, 0⟩),
 (2, ⟨1, [.int .i64 0], .int .i64, 0⟩),
 (3, ⟨1, [.int .i64 0], .int .i64, 0⟩),
 (4, ⟨1, [.bool false], .scalar, 0⟩),
 (5, ⟨1, [.int .u8 0], .int .u8, 0⟩),
 (6, ⟨1, [.int .u8 0], .int .u8, 0⟩),
 (7, ⟨4, [.int .i64 0, .int .i64 0, .bool false, .int .u8 0], .st [(0, 1), (1, 1), (2, 1), (3, 1)], 0⟩),
 (8, ⟨4, [.int .i64 0, .int .i64 0, .bool false, .int .u8 0], .st [(0, 1), (1, 1), (2, 1), (3, 1)], 0⟩),
 (9, ⟨1, [.string ⟨#[]⟩], .str, 0⟩),
 (10, ⟨1, [.string ⟨#[]⟩], .str, 0⟩),
 (11, ⟨1, [.string ⟨#[]⟩], .str, 0⟩),
 (12, ⟨1, [.int .u64 0], .int .u64, 0⟩),
 (14, ⟨2, [.string ⟨#[]⟩, .int .u64 0], .st [(0, 1), (1, 1)], 0⟩),
 (15, ⟨1, [.pointer none], .scalar, 0⟩),
 (16, ⟨1, [.pointer none], .scalar, 0⟩),
 (17, ⟨1, [.pointer none], .scalar, 0⟩),
 (19, ⟨1, [.pointer none], .st [(0, 1)], 0⟩),
 (20, ⟨1, [.nilIface], .ifc, 0⟩),
 (21, ⟨1, [.int .i32 0], .int .i32, 0⟩),
 (22, ⟨7, [.int .i64 0, .int .i64 0, .int .i64 0, .string ⟨#[]⟩, .string ⟨#[]⟩, .int .i64 0, .int .i64 0], .st [(0, 1), (1, 1), (2, 1), (3, 1), (4, 1), (5, 1), (6, 1)], 1000231⟩),
 (23, ⟨7, [.int .i64 0, .int .i64 0, .int .i64 0, .string ⟨#[]⟩, .string ⟨#[]⟩, .int .i64 0, .int .i64 0], .st [(0, 1), (1, 1), (2, 1), (3, 1), (4, 1), (5, 1), (6, 1)], 1000231⟩),
 (24, ⟨1, [.nilFunc], .scalar, 0⟩),
 (25, ⟨1, [.nilFunc], .scalar, 0⟩),
 (26, ⟨1, [.nilFunc], .scalar, 0⟩),
 (27, ⟨1, [.int .i64 0], .int .i64, 0⟩),
 (29, ⟨1, [.nilFunc], .scalar, 0⟩),
 (31, ⟨1, [.nilFunc], .scalar, 0⟩),
 (32, ⟨1, [.nilFunc], .scalar, 0⟩),
 (34, ⟨1, [.nilFunc], .scalar, 0⟩),
 (35, ⟨1, [.slice none 0 0], .sl 23 7 72 [.int .i64 0, .int .i64 0, .int .i64 0, .string ⟨#[]⟩, .string ⟨#[]⟩, .int .i64 0, .int .i64 0], 0⟩),
 (43, ⟨1, [.nilFunc], .scalar, 0⟩),
 (47, ⟨1, [.nilFunc], .scalar, 0⟩),
 (48, ⟨1, [.slice none 0 0], .sl 67 2 32 [.int .i64 0, .slice none 0 0], 0⟩),
 (52, ⟨14, [.int .i64 0, .int .i64 0, .int .i64 0, .string ⟨#[]⟩, .string ⟨#[]⟩, .int .i64 0, .int .i64 0, .int .i64 0, .int .i64 0, .int .i64 0, .string ⟨#[]⟩, .string ⟨#[]⟩, .int .i64 0, .int .i64 0], .arr 2 23 7, 0⟩),
 (54, ⟨1, [.nilFunc], .scalar, 0⟩),
 (55, ⟨1, [.slice none 0 0], .sl 68 2 16 [.int .i64 0, .int .i64 0], 0⟩),
 (57, ⟨1, [.nilFunc], .scalar, 0⟩),
 (58, ⟨1, [.slice none 0 0], .sl 3 1 8 [.int .i64 0], 0⟩),
 (61, ⟨1, [.slice none 0 0], .sl 9 1 16 [.string ⟨#[]⟩], 0⟩),
 (63, ⟨2, [.int .i64 0, .int .i64 0], .st [(0, 1), (1, 1)], 2⟩),
 (64, ⟨1, [.slice none 0 0], .sl 63 2 16 [.int .i64 0, .int .i64 0], 0⟩),
 (65, ⟨1, [.nilFunc], .scalar, 0⟩),
 (67, ⟨2, [.int .i64 0, .slice none 0 0], .st [(0, 1), (1, 1)], 0⟩),
 (68, ⟨2, [.int .i64 0, .int .i64 0], .arr 2 3 1, 2⟩),
 (70, ⟨1, [.nilFunc], .scalar, 0⟩),
 (72, ⟨2, [.string ⟨#[]⟩, .nilFunc], .st [(0, 1), (1, 1)], 0⟩),
 (73, ⟨1, [.slice none 0 0], .sl 72 2 24 [.string ⟨#[]⟩, .nilFunc], 0⟩),
 (74, ⟨1, [.nilFunc], .scalar, 0⟩),
 (75, ⟨1, [.slice none 0 0], .sl 20 1 16 [.nilIface], 0⟩),
 (76, ⟨1, [.pointer none], .scalar, 0⟩),
 (77, ⟨1, [.pointer none], .scalar, 0⟩),
 (79, ⟨1, [.pointer none], .scalar, 0⟩),
 (85, ⟨8, [.string ⟨#[]⟩, .string ⟨#[]⟩, .string ⟨#[]⟩, .string ⟨#[]⟩, .string ⟨#[]⟩, .string ⟨#[]⟩, .string ⟨#[]⟩, .string ⟨#[]⟩], .arr 8 9 1, 0⟩),
 (86, ⟨8, [.int .i64 0, .int .i64 0, .int .i64 0, .int .i64 0, .int .i64 0, .int .i64 0, .int .i64 0, .int .i64 0], .arr 8 3 1, 8⟩),
 (88, ⟨1, [.nilFunc], .scalar, 0⟩),
 (89, ⟨4, [.string ⟨#[]⟩, .string ⟨#[]⟩, .int .i64 0, .int .i64 0], .st [(0, 1), (1, 1), (2, 1), (3, 1)], 1000028⟩),
 (90, ⟨4, [.string ⟨#[]⟩, .string ⟨#[]⟩, .int .i64 0, .int .i64 0], .st [(0, 1), (1, 1), (2, 1), (3, 1)], 1000028⟩),
 (94, ⟨1, [.pointer none], .scalar, 0⟩),
 (95, ⟨1, [.slice none 0 0], .sl 5 1 1 [.int .u8 0], 0⟩),
 (97, ⟨2, [.pointer none, .slice none 0 0], .st [(0, 1), (1, 1)], 0⟩),
 (98, ⟨1, [.nilIface], .ifc, 0⟩),
 (99, ⟨1, [.nilIface], .ifc, 0⟩),
 (101, ⟨1, [.nilFunc], .scalar, 0⟩),
 (102, ⟨1, [.nilFunc], .scalar, 0⟩),
 (103, ⟨1, [.nilFunc], .scalar, 0⟩),
 (104, ⟨1, [.nilFunc], .scalar, 0⟩),
 (105, ⟨1, [.nilFunc], .scalar, 0⟩),
 (107, ⟨1, [.nilFunc], .scalar, 0⟩),
 (108, ⟨1, [.nilFunc], .scalar, 0⟩),
 (110, ⟨1, [.slice none 0 0], .sl 58 1 24 [.slice none 0 0], 0⟩),
 (111, ⟨1, [.nilFunc], .scalar, 0⟩),
 (112, ⟨1, [.nilFunc], .scalar, 0⟩),
 (113, ⟨1, [.nilFunc], .scalar, 0⟩),
 (114, ⟨1, [.nilFunc], .scalar, 0⟩),
 (115, ⟨1, [.nilFunc], .scalar, 0⟩),
 (116, ⟨1, [.nilFunc], .scalar, 0⟩),
 (117, ⟨1, [.nilFunc], .scalar, 0⟩),
 (118, ⟨1, [.nilFunc], .scalar, 0⟩),
 (119, ⟨1, [.nilFunc], .scalar, 0⟩),
 (120, ⟨1, [.nilFunc], .scalar, 0⟩),
 (121, ⟨1, [.slice none 0 0], .sl 35 1 24 [.slice none 0 0], 0⟩),
 (122, ⟨1, [.pointer none], .scalar, 0⟩),
 (123, ⟨1, [.nilFunc], .scalar, 0⟩),
 (126, ⟨2, [.pointer none, .pointer none], .st [(0, 1), (1, 1)], 0⟩),
 (127, ⟨2, [.pointer none, .pointer none], .st [(0, 1), (1, 1)], 0⟩),
 (138, ⟨1, [.pointer none], .scalar, 0⟩),
 (139, ⟨1, [.map none], .mp (some .i64) (.int .i64 0), 0⟩),
 (140, ⟨1, [.nilFunc], .scalar, 0⟩),
 (147, ⟨1, [.slice none 0 0], .sl 61 1 24 [.slice none 0 0], 0⟩),
 (150, ⟨1, [.int .u64 0], .int .u64, 0⟩),
 (152, ⟨1, [.nilFunc], .scalar, 0⟩),
 (160, ⟨1, [.int .i64 0], .int .i64, 0⟩),
 (162, ⟨1, [.nilFunc], .scalar, 0⟩),
 (166, ⟨1, [.nilFunc], .scalar, 0⟩),
 (170, ⟨2, [.int .i64 0, .int .i64 0], .st [(0, 1), (1, 1)], 2⟩),
 (173, ⟨20, [.int .u64 0, .int .u64 0, .int .u64 0, .int .u64 0, .int .u64 0, .int .u64 0, .int .u64 0, .int .u64 0, .int .u64 0, .int .u64 0, .int .u64 0, .int .u64 0, .int .u64 0, .int .u64 0, .int .u64 0, .int .u64 0, .int .u64 0, .int .u64 0, .int .u64 0, .int .u64 0], .arr 20 150 1, 0⟩),
 (178, ⟨1, [.nilFunc], .scalar, 0⟩),
 (182, ⟨3, [.string ⟨#[]⟩, .string ⟨#[]⟩, .nilIface], .st [(0, 1), (1, 1), (2, 1)], 0⟩),
 (186, ⟨1, [.nilFunc], .scalar, 0⟩),
 (192, ⟨1, [.nilFunc], .scalar, 0⟩),
 (206, ⟨1, [.nilFunc], .scalar, 0⟩)]
theorem tok1 : TIok Tryz.prog 1 ⟨1, [.nilFunc], .scalar, 0⟩ := TIok.scalar (z := .nilFunc) (by kernel_rfl) rfl Tryz.underlying1 (by simp) (by simp) (by simp)
theorem tok2 : TIok Tryz.prog 2 ⟨1, [.int .i64 0], .int .i64, 0⟩ := TIok.int (by kernel_rfl) Tryz.underlying2
theorem tok3 : TIok Tryz.prog 3 ⟨1, [.int .i64 0], .int .i64, 0⟩ := TIok.int (by kernel_rfl) Tryz.underlying3
theorem tok4 : TIok Tryz.prog 4 ⟨1, [.bool false], .scalar, 0⟩ := TIok.scalar (z := .bool false) (by kernel_rfl) rfl Tryz.underlying4 (by simp) (by simp) (by simp)
theorem tok5 : TIok Tryz.prog 5 ⟨1, [.int .u8 0], .int .u8, 0⟩ := TIok.int (by kernel_rfl) Tryz.underlying5
theorem tok6 : TIok Tryz.prog 6 ⟨1, [.int .u8 0], .int .u8, 0⟩ := TIok.int (by kernel_rfl) Tryz.underlying6
theorem tok7 : TIok Tryz.prog 7 ⟨4, [.int .i64 0, .int .i64 0, .bool false, .int .u8 0], .st [(0, 1), (1, 1), (2, 1), (3, 1)], 0⟩ := TIok.st (z := .agg #[.int .i64 0, .int .i64 0, .bool false, .int .u8 0]) (by kernel_rfl) rfl Tryz.underlying7 ⟨rfl, (by kernel_rfl), (by decide), rfl, (by kernel_rfl), (by decide), rfl, (by kernel_rfl), (by decide), rfl, (by kernel_rfl), (by decide), trivial⟩ (fun h => absurd rfl h) (fun h => absurd rfl h)
theorem tok8 : TIok Tryz.prog 8 ⟨4, [.int .i64 0, .int .i64 0, .bool false, .int .u8 0], .st [(0, 1), (1, 1), (2, 1), (3, 1)], 0⟩ := TIok.st (z := .agg #[.int .i64 0, .int .i64 0, .bool false, .int .u8 0]) (by kernel_rfl) rfl Tryz.underlying8 ⟨rfl, (by kernel_rfl), (by decide), rfl, (by kernel_rfl), (by decide), rfl, (by kernel_rfl), (by decide), rfl, (by kernel_rfl), (by decide), trivial⟩ (fun h => absurd rfl h) (fun h => absurd rfl h)
theorem tok9 : TIok Tryz.prog 9 ⟨1, [.string ⟨#[]⟩], .str, 0⟩ := TIok.str (by kernel_rfl) Tryz.underlying9
theorem tok10 : TIok Tryz.prog 10 ⟨1, [.string ⟨#[]⟩], .str, 0⟩ := TIok.str (by kernel_rfl) Tryz.underlying10
theorem tok11 : TIok Tryz.prog 11 ⟨1, [.string ⟨#[]⟩], .str, 0⟩ := TIok.str (by kernel_rfl) Tryz.underlying11
theorem tok12 : TIok Tryz.prog 12 ⟨1, [.int .u64 0], .int .u64, 0⟩ := TIok.int (by kernel_rfl) Tryz.underlying12
theorem tok14 : TIok Tryz.prog 14 ⟨2, [.string ⟨#[]⟩, .int .u64 0], .st [(0, 1), (1, 1)], 0⟩ := TIok.st (z := .agg #[.string ⟨#[]⟩, .int .u64 0]) (by kernel_rfl) rfl Tryz.underlying14 ⟨rfl, (by kernel_rfl), (by decide), rfl, (by kernel_rfl), (by decide), trivial⟩ (fun h => absurd rfl h) (fun h => absurd rfl h)
theorem tok15 : TIok Tryz.prog 15 ⟨1, [.pointer none], .scalar, 0⟩ := TIok.scalar (z := .pointer none) (by kernel_rfl) rfl Tryz.underlying15 (by simp) (by simp) (by simp)
theorem tok16 : TIok Tryz.prog 16 ⟨1, [.pointer none], .scalar, 0⟩ := TIok.scalar (z := .pointer none) (by kernel_rfl) rfl Tryz.underlying16 (by simp) (by simp) (by simp)
theorem tok17 : TIok Tryz.prog 17 ⟨1, [.pointer none], .scalar, 0⟩ := TIok.scalar (z := .pointer none) (by kernel_rfl) rfl Tryz.underlying17 (by simp) (by simp) (by simp)
theorem tok19 : TIok Tryz.prog 19 ⟨1, [.pointer none], .st [(0, 1)], 0⟩ := TIok.st (z := .agg #[.pointer none]) (by kernel_rfl) rfl Tryz.underlying19 ⟨rfl, (by kernel_rfl), (by decide), trivial⟩ (fun h => absurd rfl h) (fun h => absurd rfl h)
theorem tok20 : TIok Tryz.prog 20 ⟨1, [.nilIface], .ifc, 0⟩ := TIok.ifc (by kernel_rfl) Tryz.underlying20
theorem tok21 : TIok Tryz.prog 21 ⟨1, [.int .i32 0], .int .i32, 0⟩ := TIok.int (by kernel_rfl) Tryz.underlying21
theorem tok22 : TIok Tryz.prog 22 ⟨7, [.int .i64 0, .int .i64 0, .int .i64 0, .string ⟨#[]⟩, .string ⟨#[]⟩, .int .i64 0, .int .i64 0], .st [(0, 1), (1, 1), (2, 1), (3, 1), (4, 1), (5, 1), (6, 1)], 1000231⟩ := TIok.st (z := .agg #[.int .i64 0, .int .i64 0, .int .i64 0, .string ⟨#[]⟩, .string ⟨#[]⟩, .int .i64 0, .int .i64 0]) (by kernel_rfl) rfl Tryz.underlying22 ⟨rfl, (by kernel_rfl), (by decide), rfl, (by kernel_rfl), (by decide), rfl, (by kernel_rfl), (by decide), rfl, (by kernel_rfl), (by decide), rfl, (by kernel_rfl), (by decide), rfl, (by kernel_rfl), (by decide), rfl, (by kernel_rfl), (by decide), trivial⟩ (fun _ => EqS.up (c := 231) (EqS.of Tryz.underlying22 Tryz.eqGuardType22 Tryz.stoodInHeld22 (by simp [flOk, Tryz.underlying3, Tryz.underlying9]))) (fun _ => ScOk.ofS (c := 231) Tryz.underlying22 (by simp [flOk, Tryz.underlying3, Tryz.underlying9]))
theorem tok23 : TIok Tryz.prog 23 ⟨7, [.int .i64 0, .int .i64 0, .int .i64 0, .string ⟨#[]⟩, .string ⟨#[]⟩, .int .i64 0, .int .i64 0], .st [(0, 1), (1, 1), (2, 1), (3, 1), (4, 1), (5, 1), (6, 1)], 1000231⟩ := TIok.st (z := .agg #[.int .i64 0, .int .i64 0, .int .i64 0, .string ⟨#[]⟩, .string ⟨#[]⟩, .int .i64 0, .int .i64 0]) (by kernel_rfl) rfl Tryz.underlying23 ⟨rfl, (by kernel_rfl), (by decide), rfl, (by kernel_rfl), (by decide), rfl, (by kernel_rfl), (by decide), rfl, (by kernel_rfl), (by decide), rfl, (by kernel_rfl), (by decide), rfl, (by kernel_rfl), (by decide), rfl, (by kernel_rfl), (by decide), trivial⟩ (fun _ => EqS.up (c := 231) (EqS.of Tryz.underlying23 Tryz.eqGuardType23 Tryz.stoodInHeld23 (by simp [flOk, Tryz.underlying3, Tryz.underlying9]))) (fun _ => ScOk.ofS (c := 231) Tryz.underlying23 (by simp [flOk, Tryz.underlying3, Tryz.underlying9]))
theorem tok24 : TIok Tryz.prog 24 ⟨1, [.nilFunc], .scalar, 0⟩ := TIok.scalar (z := .nilFunc) (by kernel_rfl) rfl Tryz.underlying24 (by simp) (by simp) (by simp)
theorem tok25 : TIok Tryz.prog 25 ⟨1, [.nilFunc], .scalar, 0⟩ := TIok.scalar (z := .nilFunc) (by kernel_rfl) rfl Tryz.underlying25 (by simp) (by simp) (by simp)
theorem tok26 : TIok Tryz.prog 26 ⟨1, [.nilFunc], .scalar, 0⟩ := TIok.scalar (z := .nilFunc) (by kernel_rfl) rfl Tryz.underlying26 (by simp) (by simp) (by simp)
theorem tok27 : TIok Tryz.prog 27 ⟨1, [.int .i64 0], .int .i64, 0⟩ := TIok.int (by kernel_rfl) Tryz.underlying27
theorem tok29 : TIok Tryz.prog 29 ⟨1, [.nilFunc], .scalar, 0⟩ := TIok.scalar (z := .nilFunc) (by kernel_rfl) rfl Tryz.underlying29 (by simp) (by simp) (by simp)
theorem tok31 : TIok Tryz.prog 31 ⟨1, [.nilFunc], .scalar, 0⟩ := TIok.scalar (z := .nilFunc) (by kernel_rfl) rfl Tryz.underlying31 (by simp) (by simp) (by simp)
theorem tok32 : TIok Tryz.prog 32 ⟨1, [.nilFunc], .scalar, 0⟩ := TIok.scalar (z := .nilFunc) (by kernel_rfl) rfl Tryz.underlying32 (by simp) (by simp) (by simp)
theorem tok34 : TIok Tryz.prog 34 ⟨1, [.nilFunc], .scalar, 0⟩ := TIok.scalar (z := .nilFunc) (by kernel_rfl) rfl Tryz.underlying34 (by simp) (by simp) (by simp)
theorem tok35 : TIok Tryz.prog 35 ⟨1, [.slice none 0 0], .sl 23 7 72 [.int .i64 0, .int .i64 0, .int .i64 0, .string ⟨#[]⟩, .string ⟨#[]⟩, .int .i64 0, .int .i64 0], 0⟩ := TIok.sl (z := .agg #[.int .i64 0, .int .i64 0, .int .i64 0, .string ⟨#[]⟩, .string ⟨#[]⟩, .int .i64 0, .int .i64 0]) (by kernel_rfl) Tryz.underlying35 (by kernel_rfl) rfl (by decide) (by decide) rfl rfl
theorem tok43 : TIok Tryz.prog 43 ⟨1, [.nilFunc], .scalar, 0⟩ := TIok.scalar (z := .nilFunc) (by kernel_rfl) rfl Tryz.underlying43 (by simp) (by simp) (by simp)
theorem tok47 : TIok Tryz.prog 47 ⟨1, [.nilFunc], .scalar, 0⟩ := TIok.scalar (z := .nilFunc) (by kernel_rfl) rfl Tryz.underlying47 (by simp) (by simp) (by simp)
theorem tok48 : TIok Tryz.prog 48 ⟨1, [.slice none 0 0], .sl 67 2 32 [.int .i64 0, .slice none 0 0], 0⟩ := TIok.sl (z := .agg #[.int .i64 0, .slice none 0 0]) (by kernel_rfl) Tryz.underlying48 (by kernel_rfl) rfl (by decide) (by decide) rfl rfl
theorem tok52 : TIok Tryz.prog 52 ⟨14, [.int .i64 0, .int .i64 0, .int .i64 0, .string ⟨#[]⟩, .string ⟨#[]⟩, .int .i64 0, .int .i64 0, .int .i64 0, .int .i64 0, .int .i64 0, .string ⟨#[]⟩, .string ⟨#[]⟩, .int .i64 0, .int .i64 0], .arr 2 23 7, 0⟩ := TIok.arr (z := .agg #[.int .i64 0, .int .i64 0, .int .i64 0, .string ⟨#[]⟩, .string ⟨#[]⟩, .int .i64 0, .int .i64 0, .int .i64 0, .int .i64 0, .int .i64 0, .string ⟨#[]⟩, .string ⟨#[]⟩, .int .i64 0, .int .i64 0]) (by kernel_rfl) rfl Tryz.underlying52 (by kernel_rfl)
theorem tok54 : TIok Tryz.prog 54 ⟨1, [.nilFunc], .scalar, 0⟩ := TIok.scalar (z := .nilFunc) (by kernel_rfl) rfl Tryz.underlying54 (by simp) (by simp) (by simp)
theorem tok55 : TIok Tryz.prog 55 ⟨1, [.slice none 0 0], .sl 68 2 16 [.int .i64 0, .int .i64 0], 0⟩ := TIok.sl (z := .agg #[.int .i64 0, .int .i64 0]) (by kernel_rfl) Tryz.underlying55 (by kernel_rfl) rfl (by decide) (by decide) rfl rfl
theorem tok57 : TIok Tryz.prog 57 ⟨1, [.nilFunc], .scalar, 0⟩ := TIok.scalar (z := .nilFunc) (by kernel_rfl) rfl Tryz.underlying57 (by simp) (by simp) (by simp)
theorem tok58 : TIok Tryz.prog 58 ⟨1, [.slice none 0 0], .sl 3 1 8 [.int .i64 0], 0⟩ := TIok.sl (z := .int .i64 0) (by kernel_rfl) Tryz.underlying58 (by kernel_rfl) rfl (by decide) (by decide) rfl rfl
theorem tok61 : TIok Tryz.prog 61 ⟨1, [.slice none 0 0], .sl 9 1 16 [.string ⟨#[]⟩], 0⟩ := TIok.sl (z := .string ⟨#[]⟩) (by kernel_rfl) Tryz.underlying61 (by kernel_rfl) rfl (by decide) (by decide) rfl rfl
theorem tok63 : TIok Tryz.prog 63 ⟨2, [.int .i64 0, .int .i64 0], .st [(0, 1), (1, 1)], 2⟩ := TIok.st (z := .agg #[.int .i64 0, .int .i64 0]) (by kernel_rfl) rfl Tryz.underlying63 ⟨rfl, (by kernel_rfl), (by decide), rfl, (by kernel_rfl), (by decide), trivial⟩ (fun _ => EqOk.up (EqOk.of Tryz.underlying63 Tryz.eqGuardType63 Tryz.stoodInHeld63 (by simp [Tryz.underlying3]) rfl)) (fun _ => ScOk.of Tryz.underlying63 (by simp [Tryz.underlying3]))
theorem tok64 : TIok Tryz.prog 64 ⟨1, [.slice none 0 0], .sl 63 2 16 [.int .i64 0, .int .i64 0], 0⟩ := TIok.sl (z := .agg #[.int .i64 0, .int .i64 0]) (by kernel_rfl) Tryz.underlying64 (by kernel_rfl) rfl (by decide) (by decide) rfl rfl
theorem tok65 : TIok Tryz.prog 65 ⟨1, [.nilFunc], .scalar, 0⟩ := TIok.scalar (z := .nilFunc) (by kernel_rfl) rfl Tryz.underlying65 (by simp) (by simp) (by simp)
theorem tok67 : TIok Tryz.prog 67 ⟨2, [.int .i64 0, .slice none 0 0], .st [(0, 1), (1, 1)], 0⟩ := TIok.st (z := .agg #[.int .i64 0, .slice none 0 0]) (by kernel_rfl) rfl Tryz.underlying67 ⟨rfl, (by kernel_rfl), (by decide), rfl, (by kernel_rfl), (by decide), trivial⟩ (fun h => absurd rfl h) (fun h => absurd rfl h)
theorem tok68 : TIok Tryz.prog 68 ⟨2, [.int .i64 0, .int .i64 0], .arr 2 3 1, 2⟩ := TIok.arrE (z := .agg #[.int .i64 0, .int .i64 0]) (by kernel_rfl) rfl Tryz.underlying68 (by kernel_rfl) rfl Tryz.eqGuardType68 (PartEq.int Tryz.underlying3)
theorem tok70 : TIok Tryz.prog 70 ⟨1, [.nilFunc], .scalar, 0⟩ := TIok.scalar (z := .nilFunc) (by kernel_rfl) rfl Tryz.underlying70 (by simp) (by simp) (by simp)
theorem tok72 : TIok Tryz.prog 72 ⟨2, [.string ⟨#[]⟩, .nilFunc], .st [(0, 1), (1, 1)], 0⟩ := TIok.st (z := .agg #[.string ⟨#[]⟩, .nilFunc]) (by kernel_rfl) rfl Tryz.underlying72 ⟨rfl, (by kernel_rfl), (by decide), rfl, (by kernel_rfl), (by decide), trivial⟩ (fun h => absurd rfl h) (fun h => absurd rfl h)
theorem tok73 : TIok Tryz.prog 73 ⟨1, [.slice none 0 0], .sl 72 2 24 [.string ⟨#[]⟩, .nilFunc], 0⟩ := TIok.sl (z := .agg #[.string ⟨#[]⟩, .nilFunc]) (by kernel_rfl) Tryz.underlying73 (by kernel_rfl) rfl (by decide) (by decide) rfl rfl
theorem tok74 : TIok Tryz.prog 74 ⟨1, [.nilFunc], .scalar, 0⟩ := TIok.scalar (z := .nilFunc) (by kernel_rfl) rfl Tryz.underlying74 (by simp) (by simp) (by simp)
theorem tok75 : TIok Tryz.prog 75 ⟨1, [.slice none 0 0], .sl 20 1 16 [.nilIface], 0⟩ := TIok.sl (z := .nilIface) (by kernel_rfl) Tryz.underlying75 (by kernel_rfl) rfl (by decide) (by decide) rfl rfl
theorem tok76 : TIok Tryz.prog 76 ⟨1, [.pointer none], .scalar, 0⟩ := TIok.scalar (z := .pointer none) (by kernel_rfl) rfl Tryz.underlying76 (by simp) (by simp) (by simp)
theorem tok77 : TIok Tryz.prog 77 ⟨1, [.pointer none], .scalar, 0⟩ := TIok.scalar (z := .pointer none) (by kernel_rfl) rfl Tryz.underlying77 (by simp) (by simp) (by simp)
theorem tok79 : TIok Tryz.prog 79 ⟨1, [.pointer none], .scalar, 0⟩ := TIok.scalar (z := .pointer none) (by kernel_rfl) rfl Tryz.underlying79 (by simp) (by simp) (by simp)
theorem tok85 : TIok Tryz.prog 85 ⟨8, [.string ⟨#[]⟩, .string ⟨#[]⟩, .string ⟨#[]⟩, .string ⟨#[]⟩, .string ⟨#[]⟩, .string ⟨#[]⟩, .string ⟨#[]⟩, .string ⟨#[]⟩], .arr 8 9 1, 0⟩ := TIok.arr (z := .agg #[.string ⟨#[]⟩, .string ⟨#[]⟩, .string ⟨#[]⟩, .string ⟨#[]⟩, .string ⟨#[]⟩, .string ⟨#[]⟩, .string ⟨#[]⟩, .string ⟨#[]⟩]) (by kernel_rfl) rfl Tryz.underlying85 (by kernel_rfl)
theorem tok86 : TIok Tryz.prog 86 ⟨8, [.int .i64 0, .int .i64 0, .int .i64 0, .int .i64 0, .int .i64 0, .int .i64 0, .int .i64 0, .int .i64 0], .arr 8 3 1, 8⟩ := TIok.arrE (z := .agg #[.int .i64 0, .int .i64 0, .int .i64 0, .int .i64 0, .int .i64 0, .int .i64 0, .int .i64 0, .int .i64 0]) (by kernel_rfl) rfl Tryz.underlying86 (by kernel_rfl) rfl Tryz.eqGuardType86 (PartEq.int Tryz.underlying3)
theorem tok88 : TIok Tryz.prog 88 ⟨1, [.nilFunc], .scalar, 0⟩ := TIok.scalar (z := .nilFunc) (by kernel_rfl) rfl Tryz.underlying88 (by simp) (by simp) (by simp)
theorem tok89 : TIok Tryz.prog 89 ⟨4, [.string ⟨#[]⟩, .string ⟨#[]⟩, .int .i64 0, .int .i64 0], .st [(0, 1), (1, 1), (2, 1), (3, 1)], 1000028⟩ := TIok.st (z := .agg #[.string ⟨#[]⟩, .string ⟨#[]⟩, .int .i64 0, .int .i64 0]) (by kernel_rfl) rfl Tryz.underlying89 ⟨rfl, (by kernel_rfl), (by decide), rfl, (by kernel_rfl), (by decide), rfl, (by kernel_rfl), (by decide), rfl, (by kernel_rfl), (by decide), trivial⟩ (fun _ => EqS.up (c := 28) (EqS.of Tryz.underlying89 Tryz.eqGuardType89 Tryz.stoodInHeld89 (by simp [flOk, Tryz.underlying3, Tryz.underlying9]))) (fun _ => ScOk.ofS (c := 28) Tryz.underlying89 (by simp [flOk, Tryz.underlying3, Tryz.underlying9]))
theorem tok90 : TIok Tryz.prog 90 ⟨4, [.string ⟨#[]⟩, .string ⟨#[]⟩, .int .i64 0, .int .i64 0], .st [(0, 1), (1, 1), (2, 1), (3, 1)], 1000028⟩ := TIok.st (z := .agg #[.string ⟨#[]⟩, .string ⟨#[]⟩, .int .i64 0, .int .i64 0]) (by kernel_rfl) rfl Tryz.underlying90 ⟨rfl, (by kernel_rfl), (by decide), rfl, (by kernel_rfl), (by decide), rfl, (by kernel_rfl), (by decide), rfl, (by kernel_rfl), (by decide), trivial⟩ (fun _ => EqS.up (c := 28) (EqS.of Tryz.underlying90 Tryz.eqGuardType90 Tryz.stoodInHeld90 (by simp [flOk, Tryz.underlying3, Tryz.underlying9]))) (fun _ => ScOk.ofS (c := 28) Tryz.underlying90 (by simp [flOk, Tryz.underlying3, Tryz.underlying9]))
theorem tok94 : TIok Tryz.prog 94 ⟨1, [.pointer none], .scalar, 0⟩ := TIok.scalar (z := .pointer none) (by kernel_rfl) rfl Tryz.underlying94 (by simp) (by simp) (by simp)
theorem tok95 : TIok Tryz.prog 95 ⟨1, [.slice none 0 0], .sl 5 1 1 [.int .u8 0], 0⟩ := TIok.sl (z := .int .u8 0) (by kernel_rfl) Tryz.underlying95 (by kernel_rfl) rfl (by decide) (by decide) rfl rfl
theorem tok97 : TIok Tryz.prog 97 ⟨2, [.pointer none, .slice none 0 0], .st [(0, 1), (1, 1)], 0⟩ := TIok.st (z := .agg #[.pointer none, .slice none 0 0]) (by kernel_rfl) rfl Tryz.underlying97 ⟨rfl, (by kernel_rfl), (by decide), rfl, (by kernel_rfl), (by decide), trivial⟩ (fun h => absurd rfl h) (fun h => absurd rfl h)
theorem tok98 : TIok Tryz.prog 98 ⟨1, [.nilIface], .ifc, 0⟩ := TIok.ifc (by kernel_rfl) Tryz.underlying98
theorem tok99 : TIok Tryz.prog 99 ⟨1, [.nilIface], .ifc, 0⟩ := TIok.ifc (by kernel_rfl) Tryz.underlying99
theorem tok101 : TIok Tryz.prog 101 ⟨1, [.nilFunc], .scalar, 0⟩ := TIok.scalar (z := .nilFunc) (by kernel_rfl) rfl Tryz.underlying101 (by simp) (by simp) (by simp)
theorem tok102 : TIok Tryz.prog 102 ⟨1, [.nilFunc], .scalar, 0⟩ := TIok.scalar (z := .nilFunc) (by kernel_rfl) rfl Tryz.underlying102 (by simp) (by simp) (by simp)
theorem tok103 : TIok Tryz.prog 103 ⟨1, [.nilFunc], .scalar, 0⟩ := TIok.scalar (z := .nilFunc) (by kernel_rfl) rfl Tryz.underlying103 (by simp) (by simp) (by simp)
theorem tok104 : TIok Tryz.prog 104 ⟨1, [.nilFunc], .scalar, 0⟩ := TIok.scalar (z := .nilFunc) (by kernel_rfl) rfl Tryz.underlying104 (by simp) (by simp) (by simp)
theorem tok105 : TIok Tryz.prog 105 ⟨1, [.nilFunc], .scalar, 0⟩ := TIok.scalar (z := .nilFunc) (by kernel_rfl) rfl Tryz.underlying105 (by simp) (by simp) (by simp)
theorem tok107 : TIok Tryz.prog 107 ⟨1, [.nilFunc], .scalar, 0⟩ := TIok.scalar (z := .nilFunc) (by kernel_rfl) rfl Tryz.underlying107 (by simp) (by simp) (by simp)
theorem tok108 : TIok Tryz.prog 108 ⟨1, [.nilFunc], .scalar, 0⟩ := TIok.scalar (z := .nilFunc) (by kernel_rfl) rfl Tryz.underlying108 (by simp) (by simp) (by simp)
theorem tok110 : TIok Tryz.prog 110 ⟨1, [.slice none 0 0], .sl 58 1 24 [.slice none 0 0], 0⟩ := TIok.sl (z := .slice none 0 0) (by kernel_rfl) Tryz.underlying110 (by kernel_rfl) rfl (by decide) (by decide) rfl rfl
theorem tok111 : TIok Tryz.prog 111 ⟨1, [.nilFunc], .scalar, 0⟩ := TIok.scalar (z := .nilFunc) (by kernel_rfl) rfl Tryz.underlying111 (by simp) (by simp) (by simp)
theorem tok112 : TIok Tryz.prog 112 ⟨1, [.nilFunc], .scalar, 0⟩ := TIok.scalar (z := .nilFunc) (by kernel_rfl) rfl Tryz.underlying112 (by simp) (by simp) (by simp)
theorem tok113 : TIok Tryz.prog 113 ⟨1, [.nilFunc], .scalar, 0⟩ := TIok.scalar (z := .nilFunc) (by kernel_rfl) rfl Tryz.underlying113 (by simp) (by simp) (by simp)
theorem tok114 : TIok Tryz.prog 114 ⟨1, [.nilFunc], .scalar, 0⟩ := TIok.scalar (z := .nilFunc) (by kernel_rfl) rfl Tryz.underlying114 (by simp) (by simp) (by simp)
theorem tok115 : TIok Tryz.prog 115 ⟨1, [.nilFunc], .scalar, 0⟩ := TIok.scalar (z := .nilFunc) (by kernel_rfl) rfl Tryz.underlying115 (by simp) (by simp) (by simp)
theorem tok116 : TIok Tryz.prog 116 ⟨1, [.nilFunc], .scalar, 0⟩ := TIok.scalar (z := .nilFunc) (by kernel_rfl) rfl Tryz.underlying116 (by simp) (by simp) (by simp)
theorem tok117 : TIok Tryz.prog 117 ⟨1, [.nilFunc], .scalar, 0⟩ := TIok.scalar (z := .nilFunc) (by kernel_rfl) rfl Tryz.underlying117 (by simp) (by simp) (by simp)
theorem tok118 : TIok Tryz.prog 118 ⟨1, [.nilFunc], .scalar, 0⟩ := TIok.scalar (z := .nilFunc) (by kernel_rfl) rfl Tryz.underlying118 (by simp) (by simp) (by simp)
theorem tok119 : TIok Tryz.prog 119 ⟨1, [.nilFunc], .scalar, 0⟩ := TIok.scalar (z := .nilFunc) (by kernel_rfl) rfl Tryz.underlying119 (by simp) (by simp) (by simp)
theorem tok120 : TIok Tryz.prog 120 ⟨1, [.nilFunc], .scalar, 0⟩ := TIok.scalar (z := .nilFunc) (by kernel_rfl) rfl Tryz.underlying120 (by simp) (by simp) (by simp)
theorem tok121 : TIok Tryz.prog 121 ⟨1, [.slice none 0 0], .sl 35 1 24 [.slice none 0 0], 0⟩ := TIok.sl (z := .slice none 0 0) (by kernel_rfl) Tryz.underlying121 (by kernel_rfl) rfl (by decide) (by decide) rfl rfl
theorem tok122 : TIok Tryz.prog 122 ⟨1, [.pointer none], .scalar, 0⟩ := TIok.scalar (z := .pointer none) (by kernel_rfl) rfl Tryz.underlying122 (by simp) (by simp) (by simp)
theorem tok123 : TIok Tryz.prog 123 ⟨1, [.nilFunc], .scalar, 0⟩ := TIok.scalar (z := .nilFunc) (by kernel_rfl) rfl Tryz.underlying123 (by simp) (by simp) (by simp)
theorem tok126 : TIok Tryz.prog 126 ⟨2, [.pointer none, .pointer none], .st [(0, 1), (1, 1)], 0⟩ := TIok.st (z := .agg #[.pointer none, .pointer none]) (by kernel_rfl) rfl Tryz.underlying126 ⟨rfl, (by kernel_rfl), (by decide), rfl, (by kernel_rfl), (by decide), trivial⟩ (fun h => absurd rfl h) (fun h => absurd rfl h)
theorem tok127 : TIok Tryz.prog 127 ⟨2, [.pointer none, .pointer none], .st [(0, 1), (1, 1)], 0⟩ := TIok.st (z := .agg #[.pointer none, .pointer none]) (by kernel_rfl) rfl Tryz.underlying127 ⟨rfl, (by kernel_rfl), (by decide), rfl, (by kernel_rfl), (by decide), trivial⟩ (fun h => absurd rfl h) (fun h => absurd rfl h)
theorem tok138 : TIok Tryz.prog 138 ⟨1, [.pointer none], .scalar, 0⟩ := TIok.scalar (z := .pointer none) (by kernel_rfl) rfl Tryz.underlying138 (by simp) (by simp) (by simp)
theorem tok139 : TIok Tryz.prog 139 ⟨1, [.map none], .mp (some .i64) (.int .i64 0), 0⟩ := TIok.mp (by kernel_rfl) Tryz.underlying139 Tryz.underlying3 (by kernel_rfl)
theorem tok140 : TIok Tryz.prog 140 ⟨1, [.nilFunc], .scalar, 0⟩ := TIok.scalar (z := .nilFunc) (by kernel_rfl) rfl Tryz.underlying140 (by simp) (by simp) (by simp)
theorem tok147 : TIok Tryz.prog 147 ⟨1, [.slice none 0 0], .sl 61 1 24 [.slice none 0 0], 0⟩ := TIok.sl (z := .slice none 0 0) (by kernel_rfl) Tryz.underlying147 (by kernel_rfl) rfl (by decide) (by decide) rfl rfl
theorem tok150 : TIok Tryz.prog 150 ⟨1, [.int .u64 0], .int .u64, 0⟩ := TIok.int (by kernel_rfl) Tryz.underlying150
theorem tok152 : TIok Tryz.prog 152 ⟨1, [.nilFunc], .scalar, 0⟩ := TIok.scalar (z := .nilFunc) (by kernel_rfl) rfl Tryz.underlying152 (by simp) (by simp) (by simp)
theorem tok160 : TIok Tryz.prog 160 ⟨1, [.int .i64 0], .int .i64, 0⟩ := TIok.int (by kernel_rfl) Tryz.underlying160
theorem tok162 : TIok Tryz.prog 162 ⟨1, [.nilFunc], .scalar, 0⟩ := TIok.scalar (z := .nilFunc) (by kernel_rfl) rfl Tryz.underlying162 (by simp) (by simp) (by simp)
theorem tok166 : TIok Tryz.prog 166 ⟨1, [.nilFunc], .scalar, 0⟩ := TIok.scalar (z := .nilFunc) (by kernel_rfl) rfl Tryz.underlying166 (by simp) (by simp) (by simp)
theorem tok170 : TIok Tryz.prog 170 ⟨2, [.int .i64 0, .int .i64 0], .st [(0, 1), (1, 1)], 2⟩ := TIok.st (z := .agg #[.int .i64 0, .int .i64 0]) (by kernel_rfl) rfl Tryz.underlying170 ⟨rfl, (by kernel_rfl), (by decide), rfl, (by kernel_rfl), (by decide), trivial⟩ (fun _ => EqOk.up (EqOk.of Tryz.underlying170 Tryz.eqGuardType170 Tryz.stoodInHeld170 (by simp [Tryz.underlying3]) rfl)) (fun _ => ScOk.of Tryz.underlying170 (by simp [Tryz.underlying3]))
theorem tok173 : TIok Tryz.prog 173 ⟨20, [.int .u64 0, .int .u64 0, .int .u64 0, .int .u64 0, .int .u64 0, .int .u64 0, .int .u64 0, .int .u64 0, .int .u64 0, .int .u64 0, .int .u64 0, .int .u64 0, .int .u64 0, .int .u64 0, .int .u64 0, .int .u64 0, .int .u64 0, .int .u64 0, .int .u64 0, .int .u64 0], .arr 20 150 1, 0⟩ := TIok.arr (z := .agg #[.int .u64 0, .int .u64 0, .int .u64 0, .int .u64 0, .int .u64 0, .int .u64 0, .int .u64 0, .int .u64 0, .int .u64 0, .int .u64 0, .int .u64 0, .int .u64 0, .int .u64 0, .int .u64 0, .int .u64 0, .int .u64 0, .int .u64 0, .int .u64 0, .int .u64 0, .int .u64 0]) (by kernel_rfl) rfl Tryz.underlying173 (by kernel_rfl)
theorem tok178 : TIok Tryz.prog 178 ⟨1, [.nilFunc], .scalar, 0⟩ := TIok.scalar (z := .nilFunc) (by kernel_rfl) rfl Tryz.underlying178 (by simp) (by simp) (by simp)
theorem tok182 : TIok Tryz.prog 182 ⟨3, [.string ⟨#[]⟩, .string ⟨#[]⟩, .nilIface], .st [(0, 1), (1, 1), (2, 1)], 0⟩ := TIok.st (z := .agg #[.string ⟨#[]⟩, .string ⟨#[]⟩, .nilIface]) (by kernel_rfl) rfl Tryz.underlying182 ⟨rfl, (by kernel_rfl), (by decide), rfl, (by kernel_rfl), (by decide), rfl, (by kernel_rfl), (by decide), trivial⟩ (fun h => absurd rfl h) (fun h => absurd rfl h)
theorem tok186 : TIok Tryz.prog 186 ⟨1, [.nilFunc], .scalar, 0⟩ := TIok.scalar (z := .nilFunc) (by kernel_rfl) rfl Tryz.underlying186 (by simp) (by simp) (by simp)
theorem tok192 : TIok Tryz.prog 192 ⟨1, [.nilFunc], .scalar, 0⟩ := TIok.scalar (z := .nilFunc) (by kernel_rfl) rfl Tryz.underlying192 (by simp) (by simp) (by simp)
theorem tok206 : TIok Tryz.prog 206 ⟨1, [.nilFunc], .scalar, 0⟩ := TIok.scalar (z := .nilFunc) (by kernel_rfl) rfl Tryz.underlying206 (by simp) (by simp) (by simp)
set_option maxRecDepth 20000 in
theorem Tok : TabOk Tryz.prog Tt :=
 TabOk.cons tok1 <| TabOk.cons tok2 <| TabOk.cons tok3 <| TabOk.cons tok4 <| TabOk.cons tok5 <| TabOk.cons tok6 <| TabOk.cons tok7 <| TabOk.cons tok8 <| TabOk.cons tok9 <| TabOk.cons tok10 <| TabOk.cons tok11 <| TabOk.cons tok12 <| TabOk.cons tok14 <| TabOk.cons tok15 <| TabOk.cons tok16 <| TabOk.cons tok17 <| TabOk.cons tok19 <| TabOk.cons tok20 <| TabOk.cons tok21 <| TabOk.cons tok22 <| TabOk.cons tok23 <| TabOk.cons tok24 <| TabOk.cons tok25 <| TabOk.cons tok26 <| TabOk.cons tok27 <| TabOk.cons tok29 <| TabOk.cons tok31 <| TabOk.cons tok32 <| TabOk.cons tok34 <| TabOk.cons tok35 <| TabOk.cons tok43 <| TabOk.cons tok47 <| TabOk.cons tok48 <| TabOk.cons tok52 <| TabOk.cons tok54 <| TabOk.cons tok55 <| TabOk.cons tok57 <| TabOk.cons tok58 <| TabOk.cons tok61 <| TabOk.cons tok63 <| TabOk.cons tok64 <| TabOk.cons tok65 <| TabOk.cons tok67 <| TabOk.cons tok68 <| TabOk.cons tok70 <| TabOk.cons tok72 <| TabOk.cons tok73 <| TabOk.cons tok74 <| TabOk.cons tok75 <| TabOk.cons tok76 <| TabOk.cons tok77 <| TabOk.cons tok79 <| TabOk.cons tok85 <| TabOk.cons tok86 <| TabOk.cons tok88 <| TabOk.cons tok89 <| TabOk.cons tok90 <| TabOk.cons tok94 <| TabOk.cons tok95 <| TabOk.cons tok97 <| TabOk.cons tok98 <| TabOk.cons tok99 <| TabOk.cons tok101 <| TabOk.cons tok102 <| TabOk.cons tok103 <| TabOk.cons tok104 <| TabOk.cons tok105 <| TabOk.cons tok107 <| TabOk.cons tok108 <| TabOk.cons tok110 <| TabOk.cons tok111 <| TabOk.cons tok112 <| TabOk.cons tok113 <| TabOk.cons tok114 <| TabOk.cons tok115 <| TabOk.cons tok116 <| TabOk.cons tok117 <| TabOk.cons tok118 <| TabOk.cons tok119 <| TabOk.cons tok120 <| TabOk.cons tok121 <| TabOk.cons tok122 <| TabOk.cons tok123 <| TabOk.cons tok126 <| TabOk.cons tok127 <| TabOk.cons tok138 <| TabOk.cons tok139 <| TabOk.cons tok140 <| TabOk.cons tok147 <| TabOk.cons tok150 <| TabOk.cons tok152 <| TabOk.cons tok160 <| TabOk.cons tok162 <| TabOk.cons tok166 <| TabOk.cons tok170 <| TabOk.cons tok173 <| TabOk.cons tok178 <| TabOk.cons tok182 <| TabOk.cons tok186 <| TabOk.cons tok192 <| TabOk.cons tok206 <| TabOk.nil
set_option maxRecDepth 20000 in
theorem tys :
  (tlook Tt 1 = some ⟨1, [.nilFunc], .scalar, 0⟩) ∧
  (tlook Tt 2 = some ⟨1, [.int .i64 0], .int .i64, 0⟩) ∧
  (tlook Tt 3 = some ⟨1, [.int .i64 0], .int .i64, 0⟩) ∧
  (tlook Tt 4 = some ⟨1, [.bool false], .scalar, 0⟩) ∧
  (tlook Tt 5 = some ⟨1, [.int .u8 0], .int .u8, 0⟩) ∧
  (tlook Tt 6 = some ⟨1, [.int .u8 0], .int .u8, 0⟩) ∧
  (tlook Tt 7 = some ⟨4, [.int .i64 0, .int .i64 0, .bool false, .int .u8 0], .st [(0, 1), (1, 1), (2, 1), (3, 1)], 0⟩) ∧
  (tlook Tt 8 = some ⟨4, [.int .i64 0, .int .i64 0, .bool false, .int .u8 0], .st [(0, 1), (1, 1), (2, 1), (3, 1)], 0⟩) ∧
  (tlook Tt 9 = some ⟨1, [.string ⟨#[]⟩], .str, 0⟩) ∧
  (tlook Tt 10 = some ⟨1, [.string ⟨#[]⟩], .str, 0⟩) ∧
  (tlook Tt 11 = some ⟨1, [.string ⟨#[]⟩], .str, 0⟩) ∧
  (tlook Tt 12 = some ⟨1, [.int .u64 0], .int .u64, 0⟩) ∧
  (tlook Tt 14 = some ⟨2, [.string ⟨#[]⟩, .int .u64 0], .st [(0, 1), (1, 1)], 0⟩) ∧
  (tlook Tt 15 = some ⟨1, [.pointer none], .scalar, 0⟩) ∧
  (tlook Tt 16 = some ⟨1, [.pointer none], .scalar, 0⟩) ∧
  (tlook Tt 17 = some ⟨1, [.pointer none], .scalar, 0⟩) ∧
  (tlook Tt 19 = some ⟨1, [.pointer none], .st [(0, 1)], 0⟩) ∧
  (tlook Tt 20 = some ⟨1, [.nilIface], .ifc, 0⟩) ∧
  (tlook Tt 21 = some ⟨1, [.int .i32 0], .int .i32, 0⟩) ∧
  (tlook Tt 22 = some ⟨7, [.int .i64 0, .int .i64 0, .int .i64 0, .string ⟨#[]⟩, .string ⟨#[]⟩, .int .i64 0, .int .i64 0], .st [(0, 1), (1, 1), (2, 1), (3, 1), (4, 1), (5, 1), (6, 1)], 1000231⟩) ∧
  (tlook Tt 23 = some ⟨7, [.int .i64 0, .int .i64 0, .int .i64 0, .string ⟨#[]⟩, .string ⟨#[]⟩, .int .i64 0, .int .i64 0], .st [(0, 1), (1, 1), (2, 1), (3, 1), (4, 1), (5, 1), (6, 1)], 1000231⟩) ∧
  (tlook Tt 24 = some ⟨1, [.nilFunc], .scalar, 0⟩) ∧
  (tlook Tt 25 = some ⟨1, [.nilFunc], .scalar, 0⟩) ∧
  (tlook Tt 26 = some ⟨1, [.nilFunc], .scalar, 0⟩) ∧
  (tlook Tt 27 = some ⟨1, [.int .i64 0], .int .i64, 0⟩) ∧
  (tlook Tt 29 = some ⟨1, [.nilFunc], .scalar, 0⟩) ∧
  (tlook Tt 31 = some ⟨1, [.nilFunc], .scalar, 0⟩) ∧
  (tlook Tt 32 = some ⟨1, [.nilFunc], .scalar, 0⟩) ∧
  (tlook Tt 34 = some ⟨1, [.nilFunc], .scalar, 0⟩) ∧
  (tlook Tt 35 = some ⟨1, [.slice none 0 0], .sl 23 7 72 [.int .i64 0, .int .i64 0, .int .i64 0, .string ⟨#[]⟩, .string ⟨#[]⟩, .int .i64 0, .int .i64 0], 0⟩) ∧
  (tlook Tt 43 = some ⟨1, [.nilFunc], .scalar, 0⟩) ∧
  (tlook Tt 47 = some ⟨1, [.nilFunc], .scalar, 0⟩) ∧
  (tlook Tt 48 = some ⟨1, [.slice none 0 0], .sl 67 2 32 [.int .i64 0, .slice none 0 0], 0⟩) ∧
  (tlook Tt 52 = some ⟨14, [.int .i64 0, .int .i64 0, .int .i64 0, .string ⟨#[]⟩, .string ⟨#[]⟩, .int .i64 0, .int .i64 0, .int .i64 0, .int .i64 0, .int .i64 0, .string ⟨#[]⟩, .string ⟨#[]⟩, .int .i64 0, .int .i64 0], .arr 2 23 7, 0⟩) ∧
  (tlook Tt 54 = some ⟨1, [.nilFunc], .scalar, 0⟩) ∧
  (tlook Tt 55 = some ⟨1, [.slice none 0 0], .sl 68 2 16 [.int .i64 0, .int .i64 0], 0⟩) ∧
  (tlook Tt 57 = some ⟨1, [.nilFunc], .scalar, 0⟩) ∧
  (tlook Tt 58 = some ⟨1, [.slice none 0 0], .sl 3 1 8 [.int .i64 0], 0⟩) ∧
  (tlook Tt 61 = some ⟨1, [.slice none 0 0], .sl 9 1 16 [.string ⟨#[]⟩], 0⟩) ∧
  (tlook Tt 63 = some ⟨2, [.int .i64 0, .int .i64 0], .st [(0, 1), (1, 1)], 2⟩) ∧
  (tlook Tt 64 = some ⟨1, [.slice none 0 0], .sl 63 2 16 [.int .i64 0, .int .i64 0], 0⟩) ∧
  (tlook Tt 65 = some ⟨1, [.nilFunc], .scalar, 0⟩) ∧
  (tlook Tt 67 = some ⟨2, [.int .i64 0, .slice none 0 0], .st [(0, 1), (1, 1)], 0⟩) ∧
  (tlook Tt 68 = some ⟨2, [.int .i64 0, .int .i64 0], .arr 2 3 1, 2⟩) ∧
  (tlook Tt 70 = some ⟨1, [.nilFunc], .scalar, 0⟩) ∧
  (tlook Tt 72 = some ⟨2, [.string ⟨#[]⟩, .nilFunc], .st [(0, 1), (1, 1)], 0⟩) ∧
  (tlook Tt 73 = some ⟨1, [.slice none 0 0], .sl 72 2 24 [.string ⟨#[]⟩, .nilFunc], 0⟩) ∧
  (tlook Tt 74 = some ⟨1, [.nilFunc], .scalar, 0⟩) ∧
  (tlook Tt 75 = some ⟨1, [.slice none 0 0], .sl 20 1 16 [.nilIface], 0⟩) ∧
  (tlook Tt 76 = some ⟨1, [.pointer none], .scalar, 0⟩) ∧
  (tlook Tt 77 = some ⟨1, [.pointer none], .scalar, 0⟩) ∧
  (tlook Tt 79 = some ⟨1, [.pointer none], .scalar, 0⟩) ∧
  (tlook Tt 85 = some ⟨8, [.string ⟨#[]⟩, .string ⟨#[]⟩, .string ⟨#[]⟩, .string ⟨#[]⟩, .string ⟨#[]⟩, .string ⟨#[]⟩, .string ⟨#[]⟩, .string ⟨#[]⟩], .arr 8 9 1, 0⟩) ∧
  (tlook Tt 86 = some ⟨8, [.int .i64 0, .int .i64 0, .int .i64 0, .int .i64 0, .int .i64 0, .int .i64 0, .int .i64 0, .int .i64 0], .arr 8 3 1, 8⟩) ∧
  (tlook Tt 88 = some ⟨1, [.nilFunc], .scalar, 0⟩) ∧
  (tlook Tt 89 = some ⟨4, [.string ⟨#[]⟩, .string ⟨#[]⟩, .int .i64 0, .int .i64 0], .st [(0, 1), (1, 1), (2, 1), (3, 1)], 1000028⟩) ∧
  (tlook Tt 90 = some ⟨4, [.string ⟨#[]⟩, .string ⟨#[]⟩, .int .i64 0, .int .i64 0], .st [(0, 1), (1, 1), (2, 1), (3, 1)], 1000028⟩) ∧
  (tlook Tt 94 = some ⟨1, [.pointer none], .scalar, 0⟩) ∧
  (tlook Tt 95 = some ⟨1, [.slice none 0 0], .sl 5 1 1 [.int .u8 0], 0⟩) ∧
  (tlook Tt 97 = some ⟨2, [.pointer none, .slice none 0 0], .st [(0, 1), (1, 1)], 0⟩) ∧
  (tlook Tt 98 = some ⟨1, [.nilIface], .ifc, 0⟩) ∧
  (tlook Tt 99 = some ⟨1, [.nilIface], .ifc, 0⟩) ∧
  (tlook Tt 101 = some ⟨1, [.nilFunc], .scalar, 0⟩) ∧
  (tlook Tt 102 = some ⟨1, [.nilFunc], .scalar, 0⟩) ∧
  (tlook Tt 103 = some ⟨1, [.nilFunc], .scalar, 0⟩) ∧
  (tlook Tt 104 = some ⟨1, [.nilFunc], .scalar, 0⟩) ∧
  (tlook Tt 105 = some ⟨1, [.nilFunc], .scalar, 0⟩) ∧
  (tlook Tt 107 = some ⟨1, [.nilFunc], .scalar, 0⟩) ∧
  (tlook Tt 108 = some ⟨1, [.nilFunc], .scalar, 0⟩) ∧
  (tlook Tt 110 = some ⟨1, [.slice none 0 0], .sl 58 1 24 [.slice none 0 0], 0⟩) ∧
  (tlook Tt 111 = some ⟨1, [.nilFunc], .scalar, 0⟩) ∧
  (tlook Tt 112 = some ⟨1, [.nilFunc], .scalar, 0⟩) ∧
  (tlook Tt 113 = some ⟨1, [.nilFunc], .scalar, 0⟩) ∧
  (tlook Tt 114 = some ⟨1, [.nilFunc], .scalar, 0⟩) ∧
  (tlook Tt 115 = some ⟨1, [.nilFunc], .scalar, 0⟩) ∧
  (tlook Tt 116 = some ⟨1, [.nilFunc], .scalar, 0⟩) ∧
  (tlook Tt 117 = some ⟨1, [.nilFunc], .scalar, 0⟩) ∧
  (tlook Tt 118 = some ⟨1, [.nilFunc], .scalar, 0⟩) ∧
  (tlook Tt 119 = some ⟨1, [.nilFunc], .scalar, 0⟩) ∧
  (tlook Tt 120 = some ⟨1, [.nilFunc], .scalar, 0⟩) ∧
  (tlook Tt 121 = some ⟨1, [.slice none 0 0], .sl 35 1 24 [.slice none 0 0], 0⟩) ∧
  (tlook Tt 122 = some ⟨1, [.pointer none], .scalar, 0⟩) ∧
  (tlook Tt 123 = some ⟨1, [.nilFunc], .scalar, 0⟩) ∧
  (tlook Tt 126 = some ⟨2, [.pointer none, .pointer none], .st [(0, 1), (1, 1)], 0⟩) ∧
  (tlook Tt 127 = some ⟨2, [.pointer none, .pointer none], .st [(0, 1), (1, 1)], 0⟩) ∧
  (tlook Tt 138 = some ⟨1, [.pointer none], .scalar, 0⟩) ∧
  (tlook Tt 139 = some ⟨1, [.map none], .mp (some .i64) (.int .i64 0), 0⟩) ∧
  (tlook Tt 140 = some ⟨1, [.nilFunc], .scalar, 0⟩) ∧
  (tlook Tt 147 = some ⟨1, [.slice none 0 0], .sl 61 1 24 [.slice none 0 0], 0⟩) ∧
  (tlook Tt 150 = some ⟨1, [.int .u64 0], .int .u64, 0⟩) ∧
  (tlook Tt 152 = some ⟨1, [.nilFunc], .scalar, 0⟩) ∧
  (tlook Tt 160 = some ⟨1, [.int .i64 0], .int .i64, 0⟩) ∧
  (tlook Tt 162 = some ⟨1, [.nilFunc], .scalar, 0⟩) ∧
  (tlook Tt 166 = some ⟨1, [.nilFunc], .scalar, 0⟩) ∧
  (tlook Tt 170 = some ⟨2, [.int .i64 0, .int .i64 0], .st [(0, 1), (1, 1)], 2⟩) ∧
  (tlook Tt 173 = some ⟨20, [.int .u64 0, .int .u64 0, .int .u64 0, .int .u64 0, .int .u64 0, .int .u64 0, .int .u64 0, .int .u64 0, .int .u64 0, .int .u64 0, .int .u64 0, .int .u64 0, .int .u64 0, .int .u64 0, .int .u64 0, .int .u64 0, .int .u64 0, .int .u64 0, .int .u64 0, .int .u64 0], .arr 20 150 1, 0⟩) ∧
  (tlook Tt 178 = some ⟨1, [.nilFunc], .scalar, 0⟩) ∧
  (tlook Tt 182 = some ⟨3, [.string ⟨#[]⟩, .string ⟨#[]⟩, .nilIface], .st [(0, 1), (1, 1), (2, 1)], 0⟩) ∧
  (tlook Tt 186 = some ⟨1, [.nilFunc], .scalar, 0⟩) ∧
  (tlook Tt 192 = some ⟨1, [.nilFunc], .scalar, 0⟩) ∧
  (tlook Tt 206 = some ⟨1, [.nilFunc], .scalar, 0⟩) :=
 ⟨rfl, rfl, rfl, rfl, rfl, rfl, rfl, rfl, rfl, rfl, rfl, rfl, rfl, rfl, rfl, rfl, rfl, rfl, rfl, rfl, rfl, rfl, rfl, rfl, rfl, rfl, rfl, rfl, rfl, rfl, rfl, rfl, rfl, rfl, rfl, rfl, rfl, rfl, rfl, rfl, rfl, rfl, rfl, rfl, rfl, rfl, rfl, rfl, rfl, rfl, rfl, rfl, rfl, rfl, rfl, rfl, rfl, rfl, rfl, rfl, rfl, rfl, rfl, rfl, rfl, rfl, rfl, rfl, rfl, rfl, rfl, rfl, rfl, rfl, rfl, rfl, rfl, rfl, rfl, rfl, rfl, rfl, rfl, rfl, rfl, rfl, rfl, rfl, rfl, rfl, rfl, rfl, rfl, rfl, rfl, rfl, rfl, rfl, rfl, rfl, rfl⟩
end Go.Proofs.YtmbemlmkfoblhaaGreatDoor
