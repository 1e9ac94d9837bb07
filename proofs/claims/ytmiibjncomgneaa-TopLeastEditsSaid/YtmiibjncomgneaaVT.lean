/-
  The executor's table of this program's types, proved. Written by gen_t.py.
-/
import Derived.Test.YtmiibjncomgneaaVLib
import Derived.Test.YtmiibjncomgneaaVTabA
import Derived.Test.YtmiibjncomgneaaProg
import Derived.KernelRfl
namespace Go.Proofs.Ytmiibjncomgneaa
open Go Go.Vx
set_option linter.unusedSimpArgs false
def Tt : Tab := [
  (1, ⟨1, [.nilFunc], .scalar, 0⟩),
  (2, ⟨1, [.int .i64 0], .int .i64, 0⟩),
  (3, ⟨1, [.int .i64 0], .int .i64, 0⟩),
  (4, ⟨1, [.bool false], .scalar, 0⟩),
  (5, ⟨1, [.int .u8 0], .int .u8, 0⟩),
  (6, ⟨1, [.int .u8 0], .int .u8, 0⟩),
  (7, ⟨4, [.int .i64 0, .int .i64 0, .bool false, .int .u8 0], .st [(0, 1), (1, 1), (2, 1), (3, 1)], 0⟩),
  (8, ⟨4, [.int .i64 0, .int .i64 0, .bool false, .int .u8 0], .st [(0, 1), (1, 1), (2, 1), (3, 1)], 0⟩),
  (9, ⟨1, [.string ⟨#[]⟩], .str, 0⟩),
  (10, ⟨1, [.string ⟨#[]⟩], .str, 0⟩),
  (11, ⟨1, [.string ⟨#[]⟩], .str, 0⟩),
  (12, ⟨1, [.int .u64 0], .int .u64, 0⟩),
  (13, ⟨2, [.string ⟨#[]⟩, .int .u64 0], .st [(0, 1), (1, 1)], 0⟩),
  (14, ⟨2, [.string ⟨#[]⟩, .int .u64 0], .st [(0, 1), (1, 1)], 0⟩),
  (15, ⟨1, [.pointer none], .scalar, 0⟩),
  (16, ⟨1, [.pointer none], .scalar, 0⟩),
  (17, ⟨1, [.pointer none], .scalar, 0⟩),
  (18, ⟨1, [.pointer none], .st [(0, 1)], 0⟩),
  (19, ⟨1, [.pointer none], .st [(0, 1)], 0⟩),
  (20, ⟨1, [.nilIface], .scalar, 0⟩),
  (21, ⟨1, [.int .i32 0], .int .i32, 0⟩),
  (22, ⟨1, [.slice none 0 0], .sl 9 1 16 [.string ⟨#[]⟩], 0⟩),
  (23, ⟨1, [.slice none 0 0], .sl 32 7 72 [.int .i64 0, .int .i64 0, .int .i64 0, .string ⟨#[]⟩, .string ⟨#[]⟩, .int .i64 0, .int .i64 0], 0⟩),
  (24, ⟨1, [.nilFunc], .scalar, 0⟩),
  (25, ⟨1, [.nilFunc], .scalar, 0⟩),
  (26, ⟨2, [.int .i64 0, .slice none 0 0], .st [(0, 1), (1, 1)], 0⟩),
  (27, ⟨2, [.int .i64 0, .slice none 0 0], .st [(0, 1), (1, 1)], 0⟩),
  (28, ⟨1, [.slice none 0 0], .sl 27 2 32 [.int .i64 0, .slice none 0 0], 0⟩),
  (29, ⟨1, [.nilFunc], .scalar, 0⟩),
  (30, ⟨1, [.nilFunc], .scalar, 0⟩),
  (31, ⟨7, [.int .i64 0, .int .i64 0, .int .i64 0, .string ⟨#[]⟩, .string ⟨#[]⟩, .int .i64 0, .int .i64 0], .st [(0, 1), (1, 1), (2, 1), (3, 1), (4, 1), (5, 1), (6, 1)], 1000231⟩),
  (32, ⟨7, [.int .i64 0, .int .i64 0, .int .i64 0, .string ⟨#[]⟩, .string ⟨#[]⟩, .int .i64 0, .int .i64 0], .st [(0, 1), (1, 1), (2, 1), (3, 1), (4, 1), (5, 1), (6, 1)], 1000231⟩),
  (33, ⟨1, [.int .i64 0], .int .i64, 0⟩),
  (35, ⟨1, [.nilFunc], .scalar, 0⟩),
  (36, ⟨1, [.nilFunc], .scalar, 0⟩),
  (37, ⟨1, [.nilFunc], .scalar, 0⟩),
  (38, ⟨1, [.slice none 0 0], .sl 63 2 16 [.int .i64 0, .int .i64 0], 0⟩),
  (39, ⟨1, [.slice none 0 0], .sl 3 1 8 [.int .i64 0], 0⟩),
  (41, ⟨1, [.nilFunc], .scalar, 0⟩),
  (43, ⟨1, [.nilFunc], .scalar, 0⟩),
  (44, ⟨1, [.nilFunc], .scalar, 0⟩),
  (46, ⟨1, [.nilFunc], .scalar, 0⟩),
  (47, ⟨1, [.nilFunc], .scalar, 0⟩),
  (49, ⟨1, [.nilFunc], .scalar, 0⟩),
  (50, ⟨1, [.nilFunc], .scalar, 0⟩),
  (51, ⟨1, [.nilFunc], .scalar, 0⟩),
  (52, ⟨1, [.nilFunc], .scalar, 0⟩),
  (53, ⟨1, [.nilFunc], .scalar, 0⟩),
  (54, ⟨1, [.nilFunc], .scalar, 0⟩),
  (55, ⟨1, [.nilFunc], .scalar, 0⟩),
  (56, ⟨1, [.nilFunc], .scalar, 0⟩),
  (57, ⟨1, [.nilFunc], .scalar, 0⟩),
  (58, ⟨2, [.slice none 0 0, .slice none 0 0], .st [(0, 1), (1, 1)], 0⟩),
  (59, ⟨2, [.slice none 0 0, .slice none 0 0], .st [(0, 1), (1, 1)], 0⟩),
  (60, ⟨1, [.nilFunc], .scalar, 0⟩),
  (61, ⟨1, [.nilFunc], .scalar, 0⟩),
  (62, ⟨2, [.int .i64 0, .int .i64 0], .st [(0, 1), (1, 1)], 2⟩),
  (63, ⟨2, [.int .i64 0, .int .i64 0], .st [(0, 1), (1, 1)], 2⟩),
  (64, ⟨1, [.nilFunc], .scalar, 0⟩),
  (65, ⟨1, [.pointer none], .scalar, 0⟩),
  (66, ⟨1, [.nilFunc], .scalar, 0⟩),
  (67, ⟨1, [.nilFunc], .scalar, 0⟩),
  (68, ⟨1, [.nilFunc], .scalar, 0⟩),
  (69, ⟨1, [.nilFunc], .scalar, 0⟩),
  (70, ⟨1, [.nilFunc], .scalar, 0⟩),
  (71, ⟨1, [.nilFunc], .scalar, 0⟩),
  (72, ⟨1, [.nilFunc], .scalar, 0⟩),
  (73, ⟨1, [.nilFunc], .scalar, 0⟩),
  (74, ⟨1, [.nilFunc], .scalar, 0⟩),
  (75, ⟨1, [.slice none 0 0], .sl 23 1 24 [.slice none 0 0], 0⟩),
  (76, ⟨2, [.int .i64 0, .int .i64 0], .arr 2 3 1, 2⟩),
  (77, ⟨1, [.nilFunc], .scalar, 0⟩),
  (78, ⟨1, [.nilFunc], .scalar, 0⟩),
  (79, ⟨1, [.nilFunc], .scalar, 0⟩),
  (80, ⟨1, [.nilFunc], .scalar, 0⟩),
  (81, ⟨1, [.nilFunc], .scalar, 0⟩),
  (82, ⟨1, [.slice none 0 0], .sl 22 1 24 [.slice none 0 0], 0⟩),
  (83, ⟨1, [.nilFunc], .scalar, 0⟩),
  (84, ⟨4, [.string ⟨#[]⟩, .string ⟨#[]⟩, .int .i64 0, .int .i64 0], .st [(0, 1), (1, 1), (2, 1), (3, 1)], 1000028⟩),
  (85, ⟨4, [.string ⟨#[]⟩, .string ⟨#[]⟩, .int .i64 0, .int .i64 0], .st [(0, 1), (1, 1), (2, 1), (3, 1)], 1000028⟩),
  (86, ⟨1, [.nilFunc], .scalar, 0⟩),
  (87, ⟨1, [.nilFunc], .scalar, 0⟩),
  (88, ⟨1, [.pointer none], .scalar, 0⟩),
  (89, ⟨1, [.map none], .mp (some .i64) (.int .i64 0), 0⟩),
  (90, ⟨1, [.nilFunc], .scalar, 0⟩),
  (91, ⟨1, [.nilFunc], .scalar, 0⟩),
  (92, ⟨1, [.nilFunc], .scalar, 0⟩),
  (93, ⟨1, [.nilFunc], .scalar, 0⟩),
  (94, ⟨1, [.slice none 0 0], .sl 5 1 1 [.int .u8 0], 0⟩),
  (95, ⟨1, [.nilFunc], .scalar, 0⟩),
  (96, ⟨1, [.nilFunc], .scalar, 0⟩),
  (97, ⟨1, [.nilFunc], .scalar, 0⟩),
  (98, ⟨1, [.nilFunc], .scalar, 0⟩),
  (99, ⟨1, [.nilFunc], .scalar, 0⟩),
  (100, ⟨1, [.nilFunc], .scalar, 0⟩),
  (101, ⟨1, [.nilFunc], .scalar, 0⟩),
  (102, ⟨1, [.nilFunc], .scalar, 0⟩),
  (103, ⟨1, [.nilFunc], .scalar, 0⟩),
  (104, ⟨1, [.nilFunc], .scalar, 0⟩),
  (105, ⟨4, [.pointer none, .pointer none, .pointer none, .string ⟨#[]⟩], .st [(0, 1), (1, 1), (2, 1), (3, 1)], 0⟩),
  (106, ⟨4, [.pointer none, .pointer none, .pointer none, .string ⟨#[]⟩], .st [(0, 1), (1, 1), (2, 1), (3, 1)], 0⟩),
  (107, ⟨0, [], .arr 0 16 1, 0⟩),
  (110, ⟨1, [.nilFunc], .scalar, 0⟩),
  (111, ⟨1, [.int .u32 0], .int .u32, 0⟩),
  (112, ⟨1, [.int .u8 0], .int .u8, 0⟩),
  (113, ⟨1, [.int .u8 0], .int .u8, 0⟩),
  (114, ⟨1, [.nilFunc], .scalar, 0⟩),
  (115, ⟨1, [.pointer none], .scalar, 0⟩),
  (116, ⟨1, [.int .i32 0], .int .i32, 0⟩),
  (117, ⟨1, [.int .i32 0], .int .i32, 0⟩),
  (118, ⟨11, [.int .u64 0, .int .u64 0, .int .u32 0, .int .u8 0, .int .u8 0, .int .u8 0, .int .u8 0, .nilFunc, .pointer none, .int .i32 0, .int .i32 0], .st [(0, 1), (1, 1), (2, 1), (3, 1), (4, 1), (5, 1), (6, 1), (7, 1), (8, 1), (9, 1), (10, 1)], 0⟩),
  (119, ⟨11, [.int .u64 0, .int .u64 0, .int .u32 0, .int .u8 0, .int .u8 0, .int .u8 0, .int .u8 0, .nilFunc, .pointer none, .int .i32 0, .int .i32 0], .st [(0, 1), (1, 1), (2, 1), (3, 1), (4, 1), (5, 1), (6, 1), (7, 1), (8, 1), (9, 1), (10, 1)], 0⟩)]
theorem tok1 : TIok Try.prog 1 ⟨1, [.nilFunc], .scalar, 0⟩ := TIok.scalar (z := .nilFunc) (by kernel_rfl) rfl Try.underlying1 (by simp) (by simp)
theorem tok2 : TIok Try.prog 2 ⟨1, [.int .i64 0], .int .i64, 0⟩ := TIok.int (by kernel_rfl) Try.underlying2
theorem tok3 : TIok Try.prog 3 ⟨1, [.int .i64 0], .int .i64, 0⟩ := TIok.int (by kernel_rfl) Try.underlying3
theorem tok4 : TIok Try.prog 4 ⟨1, [.bool false], .scalar, 0⟩ := TIok.scalar (z := .bool false) (by kernel_rfl) rfl Try.underlying4 (by simp) (by simp)
theorem tok5 : TIok Try.prog 5 ⟨1, [.int .u8 0], .int .u8, 0⟩ := TIok.int (by kernel_rfl) Try.underlying5
theorem tok6 : TIok Try.prog 6 ⟨1, [.int .u8 0], .int .u8, 0⟩ := TIok.int (by kernel_rfl) Try.underlying6
theorem tok7 : TIok Try.prog 7 ⟨4, [.int .i64 0, .int .i64 0, .bool false, .int .u8 0], .st [(0, 1), (1, 1), (2, 1), (3, 1)], 0⟩ := TIok.st (z := .agg #[.int .i64 0, .int .i64 0, .bool false, .int .u8 0]) (by kernel_rfl) rfl Try.underlying7 ⟨rfl, (by kernel_rfl), (by decide), rfl, (by kernel_rfl), (by decide), rfl, (by kernel_rfl), (by decide), rfl, (by kernel_rfl), (by decide), trivial⟩ (fun h => absurd rfl h) (fun h => absurd rfl h)
theorem tok8 : TIok Try.prog 8 ⟨4, [.int .i64 0, .int .i64 0, .bool false, .int .u8 0], .st [(0, 1), (1, 1), (2, 1), (3, 1)], 0⟩ := TIok.st (z := .agg #[.int .i64 0, .int .i64 0, .bool false, .int .u8 0]) (by kernel_rfl) rfl Try.underlying8 ⟨rfl, (by kernel_rfl), (by decide), rfl, (by kernel_rfl), (by decide), rfl, (by kernel_rfl), (by decide), rfl, (by kernel_rfl), (by decide), trivial⟩ (fun h => absurd rfl h) (fun h => absurd rfl h)
theorem tok9 : TIok Try.prog 9 ⟨1, [.string ⟨#[]⟩], .str, 0⟩ := TIok.str (by kernel_rfl) Try.underlying9
theorem tok10 : TIok Try.prog 10 ⟨1, [.string ⟨#[]⟩], .str, 0⟩ := TIok.str (by kernel_rfl) Try.underlying10
theorem tok11 : TIok Try.prog 11 ⟨1, [.string ⟨#[]⟩], .str, 0⟩ := TIok.str (by kernel_rfl) Try.underlying11
theorem tok12 : TIok Try.prog 12 ⟨1, [.int .u64 0], .int .u64, 0⟩ := TIok.int (by kernel_rfl) Try.underlying12
theorem tok13 : TIok Try.prog 13 ⟨2, [.string ⟨#[]⟩, .int .u64 0], .st [(0, 1), (1, 1)], 0⟩ := TIok.st (z := .agg #[.string ⟨#[]⟩, .int .u64 0]) (by kernel_rfl) rfl Try.underlying13 ⟨rfl, (by kernel_rfl), (by decide), rfl, (by kernel_rfl), (by decide), trivial⟩ (fun h => absurd rfl h) (fun h => absurd rfl h)
theorem tok14 : TIok Try.prog 14 ⟨2, [.string ⟨#[]⟩, .int .u64 0], .st [(0, 1), (1, 1)], 0⟩ := TIok.st (z := .agg #[.string ⟨#[]⟩, .int .u64 0]) (by kernel_rfl) rfl Try.underlying14 ⟨rfl, (by kernel_rfl), (by decide), rfl, (by kernel_rfl), (by decide), trivial⟩ (fun h => absurd rfl h) (fun h => absurd rfl h)
theorem tok15 : TIok Try.prog 15 ⟨1, [.pointer none], .scalar, 0⟩ := TIok.scalar (z := .pointer none) (by kernel_rfl) rfl Try.underlying15 (by simp) (by simp)
theorem tok16 : TIok Try.prog 16 ⟨1, [.pointer none], .scalar, 0⟩ := TIok.scalar (z := .pointer none) (by kernel_rfl) rfl Try.underlying16 (by simp) (by simp)
theorem tok17 : TIok Try.prog 17 ⟨1, [.pointer none], .scalar, 0⟩ := TIok.scalar (z := .pointer none) (by kernel_rfl) rfl Try.underlying17 (by simp) (by simp)
theorem tok18 : TIok Try.prog 18 ⟨1, [.pointer none], .st [(0, 1)], 0⟩ := TIok.st (z := .agg #[.pointer none]) (by kernel_rfl) rfl Try.underlying18 ⟨rfl, (by kernel_rfl), (by decide), trivial⟩ (fun h => absurd rfl h) (fun h => absurd rfl h)
theorem tok19 : TIok Try.prog 19 ⟨1, [.pointer none], .st [(0, 1)], 0⟩ := TIok.st (z := .agg #[.pointer none]) (by kernel_rfl) rfl Try.underlying19 ⟨rfl, (by kernel_rfl), (by decide), trivial⟩ (fun h => absurd rfl h) (fun h => absurd rfl h)
theorem tok20 : TIok Try.prog 20 ⟨1, [.nilIface], .scalar, 0⟩ := TIok.scalar (z := .nilIface) (by kernel_rfl) rfl Try.underlying20 (by simp) (by simp)
theorem tok21 : TIok Try.prog 21 ⟨1, [.int .i32 0], .int .i32, 0⟩ := TIok.int (by kernel_rfl) Try.underlying21
theorem tok22 : TIok Try.prog 22 ⟨1, [.slice none 0 0], .sl 9 1 16 [.string ⟨#[]⟩], 0⟩ := TIok.sl (z := .string ⟨#[]⟩) (by kernel_rfl) Try.underlying22 (by kernel_rfl) rfl (by decide) (by decide) rfl rfl
theorem tok23 : TIok Try.prog 23 ⟨1, [.slice none 0 0], .sl 32 7 72 [.int .i64 0, .int .i64 0, .int .i64 0, .string ⟨#[]⟩, .string ⟨#[]⟩, .int .i64 0, .int .i64 0], 0⟩ := TIok.sl (z := .agg #[.int .i64 0, .int .i64 0, .int .i64 0, .string ⟨#[]⟩, .string ⟨#[]⟩, .int .i64 0, .int .i64 0]) (by kernel_rfl) Try.underlying23 (by kernel_rfl) rfl (by decide) (by decide) rfl rfl
theorem tok24 : TIok Try.prog 24 ⟨1, [.nilFunc], .scalar, 0⟩ := TIok.scalar (z := .nilFunc) (by kernel_rfl) rfl Try.underlying24 (by simp) (by simp)
theorem tok25 : TIok Try.prog 25 ⟨1, [.nilFunc], .scalar, 0⟩ := TIok.scalar (z := .nilFunc) (by kernel_rfl) rfl Try.underlying25 (by simp) (by simp)
theorem tok26 : TIok Try.prog 26 ⟨2, [.int .i64 0, .slice none 0 0], .st [(0, 1), (1, 1)], 0⟩ := TIok.st (z := .agg #[.int .i64 0, .slice none 0 0]) (by kernel_rfl) rfl Try.underlying26 ⟨rfl, (by kernel_rfl), (by decide), rfl, (by kernel_rfl), (by decide), trivial⟩ (fun h => absurd rfl h) (fun h => absurd rfl h)
theorem tok27 : TIok Try.prog 27 ⟨2, [.int .i64 0, .slice none 0 0], .st [(0, 1), (1, 1)], 0⟩ := TIok.st (z := .agg #[.int .i64 0, .slice none 0 0]) (by kernel_rfl) rfl Try.underlying27 ⟨rfl, (by kernel_rfl), (by decide), rfl, (by kernel_rfl), (by decide), trivial⟩ (fun h => absurd rfl h) (fun h => absurd rfl h)
theorem tok28 : TIok Try.prog 28 ⟨1, [.slice none 0 0], .sl 27 2 32 [.int .i64 0, .slice none 0 0], 0⟩ := TIok.sl (z := .agg #[.int .i64 0, .slice none 0 0]) (by kernel_rfl) Try.underlying28 (by kernel_rfl) rfl (by decide) (by decide) rfl rfl
theorem tok29 : TIok Try.prog 29 ⟨1, [.nilFunc], .scalar, 0⟩ := TIok.scalar (z := .nilFunc) (by kernel_rfl) rfl Try.underlying29 (by simp) (by simp)
theorem tok30 : TIok Try.prog 30 ⟨1, [.nilFunc], .scalar, 0⟩ := TIok.scalar (z := .nilFunc) (by kernel_rfl) rfl Try.underlying30 (by simp) (by simp)
theorem tok31 : TIok Try.prog 31 ⟨7, [.int .i64 0, .int .i64 0, .int .i64 0, .string ⟨#[]⟩, .string ⟨#[]⟩, .int .i64 0, .int .i64 0], .st [(0, 1), (1, 1), (2, 1), (3, 1), (4, 1), (5, 1), (6, 1)], 1000231⟩ := TIok.st (z := .agg #[.int .i64 0, .int .i64 0, .int .i64 0, .string ⟨#[]⟩, .string ⟨#[]⟩, .int .i64 0, .int .i64 0]) (by kernel_rfl) rfl Try.underlying31 ⟨rfl, (by kernel_rfl), (by decide), rfl, (by kernel_rfl), (by decide), rfl, (by kernel_rfl), (by decide), rfl, (by kernel_rfl), (by decide), rfl, (by kernel_rfl), (by decide), rfl, (by kernel_rfl), (by decide), rfl, (by kernel_rfl), (by decide), trivial⟩ (fun _ => EqS.up (c := 231) (EqS.of Try.underlying31 Try.eqGuardType31 Try.stoodInHeld31 (by simp [flOk, Try.underlying3, Try.underlying9]))) (fun _ => ScOk.ofS (c := 231) Try.underlying31 (by simp [flOk, Try.underlying3, Try.underlying9]))
theorem tok32 : TIok Try.prog 32 ⟨7, [.int .i64 0, .int .i64 0, .int .i64 0, .string ⟨#[]⟩, .string ⟨#[]⟩, .int .i64 0, .int .i64 0], .st [(0, 1), (1, 1), (2, 1), (3, 1), (4, 1), (5, 1), (6, 1)], 1000231⟩ := TIok.st (z := .agg #[.int .i64 0, .int .i64 0, .int .i64 0, .string ⟨#[]⟩, .string ⟨#[]⟩, .int .i64 0, .int .i64 0]) (by kernel_rfl) rfl Try.underlying32 ⟨rfl, (by kernel_rfl), (by decide), rfl, (by kernel_rfl), (by decide), rfl, (by kernel_rfl), (by decide), rfl, (by kernel_rfl), (by decide), rfl, (by kernel_rfl), (by decide), rfl, (by kernel_rfl), (by decide), rfl, (by kernel_rfl), (by decide), trivial⟩ (fun _ => EqS.up (c := 231) (EqS.of Try.underlying32 Try.eqGuardType32 Try.stoodInHeld32 (by simp [flOk, Try.underlying3, Try.underlying9]))) (fun _ => ScOk.ofS (c := 231) Try.underlying32 (by simp [flOk, Try.underlying3, Try.underlying9]))
theorem tok33 : TIok Try.prog 33 ⟨1, [.int .i64 0], .int .i64, 0⟩ := TIok.int (by kernel_rfl) Try.underlying33
theorem tok35 : TIok Try.prog 35 ⟨1, [.nilFunc], .scalar, 0⟩ := TIok.scalar (z := .nilFunc) (by kernel_rfl) rfl Try.underlying35 (by simp) (by simp)
theorem tok36 : TIok Try.prog 36 ⟨1, [.nilFunc], .scalar, 0⟩ := TIok.scalar (z := .nilFunc) (by kernel_rfl) rfl Try.underlying36 (by simp) (by simp)
theorem tok37 : TIok Try.prog 37 ⟨1, [.nilFunc], .scalar, 0⟩ := TIok.scalar (z := .nilFunc) (by kernel_rfl) rfl Try.underlying37 (by simp) (by simp)
theorem tok38 : TIok Try.prog 38 ⟨1, [.slice none 0 0], .sl 63 2 16 [.int .i64 0, .int .i64 0], 0⟩ := TIok.sl (z := .agg #[.int .i64 0, .int .i64 0]) (by kernel_rfl) Try.underlying38 (by kernel_rfl) rfl (by decide) (by decide) rfl rfl
theorem tok39 : TIok Try.prog 39 ⟨1, [.slice none 0 0], .sl 3 1 8 [.int .i64 0], 0⟩ := TIok.sl (z := .int .i64 0) (by kernel_rfl) Try.underlying39 (by kernel_rfl) rfl (by decide) (by decide) rfl rfl
theorem tok41 : TIok Try.prog 41 ⟨1, [.nilFunc], .scalar, 0⟩ := TIok.scalar (z := .nilFunc) (by kernel_rfl) rfl Try.underlying41 (by simp) (by simp)
theorem tok43 : TIok Try.prog 43 ⟨1, [.nilFunc], .scalar, 0⟩ := TIok.scalar (z := .nilFunc) (by kernel_rfl) rfl Try.underlying43 (by simp) (by simp)
theorem tok44 : TIok Try.prog 44 ⟨1, [.nilFunc], .scalar, 0⟩ := TIok.scalar (z := .nilFunc) (by kernel_rfl) rfl Try.underlying44 (by simp) (by simp)
theorem tok46 : TIok Try.prog 46 ⟨1, [.nilFunc], .scalar, 0⟩ := TIok.scalar (z := .nilFunc) (by kernel_rfl) rfl Try.underlying46 (by simp) (by simp)
theorem tok47 : TIok Try.prog 47 ⟨1, [.nilFunc], .scalar, 0⟩ := TIok.scalar (z := .nilFunc) (by kernel_rfl) rfl Try.underlying47 (by simp) (by simp)
theorem tok49 : TIok Try.prog 49 ⟨1, [.nilFunc], .scalar, 0⟩ := TIok.scalar (z := .nilFunc) (by kernel_rfl) rfl Try.underlying49 (by simp) (by simp)
theorem tok50 : TIok Try.prog 50 ⟨1, [.nilFunc], .scalar, 0⟩ := TIok.scalar (z := .nilFunc) (by kernel_rfl) rfl Try.underlying50 (by simp) (by simp)
theorem tok51 : TIok Try.prog 51 ⟨1, [.nilFunc], .scalar, 0⟩ := TIok.scalar (z := .nilFunc) (by kernel_rfl) rfl Try.underlying51 (by simp) (by simp)
theorem tok52 : TIok Try.prog 52 ⟨1, [.nilFunc], .scalar, 0⟩ := TIok.scalar (z := .nilFunc) (by kernel_rfl) rfl Try.underlying52 (by simp) (by simp)
theorem tok53 : TIok Try.prog 53 ⟨1, [.nilFunc], .scalar, 0⟩ := TIok.scalar (z := .nilFunc) (by kernel_rfl) rfl Try.underlying53 (by simp) (by simp)
theorem tok54 : TIok Try.prog 54 ⟨1, [.nilFunc], .scalar, 0⟩ := TIok.scalar (z := .nilFunc) (by kernel_rfl) rfl Try.underlying54 (by simp) (by simp)
theorem tok55 : TIok Try.prog 55 ⟨1, [.nilFunc], .scalar, 0⟩ := TIok.scalar (z := .nilFunc) (by kernel_rfl) rfl Try.underlying55 (by simp) (by simp)
theorem tok56 : TIok Try.prog 56 ⟨1, [.nilFunc], .scalar, 0⟩ := TIok.scalar (z := .nilFunc) (by kernel_rfl) rfl Try.underlying56 (by simp) (by simp)
theorem tok57 : TIok Try.prog 57 ⟨1, [.nilFunc], .scalar, 0⟩ := TIok.scalar (z := .nilFunc) (by kernel_rfl) rfl Try.underlying57 (by simp) (by simp)
theorem tok58 : TIok Try.prog 58 ⟨2, [.slice none 0 0, .slice none 0 0], .st [(0, 1), (1, 1)], 0⟩ := TIok.st (z := .agg #[.slice none 0 0, .slice none 0 0]) (by kernel_rfl) rfl Try.underlying58 ⟨rfl, (by kernel_rfl), (by decide), rfl, (by kernel_rfl), (by decide), trivial⟩ (fun h => absurd rfl h) (fun h => absurd rfl h)
theorem tok59 : TIok Try.prog 59 ⟨2, [.slice none 0 0, .slice none 0 0], .st [(0, 1), (1, 1)], 0⟩ := TIok.st (z := .agg #[.slice none 0 0, .slice none 0 0]) (by kernel_rfl) rfl Try.underlying59 ⟨rfl, (by kernel_rfl), (by decide), rfl, (by kernel_rfl), (by decide), trivial⟩ (fun h => absurd rfl h) (fun h => absurd rfl h)
theorem tok60 : TIok Try.prog 60 ⟨1, [.nilFunc], .scalar, 0⟩ := TIok.scalar (z := .nilFunc) (by kernel_rfl) rfl Try.underlying60 (by simp) (by simp)
theorem tok61 : TIok Try.prog 61 ⟨1, [.nilFunc], .scalar, 0⟩ := TIok.scalar (z := .nilFunc) (by kernel_rfl) rfl Try.underlying61 (by simp) (by simp)
theorem tok62 : TIok Try.prog 62 ⟨2, [.int .i64 0, .int .i64 0], .st [(0, 1), (1, 1)], 2⟩ := TIok.st (z := .agg #[.int .i64 0, .int .i64 0]) (by kernel_rfl) rfl Try.underlying62 ⟨rfl, (by kernel_rfl), (by decide), rfl, (by kernel_rfl), (by decide), trivial⟩ (fun _ => EqOk.up (EqOk.of Try.underlying62 Try.eqGuardType62 Try.stoodInHeld62 (by simp [Try.underlying3]) rfl)) (fun _ => ScOk.of Try.underlying62 (by simp [Try.underlying3]))
theorem tok63 : TIok Try.prog 63 ⟨2, [.int .i64 0, .int .i64 0], .st [(0, 1), (1, 1)], 2⟩ := TIok.st (z := .agg #[.int .i64 0, .int .i64 0]) (by kernel_rfl) rfl Try.underlying63 ⟨rfl, (by kernel_rfl), (by decide), rfl, (by kernel_rfl), (by decide), trivial⟩ (fun _ => EqOk.up (EqOk.of Try.underlying63 Try.eqGuardType63 Try.stoodInHeld63 (by simp [Try.underlying3]) rfl)) (fun _ => ScOk.of Try.underlying63 (by simp [Try.underlying3]))
theorem tok64 : TIok Try.prog 64 ⟨1, [.nilFunc], .scalar, 0⟩ := TIok.scalar (z := .nilFunc) (by kernel_rfl) rfl Try.underlying64 (by simp) (by simp)
theorem tok65 : TIok Try.prog 65 ⟨1, [.pointer none], .scalar, 0⟩ := TIok.scalar (z := .pointer none) (by kernel_rfl) rfl Try.underlying65 (by simp) (by simp)
theorem tok66 : TIok Try.prog 66 ⟨1, [.nilFunc], .scalar, 0⟩ := TIok.scalar (z := .nilFunc) (by kernel_rfl) rfl Try.underlying66 (by simp) (by simp)
theorem tok67 : TIok Try.prog 67 ⟨1, [.nilFunc], .scalar, 0⟩ := TIok.scalar (z := .nilFunc) (by kernel_rfl) rfl Try.underlying67 (by simp) (by simp)
theorem tok68 : TIok Try.prog 68 ⟨1, [.nilFunc], .scalar, 0⟩ := TIok.scalar (z := .nilFunc) (by kernel_rfl) rfl Try.underlying68 (by simp) (by simp)
theorem tok69 : TIok Try.prog 69 ⟨1, [.nilFunc], .scalar, 0⟩ := TIok.scalar (z := .nilFunc) (by kernel_rfl) rfl Try.underlying69 (by simp) (by simp)
theorem tok70 : TIok Try.prog 70 ⟨1, [.nilFunc], .scalar, 0⟩ := TIok.scalar (z := .nilFunc) (by kernel_rfl) rfl Try.underlying70 (by simp) (by simp)
theorem tok71 : TIok Try.prog 71 ⟨1, [.nilFunc], .scalar, 0⟩ := TIok.scalar (z := .nilFunc) (by kernel_rfl) rfl Try.underlying71 (by simp) (by simp)
theorem tok72 : TIok Try.prog 72 ⟨1, [.nilFunc], .scalar, 0⟩ := TIok.scalar (z := .nilFunc) (by kernel_rfl) rfl Try.underlying72 (by simp) (by simp)
theorem tok73 : TIok Try.prog 73 ⟨1, [.nilFunc], .scalar, 0⟩ := TIok.scalar (z := .nilFunc) (by kernel_rfl) rfl Try.underlying73 (by simp) (by simp)
theorem tok74 : TIok Try.prog 74 ⟨1, [.nilFunc], .scalar, 0⟩ := TIok.scalar (z := .nilFunc) (by kernel_rfl) rfl Try.underlying74 (by simp) (by simp)
theorem tok75 : TIok Try.prog 75 ⟨1, [.slice none 0 0], .sl 23 1 24 [.slice none 0 0], 0⟩ := TIok.sl (z := .slice none 0 0) (by kernel_rfl) Try.underlying75 (by kernel_rfl) rfl (by decide) (by decide) rfl rfl
theorem tok76 : TIok Try.prog 76 ⟨2, [.int .i64 0, .int .i64 0], .arr 2 3 1, 2⟩ := TIok.arrE (z := .agg #[.int .i64 0, .int .i64 0]) (by kernel_rfl) rfl Try.underlying76 (by kernel_rfl) rfl Try.eqGuardType76 (PartEq.int Try.underlying3)
theorem tok77 : TIok Try.prog 77 ⟨1, [.nilFunc], .scalar, 0⟩ := TIok.scalar (z := .nilFunc) (by kernel_rfl) rfl Try.underlying77 (by simp) (by simp)
theorem tok78 : TIok Try.prog 78 ⟨1, [.nilFunc], .scalar, 0⟩ := TIok.scalar (z := .nilFunc) (by kernel_rfl) rfl Try.underlying78 (by simp) (by simp)
theorem tok79 : TIok Try.prog 79 ⟨1, [.nilFunc], .scalar, 0⟩ := TIok.scalar (z := .nilFunc) (by kernel_rfl) rfl Try.underlying79 (by simp) (by simp)
theorem tok80 : TIok Try.prog 80 ⟨1, [.nilFunc], .scalar, 0⟩ := TIok.scalar (z := .nilFunc) (by kernel_rfl) rfl Try.underlying80 (by simp) (by simp)
theorem tok81 : TIok Try.prog 81 ⟨1, [.nilFunc], .scalar, 0⟩ := TIok.scalar (z := .nilFunc) (by kernel_rfl) rfl Try.underlying81 (by simp) (by simp)
theorem tok82 : TIok Try.prog 82 ⟨1, [.slice none 0 0], .sl 22 1 24 [.slice none 0 0], 0⟩ := TIok.sl (z := .slice none 0 0) (by kernel_rfl) Try.underlying82 (by kernel_rfl) rfl (by decide) (by decide) rfl rfl
theorem tok83 : TIok Try.prog 83 ⟨1, [.nilFunc], .scalar, 0⟩ := TIok.scalar (z := .nilFunc) (by kernel_rfl) rfl Try.underlying83 (by simp) (by simp)
theorem tok84 : TIok Try.prog 84 ⟨4, [.string ⟨#[]⟩, .string ⟨#[]⟩, .int .i64 0, .int .i64 0], .st [(0, 1), (1, 1), (2, 1), (3, 1)], 1000028⟩ := TIok.st (z := .agg #[.string ⟨#[]⟩, .string ⟨#[]⟩, .int .i64 0, .int .i64 0]) (by kernel_rfl) rfl Try.underlying84 ⟨rfl, (by kernel_rfl), (by decide), rfl, (by kernel_rfl), (by decide), rfl, (by kernel_rfl), (by decide), rfl, (by kernel_rfl), (by decide), trivial⟩ (fun _ => EqS.up (c := 28) (EqS.of Try.underlying84 Try.eqGuardType84 Try.stoodInHeld84 (by simp [flOk, Try.underlying3, Try.underlying9]))) (fun _ => ScOk.ofS (c := 28) Try.underlying84 (by simp [flOk, Try.underlying3, Try.underlying9]))
theorem tok85 : TIok Try.prog 85 ⟨4, [.string ⟨#[]⟩, .string ⟨#[]⟩, .int .i64 0, .int .i64 0], .st [(0, 1), (1, 1), (2, 1), (3, 1)], 1000028⟩ := TIok.st (z := .agg #[.string ⟨#[]⟩, .string ⟨#[]⟩, .int .i64 0, .int .i64 0]) (by kernel_rfl) rfl Try.underlying85 ⟨rfl, (by kernel_rfl), (by decide), rfl, (by kernel_rfl), (by decide), rfl, (by kernel_rfl), (by decide), rfl, (by kernel_rfl), (by decide), trivial⟩ (fun _ => EqS.up (c := 28) (EqS.of Try.underlying85 Try.eqGuardType85 Try.stoodInHeld85 (by simp [flOk, Try.underlying3, Try.underlying9]))) (fun _ => ScOk.ofS (c := 28) Try.underlying85 (by simp [flOk, Try.underlying3, Try.underlying9]))
theorem tok86 : TIok Try.prog 86 ⟨1, [.nilFunc], .scalar, 0⟩ := TIok.scalar (z := .nilFunc) (by kernel_rfl) rfl Try.underlying86 (by simp) (by simp)
theorem tok87 : TIok Try.prog 87 ⟨1, [.nilFunc], .scalar, 0⟩ := TIok.scalar (z := .nilFunc) (by kernel_rfl) rfl Try.underlying87 (by simp) (by simp)
theorem tok88 : TIok Try.prog 88 ⟨1, [.pointer none], .scalar, 0⟩ := TIok.scalar (z := .pointer none) (by kernel_rfl) rfl Try.underlying88 (by simp) (by simp)
theorem tok89 : TIok Try.prog 89 ⟨1, [.map none], .mp (some .i64) (.int .i64 0), 0⟩ := TIok.mp (by kernel_rfl) Try.underlying89 Try.underlying3 (by kernel_rfl)
theorem tok90 : TIok Try.prog 90 ⟨1, [.nilFunc], .scalar, 0⟩ := TIok.scalar (z := .nilFunc) (by kernel_rfl) rfl Try.underlying90 (by simp) (by simp)
theorem tok91 : TIok Try.prog 91 ⟨1, [.nilFunc], .scalar, 0⟩ := TIok.scalar (z := .nilFunc) (by kernel_rfl) rfl Try.underlying91 (by simp) (by simp)
theorem tok92 : TIok Try.prog 92 ⟨1, [.nilFunc], .scalar, 0⟩ := TIok.scalar (z := .nilFunc) (by kernel_rfl) rfl Try.underlying92 (by simp) (by simp)
theorem tok93 : TIok Try.prog 93 ⟨1, [.nilFunc], .scalar, 0⟩ := TIok.scalar (z := .nilFunc) (by kernel_rfl) rfl Try.underlying93 (by simp) (by simp)
theorem tok94 : TIok Try.prog 94 ⟨1, [.slice none 0 0], .sl 5 1 1 [.int .u8 0], 0⟩ := TIok.sl (z := .int .u8 0) (by kernel_rfl) Try.underlying94 (by kernel_rfl) rfl (by decide) (by decide) rfl rfl
theorem tok95 : TIok Try.prog 95 ⟨1, [.nilFunc], .scalar, 0⟩ := TIok.scalar (z := .nilFunc) (by kernel_rfl) rfl Try.underlying95 (by simp) (by simp)
theorem tok96 : TIok Try.prog 96 ⟨1, [.nilFunc], .scalar, 0⟩ := TIok.scalar (z := .nilFunc) (by kernel_rfl) rfl Try.underlying96 (by simp) (by simp)
theorem tok97 : TIok Try.prog 97 ⟨1, [.nilFunc], .scalar, 0⟩ := TIok.scalar (z := .nilFunc) (by kernel_rfl) rfl Try.underlying97 (by simp) (by simp)
theorem tok98 : TIok Try.prog 98 ⟨1, [.nilFunc], .scalar, 0⟩ := TIok.scalar (z := .nilFunc) (by kernel_rfl) rfl Try.underlying98 (by simp) (by simp)
theorem tok99 : TIok Try.prog 99 ⟨1, [.nilFunc], .scalar, 0⟩ := TIok.scalar (z := .nilFunc) (by kernel_rfl) rfl Try.underlying99 (by simp) (by simp)
theorem tok100 : TIok Try.prog 100 ⟨1, [.nilFunc], .scalar, 0⟩ := TIok.scalar (z := .nilFunc) (by kernel_rfl) rfl Try.underlying100 (by simp) (by simp)
theorem tok101 : TIok Try.prog 101 ⟨1, [.nilFunc], .scalar, 0⟩ := TIok.scalar (z := .nilFunc) (by kernel_rfl) rfl Try.underlying101 (by simp) (by simp)
theorem tok102 : TIok Try.prog 102 ⟨1, [.nilFunc], .scalar, 0⟩ := TIok.scalar (z := .nilFunc) (by kernel_rfl) rfl Try.underlying102 (by simp) (by simp)
theorem tok103 : TIok Try.prog 103 ⟨1, [.nilFunc], .scalar, 0⟩ := TIok.scalar (z := .nilFunc) (by kernel_rfl) rfl Try.underlying103 (by simp) (by simp)
theorem tok104 : TIok Try.prog 104 ⟨1, [.nilFunc], .scalar, 0⟩ := TIok.scalar (z := .nilFunc) (by kernel_rfl) rfl Try.underlying104 (by simp) (by simp)
theorem tok105 : TIok Try.prog 105 ⟨4, [.pointer none, .pointer none, .pointer none, .string ⟨#[]⟩], .st [(0, 1), (1, 1), (2, 1), (3, 1)], 0⟩ := TIok.st (z := .agg #[.pointer none, .pointer none, .pointer none, .string ⟨#[]⟩]) (by kernel_rfl) rfl Try.underlying105 ⟨rfl, (by kernel_rfl), (by decide), rfl, (by kernel_rfl), (by decide), rfl, (by kernel_rfl), (by decide), rfl, (by kernel_rfl), (by decide), trivial⟩ (fun h => absurd rfl h) (fun h => absurd rfl h)
theorem tok106 : TIok Try.prog 106 ⟨4, [.pointer none, .pointer none, .pointer none, .string ⟨#[]⟩], .st [(0, 1), (1, 1), (2, 1), (3, 1)], 0⟩ := TIok.st (z := .agg #[.pointer none, .pointer none, .pointer none, .string ⟨#[]⟩]) (by kernel_rfl) rfl Try.underlying106 ⟨rfl, (by kernel_rfl), (by decide), rfl, (by kernel_rfl), (by decide), rfl, (by kernel_rfl), (by decide), rfl, (by kernel_rfl), (by decide), trivial⟩ (fun h => absurd rfl h) (fun h => absurd rfl h)
theorem tok107 : TIok Try.prog 107 ⟨0, [], .arr 0 16 1, 0⟩ := TIok.arr (z := .agg #[]) (by kernel_rfl) rfl Try.underlying107 (by kernel_rfl)
theorem tok110 : TIok Try.prog 110 ⟨1, [.nilFunc], .scalar, 0⟩ := TIok.scalar (z := .nilFunc) (by kernel_rfl) rfl Try.underlying110 (by simp) (by simp)
theorem tok111 : TIok Try.prog 111 ⟨1, [.int .u32 0], .int .u32, 0⟩ := TIok.int (by kernel_rfl) Try.underlying111
theorem tok112 : TIok Try.prog 112 ⟨1, [.int .u8 0], .int .u8, 0⟩ := TIok.int (by kernel_rfl) Try.underlying112
theorem tok113 : TIok Try.prog 113 ⟨1, [.int .u8 0], .int .u8, 0⟩ := TIok.int (by kernel_rfl) Try.underlying113
theorem tok114 : TIok Try.prog 114 ⟨1, [.nilFunc], .scalar, 0⟩ := TIok.scalar (z := .nilFunc) (by kernel_rfl) rfl Try.underlying114 (by simp) (by simp)
theorem tok115 : TIok Try.prog 115 ⟨1, [.pointer none], .scalar, 0⟩ := TIok.scalar (z := .pointer none) (by kernel_rfl) rfl Try.underlying115 (by simp) (by simp)
theorem tok116 : TIok Try.prog 116 ⟨1, [.int .i32 0], .int .i32, 0⟩ := TIok.int (by kernel_rfl) Try.underlying116
theorem tok117 : TIok Try.prog 117 ⟨1, [.int .i32 0], .int .i32, 0⟩ := TIok.int (by kernel_rfl) Try.underlying117
theorem tok118 : TIok Try.prog 118 ⟨11, [.int .u64 0, .int .u64 0, .int .u32 0, .int .u8 0, .int .u8 0, .int .u8 0, .int .u8 0, .nilFunc, .pointer none, .int .i32 0, .int .i32 0], .st [(0, 1), (1, 1), (2, 1), (3, 1), (4, 1), (5, 1), (6, 1), (7, 1), (8, 1), (9, 1), (10, 1)], 0⟩ := TIok.st (z := .agg #[.int .u64 0, .int .u64 0, .int .u32 0, .int .u8 0, .int .u8 0, .int .u8 0, .int .u8 0, .nilFunc, .pointer none, .int .i32 0, .int .i32 0]) (by kernel_rfl) rfl Try.underlying118 ⟨rfl, (by kernel_rfl), (by decide), rfl, (by kernel_rfl), (by decide), rfl, (by kernel_rfl), (by decide), rfl, (by kernel_rfl), (by decide), rfl, (by kernel_rfl), (by decide), rfl, (by kernel_rfl), (by decide), rfl, (by kernel_rfl), (by decide), rfl, (by kernel_rfl), (by decide), rfl, (by kernel_rfl), (by decide), rfl, (by kernel_rfl), (by decide), rfl, (by kernel_rfl), (by decide), trivial⟩ (fun h => absurd rfl h) (fun h => absurd rfl h)
theorem tok119 : TIok Try.prog 119 ⟨11, [.int .u64 0, .int .u64 0, .int .u32 0, .int .u8 0, .int .u8 0, .int .u8 0, .int .u8 0, .nilFunc, .pointer none, .int .i32 0, .int .i32 0], .st [(0, 1), (1, 1), (2, 1), (3, 1), (4, 1), (5, 1), (6, 1), (7, 1), (8, 1), (9, 1), (10, 1)], 0⟩ := TIok.st (z := .agg #[.int .u64 0, .int .u64 0, .int .u32 0, .int .u8 0, .int .u8 0, .int .u8 0, .int .u8 0, .nilFunc, .pointer none, .int .i32 0, .int .i32 0]) (by kernel_rfl) rfl Try.underlying119 ⟨rfl, (by kernel_rfl), (by decide), rfl, (by kernel_rfl), (by decide), rfl, (by kernel_rfl), (by decide), rfl, (by kernel_rfl), (by decide), rfl, (by kernel_rfl), (by decide), rfl, (by kernel_rfl), (by decide), rfl, (by kernel_rfl), (by decide), rfl, (by kernel_rfl), (by decide), rfl, (by kernel_rfl), (by decide), rfl, (by kernel_rfl), (by decide), rfl, (by kernel_rfl), (by decide), trivial⟩ (fun h => absurd rfl h) (fun h => absurd rfl h)
set_option maxRecDepth 20000 in
theorem Tok : TabOk Try.prog Tt :=
  TabOk.cons tok1 <| TabOk.cons tok2 <| TabOk.cons tok3 <| TabOk.cons tok4 <| TabOk.cons tok5 <| TabOk.cons tok6 <| TabOk.cons tok7 <| TabOk.cons tok8 <| TabOk.cons tok9 <| TabOk.cons tok10 <| TabOk.cons tok11 <| TabOk.cons tok12 <| TabOk.cons tok13 <| TabOk.cons tok14 <| TabOk.cons tok15 <| TabOk.cons tok16 <| TabOk.cons tok17 <| TabOk.cons tok18 <| TabOk.cons tok19 <| TabOk.cons tok20 <| TabOk.cons tok21 <| TabOk.cons tok22 <| TabOk.cons tok23 <| TabOk.cons tok24 <| TabOk.cons tok25 <| TabOk.cons tok26 <| TabOk.cons tok27 <| TabOk.cons tok28 <| TabOk.cons tok29 <| TabOk.cons tok30 <| TabOk.cons tok31 <| TabOk.cons tok32 <| TabOk.cons tok33 <| TabOk.cons tok35 <| TabOk.cons tok36 <| TabOk.cons tok37 <| TabOk.cons tok38 <| TabOk.cons tok39 <| TabOk.cons tok41 <| TabOk.cons tok43 <| TabOk.cons tok44 <| TabOk.cons tok46 <| TabOk.cons tok47 <| TabOk.cons tok49 <| TabOk.cons tok50 <| TabOk.cons tok51 <| TabOk.cons tok52 <| TabOk.cons tok53 <| TabOk.cons tok54 <| TabOk.cons tok55 <| TabOk.cons tok56 <| TabOk.cons tok57 <| TabOk.cons tok58 <| TabOk.cons tok59 <| TabOk.cons tok60 <| TabOk.cons tok61 <| TabOk.cons tok62 <| TabOk.cons tok63 <| TabOk.cons tok64 <| TabOk.cons tok65 <| TabOk.cons tok66 <| TabOk.cons tok67 <| TabOk.cons tok68 <| TabOk.cons tok69 <| TabOk.cons tok70 <| TabOk.cons tok71 <| TabOk.cons tok72 <| TabOk.cons tok73 <| TabOk.cons tok74 <| TabOk.cons tok75 <| TabOk.cons tok76 <| TabOk.cons tok77 <| TabOk.cons tok78 <| TabOk.cons tok79 <| TabOk.cons tok80 <| TabOk.cons tok81 <| TabOk.cons tok82 <| TabOk.cons tok83 <| TabOk.cons tok84 <| TabOk.cons tok85 <| TabOk.cons tok86 <| TabOk.cons tok87 <| TabOk.cons tok88 <| TabOk.cons tok89 <| TabOk.cons tok90 <| TabOk.cons tok91 <| TabOk.cons tok92 <| TabOk.cons tok93 <| TabOk.cons tok94 <| TabOk.cons tok95 <| TabOk.cons tok96 <| TabOk.cons tok97 <| TabOk.cons tok98 <| TabOk.cons tok99 <| TabOk.cons tok100 <| TabOk.cons tok101 <| TabOk.cons tok102 <| TabOk.cons tok103 <| TabOk.cons tok104 <| TabOk.cons tok105 <| TabOk.cons tok106 <| TabOk.cons tok107 <| TabOk.cons tok110 <| TabOk.cons tok111 <| TabOk.cons tok112 <| TabOk.cons tok113 <| TabOk.cons tok114 <| TabOk.cons tok115 <| TabOk.cons tok116 <| TabOk.cons tok117 <| TabOk.cons tok118 <| TabOk.cons tok119 <| TabOk.nil
set_option maxRecDepth 20000 in
theorem tys :
    (tlook Tt 1 = some ⟨1, [.nilFunc], .scalar, 0⟩) ∧
    (tlook Tt 2 = some ⟨1, [.int .i64 0], .int .i64, 0⟩) ∧
    (tlook Tt 3 = some ⟨1, [.int .i64 0], .int .i64, 0⟩) ∧
    (tlook Tt 4 = some ⟨1, [.bool false], .scalar, 0⟩) ∧
    (tlook Tt 5 = some ⟨1, [.int .u8 0], .int .u8, 0⟩) ∧
    (tlook Tt 6 = some ⟨1, [.int .u8 0], .int .u8, 0⟩) ∧
    (tlook Tt 7 = some ⟨4, [.int .i64 0, .int .i64 0, .bool false, .int .u8 0], .st [(0, 1), (1, 1), (2, 1), (3, 1)], 0⟩) ∧
    (tlook Tt 8 = some ⟨4, [.int .i64 0, .int .i64 0, .bool false, .int .u8 0], .st [(0, 1), (1, 1), (2, 1), (3, 1)], 0⟩) ∧
    (tlook Tt 9 = some ⟨1, [.string ⟨#[]⟩], .str, 0⟩) ∧
    (tlook Tt 10 = some ⟨1, [.string ⟨#[]⟩], .str, 0⟩) ∧
    (tlook Tt 11 = some ⟨1, [.string ⟨#[]⟩], .str, 0⟩) ∧
    (tlook Tt 12 = some ⟨1, [.int .u64 0], .int .u64, 0⟩) ∧
    (tlook Tt 13 = some ⟨2, [.string ⟨#[]⟩, .int .u64 0], .st [(0, 1), (1, 1)], 0⟩) ∧
    (tlook Tt 14 = some ⟨2, [.string ⟨#[]⟩, .int .u64 0], .st [(0, 1), (1, 1)], 0⟩) ∧
    (tlook Tt 15 = some ⟨1, [.pointer none], .scalar, 0⟩) ∧
    (tlook Tt 16 = some ⟨1, [.pointer none], .scalar, 0⟩) ∧
    (tlook Tt 17 = some ⟨1, [.pointer none], .scalar, 0⟩) ∧
    (tlook Tt 18 = some ⟨1, [.pointer none], .st [(0, 1)], 0⟩) ∧
    (tlook Tt 19 = some ⟨1, [.pointer none], .st [(0, 1)], 0⟩) ∧
    (tlook Tt 20 = some ⟨1, [.nilIface], .scalar, 0⟩) ∧
    (tlook Tt 21 = some ⟨1, [.int .i32 0], .int .i32, 0⟩) ∧
    (tlook Tt 22 = some ⟨1, [.slice none 0 0], .sl 9 1 16 [.string ⟨#[]⟩], 0⟩) ∧
    (tlook Tt 23 = some ⟨1, [.slice none 0 0], .sl 32 7 72 [.int .i64 0, .int .i64 0, .int .i64 0, .string ⟨#[]⟩, .string ⟨#[]⟩, .int .i64 0, .int .i64 0], 0⟩) ∧
    (tlook Tt 24 = some ⟨1, [.nilFunc], .scalar, 0⟩) ∧
    (tlook Tt 25 = some ⟨1, [.nilFunc], .scalar, 0⟩) ∧
    (tlook Tt 26 = some ⟨2, [.int .i64 0, .slice none 0 0], .st [(0, 1), (1, 1)], 0⟩) ∧
    (tlook Tt 27 = some ⟨2, [.int .i64 0, .slice none 0 0], .st [(0, 1), (1, 1)], 0⟩) ∧
    (tlook Tt 28 = some ⟨1, [.slice none 0 0], .sl 27 2 32 [.int .i64 0, .slice none 0 0], 0⟩) ∧
    (tlook Tt 29 = some ⟨1, [.nilFunc], .scalar, 0⟩) ∧
    (tlook Tt 30 = some ⟨1, [.nilFunc], .scalar, 0⟩) ∧
    (tlook Tt 31 = some ⟨7, [.int .i64 0, .int .i64 0, .int .i64 0, .string ⟨#[]⟩, .string ⟨#[]⟩, .int .i64 0, .int .i64 0], .st [(0, 1), (1, 1), (2, 1), (3, 1), (4, 1), (5, 1), (6, 1)], 1000231⟩) ∧
    (tlook Tt 32 = some ⟨7, [.int .i64 0, .int .i64 0, .int .i64 0, .string ⟨#[]⟩, .string ⟨#[]⟩, .int .i64 0, .int .i64 0], .st [(0, 1), (1, 1), (2, 1), (3, 1), (4, 1), (5, 1), (6, 1)], 1000231⟩) ∧
    (tlook Tt 33 = some ⟨1, [.int .i64 0], .int .i64, 0⟩) ∧
    (tlook Tt 35 = some ⟨1, [.nilFunc], .scalar, 0⟩) ∧
    (tlook Tt 36 = some ⟨1, [.nilFunc], .scalar, 0⟩) ∧
    (tlook Tt 37 = some ⟨1, [.nilFunc], .scalar, 0⟩) ∧
    (tlook Tt 38 = some ⟨1, [.slice none 0 0], .sl 63 2 16 [.int .i64 0, .int .i64 0], 0⟩) ∧
    (tlook Tt 39 = some ⟨1, [.slice none 0 0], .sl 3 1 8 [.int .i64 0], 0⟩) ∧
    (tlook Tt 41 = some ⟨1, [.nilFunc], .scalar, 0⟩) ∧
    (tlook Tt 43 = some ⟨1, [.nilFunc], .scalar, 0⟩) ∧
    (tlook Tt 44 = some ⟨1, [.nilFunc], .scalar, 0⟩) ∧
    (tlook Tt 46 = some ⟨1, [.nilFunc], .scalar, 0⟩) ∧
    (tlook Tt 47 = some ⟨1, [.nilFunc], .scalar, 0⟩) ∧
    (tlook Tt 49 = some ⟨1, [.nilFunc], .scalar, 0⟩) ∧
    (tlook Tt 50 = some ⟨1, [.nilFunc], .scalar, 0⟩) ∧
    (tlook Tt 51 = some ⟨1, [.nilFunc], .scalar, 0⟩) ∧
    (tlook Tt 52 = some ⟨1, [.nilFunc], .scalar, 0⟩) ∧
    (tlook Tt 53 = some ⟨1, [.nilFunc], .scalar, 0⟩) ∧
    (tlook Tt 54 = some ⟨1, [.nilFunc], .scalar, 0⟩) ∧
    (tlook Tt 55 = some ⟨1, [.nilFunc], .scalar, 0⟩) ∧
    (tlook Tt 56 = some ⟨1, [.nilFunc], .scalar, 0⟩) ∧
    (tlook Tt 57 = some ⟨1, [.nilFunc], .scalar, 0⟩) ∧
    (tlook Tt 58 = some ⟨2, [.slice none 0 0, .slice none 0 0], .st [(0, 1), (1, 1)], 0⟩) ∧
    (tlook Tt 59 = some ⟨2, [.slice none 0 0, .slice none 0 0], .st [(0, 1), (1, 1)], 0⟩) ∧
    (tlook Tt 60 = some ⟨1, [.nilFunc], .scalar, 0⟩) ∧
    (tlook Tt 61 = some ⟨1, [.nilFunc], .scalar, 0⟩) ∧
    (tlook Tt 62 = some ⟨2, [.int .i64 0, .int .i64 0], .st [(0, 1), (1, 1)], 2⟩) ∧
    (tlook Tt 63 = some ⟨2, [.int .i64 0, .int .i64 0], .st [(0, 1), (1, 1)], 2⟩) ∧
    (tlook Tt 64 = some ⟨1, [.nilFunc], .scalar, 0⟩) ∧
    (tlook Tt 65 = some ⟨1, [.pointer none], .scalar, 0⟩) ∧
    (tlook Tt 66 = some ⟨1, [.nilFunc], .scalar, 0⟩) ∧
    (tlook Tt 67 = some ⟨1, [.nilFunc], .scalar, 0⟩) ∧
    (tlook Tt 68 = some ⟨1, [.nilFunc], .scalar, 0⟩) ∧
    (tlook Tt 69 = some ⟨1, [.nilFunc], .scalar, 0⟩) ∧
    (tlook Tt 70 = some ⟨1, [.nilFunc], .scalar, 0⟩) ∧
    (tlook Tt 71 = some ⟨1, [.nilFunc], .scalar, 0⟩) ∧
    (tlook Tt 72 = some ⟨1, [.nilFunc], .scalar, 0⟩) ∧
    (tlook Tt 73 = some ⟨1, [.nilFunc], .scalar, 0⟩) ∧
    (tlook Tt 74 = some ⟨1, [.nilFunc], .scalar, 0⟩) ∧
    (tlook Tt 75 = some ⟨1, [.slice none 0 0], .sl 23 1 24 [.slice none 0 0], 0⟩) ∧
    (tlook Tt 76 = some ⟨2, [.int .i64 0, .int .i64 0], .arr 2 3 1, 2⟩) ∧
    (tlook Tt 77 = some ⟨1, [.nilFunc], .scalar, 0⟩) ∧
    (tlook Tt 78 = some ⟨1, [.nilFunc], .scalar, 0⟩) ∧
    (tlook Tt 79 = some ⟨1, [.nilFunc], .scalar, 0⟩) ∧
    (tlook Tt 80 = some ⟨1, [.nilFunc], .scalar, 0⟩) ∧
    (tlook Tt 81 = some ⟨1, [.nilFunc], .scalar, 0⟩) ∧
    (tlook Tt 82 = some ⟨1, [.slice none 0 0], .sl 22 1 24 [.slice none 0 0], 0⟩) ∧
    (tlook Tt 83 = some ⟨1, [.nilFunc], .scalar, 0⟩) ∧
    (tlook Tt 84 = some ⟨4, [.string ⟨#[]⟩, .string ⟨#[]⟩, .int .i64 0, .int .i64 0], .st [(0, 1), (1, 1), (2, 1), (3, 1)], 1000028⟩) ∧
    (tlook Tt 85 = some ⟨4, [.string ⟨#[]⟩, .string ⟨#[]⟩, .int .i64 0, .int .i64 0], .st [(0, 1), (1, 1), (2, 1), (3, 1)], 1000028⟩) ∧
    (tlook Tt 86 = some ⟨1, [.nilFunc], .scalar, 0⟩) ∧
    (tlook Tt 87 = some ⟨1, [.nilFunc], .scalar, 0⟩) ∧
    (tlook Tt 88 = some ⟨1, [.pointer none], .scalar, 0⟩) ∧
    (tlook Tt 89 = some ⟨1, [.map none], .mp (some .i64) (.int .i64 0), 0⟩) ∧
    (tlook Tt 90 = some ⟨1, [.nilFunc], .scalar, 0⟩) ∧
    (tlook Tt 91 = some ⟨1, [.nilFunc], .scalar, 0⟩) ∧
    (tlook Tt 92 = some ⟨1, [.nilFunc], .scalar, 0⟩) ∧
    (tlook Tt 93 = some ⟨1, [.nilFunc], .scalar, 0⟩) ∧
    (tlook Tt 94 = some ⟨1, [.slice none 0 0], .sl 5 1 1 [.int .u8 0], 0⟩) ∧
    (tlook Tt 95 = some ⟨1, [.nilFunc], .scalar, 0⟩) ∧
    (tlook Tt 96 = some ⟨1, [.nilFunc], .scalar, 0⟩) ∧
    (tlook Tt 97 = some ⟨1, [.nilFunc], .scalar, 0⟩) ∧
    (tlook Tt 98 = some ⟨1, [.nilFunc], .scalar, 0⟩) ∧
    (tlook Tt 99 = some ⟨1, [.nilFunc], .scalar, 0⟩) ∧
    (tlook Tt 100 = some ⟨1, [.nilFunc], .scalar, 0⟩) ∧
    (tlook Tt 101 = some ⟨1, [.nilFunc], .scalar, 0⟩) ∧
    (tlook Tt 102 = some ⟨1, [.nilFunc], .scalar, 0⟩) ∧
    (tlook Tt 103 = some ⟨1, [.nilFunc], .scalar, 0⟩) ∧
    (tlook Tt 104 = some ⟨1, [.nilFunc], .scalar, 0⟩) ∧
    (tlook Tt 105 = some ⟨4, [.pointer none, .pointer none, .pointer none, .string ⟨#[]⟩], .st [(0, 1), (1, 1), (2, 1), (3, 1)], 0⟩) ∧
    (tlook Tt 106 = some ⟨4, [.pointer none, .pointer none, .pointer none, .string ⟨#[]⟩], .st [(0, 1), (1, 1), (2, 1), (3, 1)], 0⟩) ∧
    (tlook Tt 107 = some ⟨0, [], .arr 0 16 1, 0⟩) ∧
    (tlook Tt 110 = some ⟨1, [.nilFunc], .scalar, 0⟩) ∧
    (tlook Tt 111 = some ⟨1, [.int .u32 0], .int .u32, 0⟩) ∧
    (tlook Tt 112 = some ⟨1, [.int .u8 0], .int .u8, 0⟩) ∧
    (tlook Tt 113 = some ⟨1, [.int .u8 0], .int .u8, 0⟩) ∧
    (tlook Tt 114 = some ⟨1, [.nilFunc], .scalar, 0⟩) ∧
    (tlook Tt 115 = some ⟨1, [.pointer none], .scalar, 0⟩) ∧
    (tlook Tt 116 = some ⟨1, [.int .i32 0], .int .i32, 0⟩) ∧
    (tlook Tt 117 = some ⟨1, [.int .i32 0], .int .i32, 0⟩) ∧
    (tlook Tt 118 = some ⟨11, [.int .u64 0, .int .u64 0, .int .u32 0, .int .u8 0, .int .u8 0, .int .u8 0, .int .u8 0, .nilFunc, .pointer none, .int .i32 0, .int .i32 0], .st [(0, 1), (1, 1), (2, 1), (3, 1), (4, 1), (5, 1), (6, 1), (7, 1), (8, 1), (9, 1), (10, 1)], 0⟩) ∧
    (tlook Tt 119 = some ⟨11, [.int .u64 0, .int .u64 0, .int .u32 0, .int .u8 0, .int .u8 0, .int .u8 0, .int .u8 0, .nilFunc, .pointer none, .int .i32 0, .int .i32 0], .st [(0, 1), (1, 1), (2, 1), (3, 1), (4, 1), (5, 1), (6, 1), (7, 1), (8, 1), (9, 1), (10, 1)], 0⟩) :=
  ⟨rfl, rfl, rfl, rfl, rfl, rfl, rfl, rfl, rfl, rfl, rfl, rfl, rfl, rfl, rfl, rfl, rfl, rfl, rfl, rfl, rfl, rfl, rfl, rfl, rfl, rfl, rfl, rfl, rfl, rfl, rfl, rfl, rfl, rfl, rfl, rfl, rfl, rfl, rfl, rfl, rfl, rfl, rfl, rfl, rfl, rfl, rfl, rfl, rfl, rfl, rfl, rfl, rfl, rfl, rfl, rfl, rfl, rfl, rfl, rfl, rfl, rfl, rfl, rfl, rfl, rfl, rfl, rfl, rfl, rfl, rfl, rfl, rfl, rfl, rfl, rfl, rfl, rfl, rfl, rfl, rfl, rfl, rfl, rfl, rfl, rfl, rfl, rfl, rfl, rfl, rfl, rfl, rfl, rfl, rfl, rfl, rfl, rfl, rfl, rfl, rfl, rfl, rfl, rfl, rfl, rfl, rfl, rfl, rfl, rfl, rfl, rfl⟩
end Go.Proofs.Ytmiibjncomgneaa
