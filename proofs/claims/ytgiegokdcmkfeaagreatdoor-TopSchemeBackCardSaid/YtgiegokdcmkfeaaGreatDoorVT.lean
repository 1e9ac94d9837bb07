/-
  The executor's table of this program's types, proved. Written by gen_t.py.
-/
import Derived.Test.YtgiegokdcmkfeaaGreatDoorVLib
import Derived.Test.YtgiegokdcmkfeaaGreatDoorVTabA
import Derived.Test.YtgiegokdcmkfeaaGreatDoorProg
import Derived.KernelRfl
namespace Go.Proofs.YtgiegokdcmkfeaaGreatDoor
open Go Go.Vx
set_option linter.unusedSimpArgs false
def Tt : Tab := [
  (1, ⟨1, [.nilFunc], .scalar, 0⟩),
  (2, ⟨1, [.int .i64 0], .int .i64, 0⟩),
  (3, ⟨1, [.int .i64 0], .int .i64, 0⟩),
  (4, ⟨1, [.bool false], .scalar, 0⟩),
  (5, ⟨1, [.int .u8 0], .int .u8, 0⟩),
  (6, ⟨1, [.int .u8 0], .int .u8, 0⟩),
  (7, ⟨4, [.int .i64 0, .int .i64 0, .bool false, .int .u8 0], .st [(0, 1), (1, 1), (2, 1), (3, 1)], 0⟩),
  (8, ⟨4, [.int .i64 0, .int .i64 0, .bool false, .int .u8 0], .st [(0, 1), (1, 1), (2, 1), (3, 1)], 0⟩),
  (9, ⟨1, [.string ⟨#[]⟩], .str, 0⟩),
  (10, ⟨1, [.string ⟨#[]⟩], .str, 0⟩),
  (11, ⟨1, [.string ⟨#[]⟩], .str, 0⟩),
  (12, ⟨1, [.int .u64 0], .int .u64, 0⟩),
  (13, ⟨2, [.string ⟨#[]⟩, .int .u64 0], .st [(0, 1), (1, 1)], 0⟩),
  (14, ⟨2, [.string ⟨#[]⟩, .int .u64 0], .st [(0, 1), (1, 1)], 0⟩),
  (15, ⟨1, [.pointer none], .scalar, 0⟩),
  (16, ⟨1, [.pointer none], .scalar, 0⟩),
  (17, ⟨1, [.pointer none], .scalar, 0⟩),
  (18, ⟨1, [.pointer none], .st [(0, 1)], 0⟩),
  (19, ⟨1, [.pointer none], .st [(0, 1)], 0⟩),
  (20, ⟨1, [.nilIface], .ifc, 0⟩),
  (21, ⟨1, [.int .i32 0], .int .i32, 0⟩),
  (22, ⟨2, [.int .i64 0, .int .i64 0], .arr 2 3 1, 2⟩),
  (23, ⟨1, [.slice none 0 0], .sl 65 2 16 [.int .i64 0, .int .i64 0], 0⟩),
  (24, ⟨1, [.nilFunc], .scalar, 0⟩),
  (26, ⟨1, [.nilFunc], .scalar, 0⟩),
  (27, ⟨1, [.slice none 0 0], .sl 63 4 32 [.int .i64 0, .int .i64 0, .int .i64 0, .int .i64 0], 0⟩),
  (28, ⟨3, [.int .i64 0, .int .i64 0, .slice none 0 0], .st [(0, 1), (1, 1), (2, 1)], 0⟩),
  (29, ⟨3, [.int .i64 0, .int .i64 0, .slice none 0 0], .st [(0, 1), (1, 1), (2, 1)], 0⟩),
  (30, ⟨1, [.int .i64 0], .int .i64, 0⟩),
  (32, ⟨1, [.nilFunc], .scalar, 0⟩),
  (34, ⟨1, [.nilFunc], .scalar, 0⟩),
  (35, ⟨1, [.nilFunc], .scalar, 0⟩),
  (37, ⟨1, [.nilFunc], .scalar, 0⟩),
  (39, ⟨1, [.nilFunc], .scalar, 0⟩),
  (40, ⟨1, [.nilFunc], .scalar, 0⟩),
  (41, ⟨1, [.nilFunc], .scalar, 0⟩),
  (42, ⟨1, [.nilFunc], .scalar, 0⟩),
  (43, ⟨1, [.slice none 0 0], .sl 117 2 16 [.int .i64 0, .int .i64 0], 0⟩),
  (44, ⟨3, [.int .i64 0, .int .i64 0, .slice none 0 0], .st [(0, 1), (1, 1), (2, 1)], 0⟩),
  (45, ⟨3, [.int .i64 0, .int .i64 0, .slice none 0 0], .st [(0, 1), (1, 1), (2, 1)], 0⟩),
  (47, ⟨1, [.nilFunc], .scalar, 0⟩),
  (48, ⟨1, [.nilFunc], .scalar, 0⟩),
  (49, ⟨6, [.int .i64 0, .int .i64 0, .slice none 0 0, .int .i64 0, .int .i64 0, .slice none 0 0], .arr 2 29 3, 0⟩),
  (51, ⟨1, [.nilFunc], .scalar, 0⟩),
  (53, ⟨1, [.nilFunc], .scalar, 0⟩),
  (54, ⟨1, [.nilFunc], .scalar, 0⟩),
  (55, ⟨1, [.nilFunc], .scalar, 0⟩),
  (56, ⟨1, [.nilFunc], .scalar, 0⟩),
  (58, ⟨1, [.nilFunc], .scalar, 0⟩),
  (59, ⟨1, [.nilFunc], .scalar, 0⟩),
  (60, ⟨1, [.nilFunc], .scalar, 0⟩),
  (61, ⟨1, [.nilFunc], .scalar, 0⟩),
  (62, ⟨4, [.int .i64 0, .int .i64 0, .int .i64 0, .int .i64 0], .st [(0, 1), (1, 1), (2, 1), (3, 1)], 4⟩),
  (63, ⟨4, [.int .i64 0, .int .i64 0, .int .i64 0, .int .i64 0], .st [(0, 1), (1, 1), (2, 1), (3, 1)], 4⟩),
  (64, ⟨2, [.int .i64 0, .int .i64 0], .st [(0, 1), (1, 1)], 2⟩),
  (65, ⟨2, [.int .i64 0, .int .i64 0], .st [(0, 1), (1, 1)], 2⟩),
  (67, ⟨1, [.nilFunc], .scalar, 0⟩),
  (68, ⟨1, [.nilFunc], .scalar, 0⟩),
  (69, ⟨1, [.nilFunc], .scalar, 0⟩),
  (70, ⟨1, [.slice none 0 0], .sl 163 1 24 [.slice none 0 0], 0⟩),
  (71, ⟨3, [.int .i64 0, .int .i64 0, .slice none 0 0], .st [(0, 1), (1, 1), (2, 1)], 0⟩),
  (72, ⟨3, [.int .i64 0, .int .i64 0, .slice none 0 0], .st [(0, 1), (1, 1), (2, 1)], 0⟩),
  (74, ⟨1, [.nilFunc], .scalar, 0⟩),
  (75, ⟨1, [.slice none 0 0], .sl 79 4 32 [.int .i64 0, .int .i64 0, .int .i64 0, .int .i64 0], 0⟩),
  (77, ⟨1, [.nilFunc], .scalar, 0⟩),
  (78, ⟨4, [.int .i64 0, .int .i64 0, .int .i64 0, .int .i64 0], .st [(0, 1), (1, 1), (2, 1), (3, 1)], 4⟩),
  (79, ⟨4, [.int .i64 0, .int .i64 0, .int .i64 0, .int .i64 0], .st [(0, 1), (1, 1), (2, 1), (3, 1)], 4⟩),
  (80, ⟨1, [.nilFunc], .scalar, 0⟩),
  (81, ⟨1, [.pointer none], .scalar, 0⟩),
  (82, ⟨1, [.slice none 0 0], .sl 5 1 1 [.int .u8 0], 0⟩),
  (83, ⟨2, [.pointer none, .slice none 0 0], .st [(0, 1), (1, 1)], 0⟩),
  (84, ⟨2, [.pointer none, .slice none 0 0], .st [(0, 1), (1, 1)], 0⟩),
  (85, ⟨1, [.nilIface], .ifc, 0⟩),
  (86, ⟨1, [.nilIface], .ifc, 0⟩),
  (88, ⟨1, [.nilFunc], .scalar, 0⟩),
  (89, ⟨1, [.nilFunc], .scalar, 0⟩),
  (90, ⟨1, [.nilFunc], .scalar, 0⟩),
  (91, ⟨1, [.nilFunc], .scalar, 0⟩),
  (92, ⟨1, [.nilFunc], .scalar, 0⟩),
  (93, ⟨1, [.slice none 0 0], .sl 9 1 16 [.string ⟨#[]⟩], 0⟩),
  (94, ⟨1, [.nilFunc], .scalar, 0⟩),
  (95, ⟨1, [.nilFunc], .scalar, 0⟩),
  (96, ⟨1, [.slice none 0 0], .sl 3 1 8 [.int .i64 0], 0⟩),
  (97, ⟨1, [.nilFunc], .scalar, 0⟩),
  (98, ⟨1, [.nilFunc], .scalar, 0⟩),
  (99, ⟨1, [.nilFunc], .scalar, 0⟩),
  (101, ⟨1, [.nilFunc], .scalar, 0⟩),
  (103, ⟨1, [.nilFunc], .scalar, 0⟩),
  (105, ⟨1, [.nilFunc], .scalar, 0⟩),
  (107, ⟨1, [.nilFunc], .scalar, 0⟩),
  (108, ⟨1, [.nilFunc], .scalar, 0⟩),
  (109, ⟨1, [.nilFunc], .scalar, 0⟩),
  (110, ⟨1, [.nilFunc], .scalar, 0⟩),
  (112, ⟨1, [.nilFunc], .scalar, 0⟩),
  (113, ⟨1, [.nilFunc], .scalar, 0⟩),
  (114, ⟨1, [.nilFunc], .scalar, 0⟩),
  (115, ⟨1, [.nilFunc], .scalar, 0⟩),
  (116, ⟨2, [.int .i64 0, .int .i64 0], .st [(0, 1), (1, 1)], 2⟩),
  (117, ⟨2, [.int .i64 0, .int .i64 0], .st [(0, 1), (1, 1)], 2⟩),
  (118, ⟨1, [.nilFunc], .scalar, 0⟩),
  (119, ⟨1, [.nilFunc], .scalar, 0⟩),
  (120, ⟨1, [.nilFunc], .scalar, 0⟩),
  (121, ⟨1, [.nilFunc], .scalar, 0⟩),
  (122, ⟨1, [.nilFunc], .scalar, 0⟩),
  (123, ⟨1, [.nilFunc], .scalar, 0⟩),
  (124, ⟨1, [.nilFunc], .scalar, 0⟩),
  (125, ⟨1, [.nilFunc], .scalar, 0⟩),
  (126, ⟨1, [.slice none 0 0], .sl 133 2 16 [.int .i64 0, .int .i64 0], 0⟩),
  (128, ⟨1, [.nilFunc], .scalar, 0⟩),
  (129, ⟨4, [.int .i64 0, .int .i64 0, .slice none 0 0, .slice none 0 0], .st [(0, 1), (1, 1), (2, 1), (3, 1)], 0⟩),
  (130, ⟨4, [.int .i64 0, .int .i64 0, .slice none 0 0, .slice none 0 0], .st [(0, 1), (1, 1), (2, 1), (3, 1)], 0⟩),
  (131, ⟨1, [.nilFunc], .scalar, 0⟩),
  (132, ⟨2, [.int .i64 0, .int .i64 0], .st [(0, 1), (1, 1)], 2⟩),
  (133, ⟨2, [.int .i64 0, .int .i64 0], .st [(0, 1), (1, 1)], 2⟩),
  (134, ⟨1, [.nilFunc], .scalar, 0⟩),
  (136, ⟨1, [.nilFunc], .scalar, 0⟩),
  (137, ⟨1, [.nilFunc], .scalar, 0⟩),
  (138, ⟨1, [.nilFunc], .scalar, 0⟩),
  (139, ⟨1, [.nilFunc], .scalar, 0⟩),
  (140, ⟨1, [.nilFunc], .scalar, 0⟩),
  (141, ⟨1, [.slice none 0 0], .sl 75 1 24 [.slice none 0 0], 0⟩),
  (142, ⟨3, [.int .i64 0, .int .i64 0, .slice none 0 0], .st [(0, 1), (1, 1), (2, 1)], 0⟩),
  (143, ⟨3, [.int .i64 0, .int .i64 0, .slice none 0 0], .st [(0, 1), (1, 1), (2, 1)], 0⟩),
  (144, ⟨1, [.nilFunc], .scalar, 0⟩),
  (146, ⟨1, [.nilFunc], .scalar, 0⟩),
  (147, ⟨1, [.nilFunc], .scalar, 0⟩),
  (148, ⟨1, [.nilFunc], .scalar, 0⟩),
  (149, ⟨1, [.nilFunc], .scalar, 0⟩),
  (150, ⟨1, [.pointer none], .scalar, 0⟩),
  (151, ⟨1, [.nilFunc], .scalar, 0⟩),
  (152, ⟨1, [.nilFunc], .scalar, 0⟩),
  (153, ⟨1, [.nilFunc], .scalar, 0⟩),
  (154, ⟨1, [.nilFunc], .scalar, 0⟩),
  (156, ⟨1, [.nilFunc], .scalar, 0⟩),
  (157, ⟨1, [.nilFunc], .scalar, 0⟩),
  (158, ⟨1, [.nilFunc], .scalar, 0⟩),
  (159, ⟨1, [.nilFunc], .scalar, 0⟩),
  (160, ⟨1, [.nilFunc], .scalar, 0⟩),
  (161, ⟨1, [.nilFunc], .scalar, 0⟩),
  (162, ⟨1, [.nilFunc], .scalar, 0⟩),
  (163, ⟨1, [.slice none 0 0], .sl 79 4 32 [.int .i64 0, .int .i64 0, .int .i64 0, .int .i64 0], 0⟩),
  (164, ⟨1, [.nilFunc], .scalar, 0⟩),
  (165, ⟨1, [.nilFunc], .scalar, 0⟩),
  (166, ⟨1, [.nilFunc], .scalar, 0⟩),
  (167, ⟨1, [.nilFunc], .scalar, 0⟩),
  (168, ⟨1, [.nilFunc], .scalar, 0⟩),
  (169, ⟨1, [.slice none 0 0], .sl 4 1 1 [.bool false], 0⟩),
  (171, ⟨1, [.nilFunc], .scalar, 0⟩),
  (172, ⟨1, [.nilFunc], .scalar, 0⟩),
  (173, ⟨1, [.nilFunc], .scalar, 0⟩),
  (174, ⟨1, [.nilFunc], .scalar, 0⟩),
  (175, ⟨1, [.nilFunc], .scalar, 0⟩),
  (176, ⟨1, [.nilFunc], .scalar, 0⟩),
  (177, ⟨4, [.int .i64 0, .int .i64 0, .int .i64 0, .int .i64 0], .arr 4 3 1, 4⟩),
  (178, ⟨1, [.nilFunc], .scalar, 0⟩),
  (179, ⟨1, [.nilFunc], .scalar, 0⟩),
  (180, ⟨1, [.nilFunc], .scalar, 0⟩),
  (181, ⟨1, [.nilFunc], .scalar, 0⟩),
  (182, ⟨1, [.nilFunc], .scalar, 0⟩),
  (183, ⟨1, [.nilFunc], .scalar, 0⟩),
  (184, ⟨1, [.nilFunc], .scalar, 0⟩),
  (185, ⟨24, [.int .u8 0, .int .u8 0, .int .u8 0, .int .u8 0, .int .u8 0, .int .u8 0, .int .u8 0, .int .u8 0, .int .u8 0, .int .u8 0, .int .u8 0, .int .u8 0, .int .u8 0, .int .u8 0, .int .u8 0, .int .u8 0, .int .u8 0, .int .u8 0, .int .u8 0, .int .u8 0, .int .u8 0, .int .u8 0, .int .u8 0, .int .u8 0], .arr 24 5 1, 0⟩),
  (186, ⟨1, [.int .u64 0], .int .u64, 0⟩),
  (187, ⟨1, [.nilFunc], .scalar, 0⟩),
  (188, ⟨1, [.nilFunc], .scalar, 0⟩),
  (190, ⟨1, [.nilFunc], .scalar, 0⟩),
  (191, ⟨1, [.nilFunc], .scalar, 0⟩),
  (192, ⟨1, [.int .u64 0], .int .u64, 0⟩),
  (193, ⟨1, [.int .i64 0], .int .i64, 0⟩),
  (195, ⟨1, [.nilFunc], .scalar, 0⟩),
  (196, ⟨1, [.pointer none], .scalar, 0⟩),
  (197, ⟨1, [.nilFunc], .scalar, 0⟩),
  (198, ⟨1, [.nilFunc], .scalar, 0⟩),
  (200, ⟨1, [.nilFunc], .scalar, 0⟩),
  (201, ⟨1, [.nilFunc], .scalar, 0⟩),
  (202, ⟨1, [.nilFunc], .scalar, 0⟩),
  (203, ⟨1, [.nilFunc], .scalar, 0⟩),
  (204, ⟨1, [.nilFunc], .scalar, 0⟩),
  (205, ⟨20, [.int .u64 0, .int .u64 0, .int .u64 0, .int .u64 0, .int .u64 0, .int .u64 0, .int .u64 0, .int .u64 0, .int .u64 0, .int .u64 0, .int .u64 0, .int .u64 0, .int .u64 0, .int .u64 0, .int .u64 0, .int .u64 0, .int .u64 0, .int .u64 0, .int .u64 0, .int .u64 0], .arr 20 186 1, 0⟩),
  (206, ⟨1, [.int .u32 0], .int .u32, 0⟩),
  (208, ⟨1, [.nilFunc], .scalar, 0⟩),
  (210, ⟨1, [.nilFunc], .scalar, 0⟩),
  (212, ⟨1, [.nilFunc], .scalar, 0⟩),
  (213, ⟨1, [.nilFunc], .scalar, 0⟩),
  (214, ⟨3, [.string ⟨#[]⟩, .string ⟨#[]⟩, .nilIface], .st [(0, 1), (1, 1), (2, 1)], 0⟩),
  (215, ⟨3, [.string ⟨#[]⟩, .string ⟨#[]⟩, .nilIface], .st [(0, 1), (1, 1), (2, 1)], 0⟩),
  (216, ⟨1, [.nilFunc], .scalar, 0⟩),
  (217, ⟨1, [.nilFunc], .scalar, 0⟩),
  (218, ⟨1, [.nilFunc], .scalar, 0⟩),
  (219, ⟨1, [.pointer none], .scalar, 0⟩),
  (220, ⟨1, [.string ⟨#[]⟩], .st [(0, 1)], 1000002⟩),
  (221, ⟨1, [.string ⟨#[]⟩], .st [(0, 1)], 1000002⟩),
  (223, ⟨2, [.int .u8 0, .int .u8 0], .st [(0, 1), (1, 1)], 0⟩),
  (224, ⟨2, [.int .u8 0, .int .u8 0], .st [(0, 1), (1, 1)], 0⟩),
  (225, ⟨32, [.int .u8 0, .int .u8 0, .int .u8 0, .int .u8 0, .int .u8 0, .int .u8 0, .int .u8 0, .int .u8 0, .int .u8 0, .int .u8 0, .int .u8 0, .int .u8 0, .int .u8 0, .int .u8 0, .int .u8 0, .int .u8 0, .int .u8 0, .int .u8 0, .int .u8 0, .int .u8 0, .int .u8 0, .int .u8 0, .int .u8 0, .int .u8 0, .int .u8 0, .int .u8 0, .int .u8 0, .int .u8 0, .int .u8 0, .int .u8 0, .int .u8 0, .int .u8 0], .arr 16 224 2, 0⟩),
  (226, ⟨32, [.int .u8 0, .int .u8 0, .int .u8 0, .int .u8 0, .int .u8 0, .int .u8 0, .int .u8 0, .int .u8 0, .int .u8 0, .int .u8 0, .int .u8 0, .int .u8 0, .int .u8 0, .int .u8 0, .int .u8 0, .int .u8 0, .int .u8 0, .int .u8 0, .int .u8 0, .int .u8 0, .int .u8 0, .int .u8 0, .int .u8 0, .int .u8 0, .int .u8 0, .int .u8 0, .int .u8 0, .int .u8 0, .int .u8 0, .int .u8 0, .int .u8 0, .int .u8 0], .arr 32 5 1, 0⟩),
  (227, ⟨64, [.int .u8 0, .int .u8 0, .int .u8 0, .int .u8 0, .int .u8 0, .int .u8 0, .int .u8 0, .int .u8 0, .int .u8 0, .int .u8 0, .int .u8 0, .int .u8 0, .int .u8 0, .int .u8 0, .int .u8 0, .int .u8 0, .int .u8 0, .int .u8 0, .int .u8 0, .int .u8 0, .int .u8 0, .int .u8 0, .int .u8 0, .int .u8 0, .int .u8 0, .int .u8 0, .int .u8 0, .int .u8 0, .int .u8 0, .int .u8 0, .int .u8 0, .int .u8 0, .int .u8 0, .int .u8 0, .int .u8 0, .int .u8 0, .int .u8 0, .int .u8 0, .int .u8 0, .int .u8 0, .int .u8 0, .int .u8 0, .int .u8 0, .int .u8 0, .int .u8 0, .int .u8 0, .int .u8 0, .int .u8 0, .int .u8 0, .int .u8 0, .int .u8 0, .int .u8 0, .int .u8 0, .int .u8 0, .int .u8 0, .int .u8 0, .int .u8 0, .int .u8 0, .int .u8 0, .int .u8 0, .int .u8 0, .int .u8 0, .int .u8 0, .int .u8 0], .arr 64 5 1, 0⟩),
  (228, ⟨4, [.pointer none, .pointer none, .pointer none, .string ⟨#[]⟩], .st [(0, 1), (1, 1), (2, 1), (3, 1)], 0⟩),
  (229, ⟨4, [.pointer none, .pointer none, .pointer none, .string ⟨#[]⟩], .st [(0, 1), (1, 1), (2, 1), (3, 1)], 0⟩),
  (230, ⟨0, [], .arr 0 16 1, 0⟩),
  (233, ⟨1, [.nilFunc], .scalar, 0⟩),
  (234, ⟨1, [.int .u8 0], .int .u8, 0⟩),
  (235, ⟨1, [.int .u8 0], .int .u8, 0⟩),
  (236, ⟨1, [.nilFunc], .scalar, 0⟩),
  (237, ⟨1, [.int .i32 0], .int .i32, 0⟩),
  (238, ⟨1, [.int .i32 0], .int .i32, 0⟩),
  (239, ⟨11, [.int .u64 0, .int .u64 0, .int .u32 0, .int .u8 0, .int .u8 0, .int .u8 0, .int .u8 0, .nilFunc, .pointer none, .int .i32 0, .int .i32 0], .st [(0, 1), (1, 1), (2, 1), (3, 1), (4, 1), (5, 1), (6, 1), (7, 1), (8, 1), (9, 1), (10, 1)], 0⟩),
  (240, ⟨11, [.int .u64 0, .int .u64 0, .int .u32 0, .int .u8 0, .int .u8 0, .int .u8 0, .int .u8 0, .nilFunc, .pointer none, .int .i32 0, .int .i32 0], .st [(0, 1), (1, 1), (2, 1), (3, 1), (4, 1), (5, 1), (6, 1), (7, 1), (8, 1), (9, 1), (10, 1)], 0⟩)]
theorem tok1 : TIok Tryz.prog 1 ⟨1, [.nilFunc], .scalar, 0⟩ := TIok.scalar (z := .nilFunc) (by kernel_rfl) rfl Tryz.underlying1 (by simp) (by simp) (by simp)
theorem tok2 : TIok Tryz.prog 2 ⟨1, [.int .i64 0], .int .i64, 0⟩ := TIok.int (by kernel_rfl) Tryz.underlying2
theorem tok3 : TIok Tryz.prog 3 ⟨1, [.int .i64 0], .int .i64, 0⟩ := TIok.int (by kernel_rfl) Tryz.underlying3
theorem tok4 : TIok Tryz.prog 4 ⟨1, [.bool false], .scalar, 0⟩ := TIok.scalar (z := .bool false) (by kernel_rfl) rfl Tryz.underlying4 (by simp) (by simp) (by simp)
theorem tok5 : TIok Tryz.prog 5 ⟨1, [.int .u8 0], .int .u8, 0⟩ := TIok.int (by kernel_rfl) Tryz.underlying5
theorem tok6 : TIok Tryz.prog 6 ⟨1, [.int .u8 0], .int .u8, 0⟩ := TIok.int (by kernel_rfl) Tryz.underlying6
theorem tok7 : TIok Tryz.prog 7 ⟨4, [.int .i64 0, .int .i64 0, .bool false, .int .u8 0], .st [(0, 1), (1, 1), (2, 1), (3, 1)], 0⟩ := TIok.st (z := .agg #[.int .i64 0, .int .i64 0, .bool false, .int .u8 0]) (by kernel_rfl) rfl Tryz.underlying7 ⟨rfl, (by kernel_rfl), (by decide), rfl, (by kernel_rfl), (by decide), rfl, (by kernel_rfl), (by decide), rfl, (by kernel_rfl), (by decide), trivial⟩ (fun h => absurd rfl h) (fun h => absurd rfl h)
theorem tok8 : TIok Tryz.prog 8 ⟨4, [.int .i64 0, .int .i64 0, .bool false, .int .u8 0], .st [(0, 1), (1, 1), (2, 1), (3, 1)], 0⟩ := TIok.st (z := .agg #[.int .i64 0, .int .i64 0, .bool false, .int .u8 0]) (by kernel_rfl) rfl Tryz.underlying8 ⟨rfl, (by kernel_rfl), (by decide), rfl, (by kernel_rfl), (by decide), rfl, (by kernel_rfl), (by decide), rfl, (by kernel_rfl), (by decide), trivial⟩ (fun h => absurd rfl h) (fun h => absurd rfl h)
theorem tok9 : TIok Tryz.prog 9 ⟨1, [.string ⟨#[]⟩], .str, 0⟩ := TIok.str (by kernel_rfl) Tryz.underlying9
theorem tok10 : TIok Tryz.prog 10 ⟨1, [.string ⟨#[]⟩], .str, 0⟩ := TIok.str (by kernel_rfl) Tryz.underlying10
theorem tok11 : TIok Tryz.prog 11 ⟨1, [.string ⟨#[]⟩], .str, 0⟩ := TIok.str (by kernel_rfl) Tryz.underlying11
theorem tok12 : TIok Tryz.prog 12 ⟨1, [.int .u64 0], .int .u64, 0⟩ := TIok.int (by kernel_rfl) Tryz.underlying12
theorem tok13 : TIok Tryz.prog 13 ⟨2, [.string ⟨#[]⟩, .int .u64 0], .st [(0, 1), (1, 1)], 0⟩ := TIok.st (z := .agg #[.string ⟨#[]⟩, .int .u64 0]) (by kernel_rfl) rfl Tryz.underlying13 ⟨rfl, (by kernel_rfl), (by decide), rfl, (by kernel_rfl), (by decide), trivial⟩ (fun h => absurd rfl h) (fun h => absurd rfl h)
theorem tok14 : TIok Tryz.prog 14 ⟨2, [.string ⟨#[]⟩, .int .u64 0], .st [(0, 1), (1, 1)], 0⟩ := TIok.st (z := .agg #[.string ⟨#[]⟩, .int .u64 0]) (by kernel_rfl) rfl Tryz.underlying14 ⟨rfl, (by kernel_rfl), (by decide), rfl, (by kernel_rfl), (by decide), trivial⟩ (fun h => absurd rfl h) (fun h => absurd rfl h)
theorem tok15 : TIok Tryz.prog 15 ⟨1, [.pointer none], .scalar, 0⟩ := TIok.scalar (z := .pointer none) (by kernel_rfl) rfl Tryz.underlying15 (by simp) (by simp) (by simp)
theorem tok16 : TIok Tryz.prog 16 ⟨1, [.pointer none], .scalar, 0⟩ := TIok.scalar (z := .pointer none) (by kernel_rfl) rfl Tryz.underlying16 (by simp) (by simp) (by simp)
theorem tok17 : TIok Tryz.prog 17 ⟨1, [.pointer none], .scalar, 0⟩ := TIok.scalar (z := .pointer none) (by kernel_rfl) rfl Tryz.underlying17 (by simp) (by simp) (by simp)
theorem tok18 : TIok Tryz.prog 18 ⟨1, [.pointer none], .st [(0, 1)], 0⟩ := TIok.st (z := .agg #[.pointer none]) (by kernel_rfl) rfl Tryz.underlying18 ⟨rfl, (by kernel_rfl), (by decide), trivial⟩ (fun h => absurd rfl h) (fun h => absurd rfl h)
theorem tok19 : TIok Tryz.prog 19 ⟨1, [.pointer none], .st [(0, 1)], 0⟩ := TIok.st (z := .agg #[.pointer none]) (by kernel_rfl) rfl Tryz.underlying19 ⟨rfl, (by kernel_rfl), (by decide), trivial⟩ (fun h => absurd rfl h) (fun h => absurd rfl h)
theorem tok20 : TIok Tryz.prog 20 ⟨1, [.nilIface], .ifc, 0⟩ := TIok.ifc (by kernel_rfl) Tryz.underlying20
theorem tok21 : TIok Tryz.prog 21 ⟨1, [.int .i32 0], .int .i32, 0⟩ := TIok.int (by kernel_rfl) Tryz.underlying21
theorem tok22 : TIok Tryz.prog 22 ⟨2, [.int .i64 0, .int .i64 0], .arr 2 3 1, 2⟩ := TIok.arrE (z := .agg #[.int .i64 0, .int .i64 0]) (by kernel_rfl) rfl Tryz.underlying22 (by kernel_rfl) rfl Tryz.eqGuardType22 (PartEq.int Tryz.underlying3)
theorem tok23 : TIok Tryz.prog 23 ⟨1, [.slice none 0 0], .sl 65 2 16 [.int .i64 0, .int .i64 0], 0⟩ := TIok.sl (z := .agg #[.int .i64 0, .int .i64 0]) (by kernel_rfl) Tryz.underlying23 (by kernel_rfl) rfl (by decide) (by decide) rfl rfl
theorem tok24 : TIok Tryz.prog 24 ⟨1, [.nilFunc], .scalar, 0⟩ := TIok.scalar (z := .nilFunc) (by kernel_rfl) rfl Tryz.underlying24 (by simp) (by simp) (by simp)
theorem tok26 : TIok Tryz.prog 26 ⟨1, [.nilFunc], .scalar, 0⟩ := TIok.scalar (z := .nilFunc) (by kernel_rfl) rfl Tryz.underlying26 (by simp) (by simp) (by simp)
theorem tok27 : TIok Tryz.prog 27 ⟨1, [.slice none 0 0], .sl 63 4 32 [.int .i64 0, .int .i64 0, .int .i64 0, .int .i64 0], 0⟩ := TIok.sl (z := .agg #[.int .i64 0, .int .i64 0, .int .i64 0, .int .i64 0]) (by kernel_rfl) Tryz.underlying27 (by kernel_rfl) rfl (by decide) (by decide) rfl rfl
theorem tok28 : TIok Tryz.prog 28 ⟨3, [.int .i64 0, .int .i64 0, .slice none 0 0], .st [(0, 1), (1, 1), (2, 1)], 0⟩ := TIok.st (z := .agg #[.int .i64 0, .int .i64 0, .slice none 0 0]) (by kernel_rfl) rfl Tryz.underlying28 ⟨rfl, (by kernel_rfl), (by decide), rfl, (by kernel_rfl), (by decide), rfl, (by kernel_rfl), (by decide), trivial⟩ (fun h => absurd rfl h) (fun h => absurd rfl h)
theorem tok29 : TIok Tryz.prog 29 ⟨3, [.int .i64 0, .int .i64 0, .slice none 0 0], .st [(0, 1), (1, 1), (2, 1)], 0⟩ := TIok.st (z := .agg #[.int .i64 0, .int .i64 0, .slice none 0 0]) (by kernel_rfl) rfl Tryz.underlying29 ⟨rfl, (by kernel_rfl), (by decide), rfl, (by kernel_rfl), (by decide), rfl, (by kernel_rfl), (by decide), trivial⟩ (fun h => absurd rfl h) (fun h => absurd rfl h)
theorem tok30 : TIok Tryz.prog 30 ⟨1, [.int .i64 0], .int .i64, 0⟩ := TIok.int (by kernel_rfl) Tryz.underlying30
theorem tok32 : TIok Tryz.prog 32 ⟨1, [.nilFunc], .scalar, 0⟩ := TIok.scalar (z := .nilFunc) (by kernel_rfl) rfl Tryz.underlying32 (by simp) (by simp) (by simp)
theorem tok34 : TIok Tryz.prog 34 ⟨1, [.nilFunc], .scalar, 0⟩ := TIok.scalar (z := .nilFunc) (by kernel_rfl) rfl Tryz.underlying34 (by simp) (by simp) (by simp)
theorem tok35 : TIok Tryz.prog 35 ⟨1, [.nilFunc], .scalar, 0⟩ := TIok.scalar (z := .nilFunc) (by kernel_rfl) rfl Tryz.underlying35 (by simp) (by simp) (by simp)
theorem tok37 : TIok Tryz.prog 37 ⟨1, [.nilFunc], .scalar, 0⟩ := TIok.scalar (z := .nilFunc) (by kernel_rfl) rfl Tryz.underlying37 (by simp) (by simp) (by simp)
theorem tok39 : TIok Tryz.prog 39 ⟨1, [.nilFunc], .scalar, 0⟩ := TIok.scalar (z := .nilFunc) (by kernel_rfl) rfl Tryz.underlying39 (by simp) (by simp) (by simp)
theorem tok40 : TIok Tryz.prog 40 ⟨1, [.nilFunc], .scalar, 0⟩ := TIok.scalar (z := .nilFunc) (by kernel_rfl) rfl Tryz.underlying40 (by simp) (by simp) (by simp)
theorem tok41 : TIok Tryz.prog 41 ⟨1, [.nilFunc], .scalar, 0⟩ := TIok.scalar (z := .nilFunc) (by kernel_rfl) rfl Tryz.underlying41 (by simp) (by simp) (by simp)
theorem tok42 : TIok Tryz.prog 42 ⟨1, [.nilFunc], .scalar, 0⟩ := TIok.scalar (z := .nilFunc) (by kernel_rfl) rfl Tryz.underlying42 (by simp) (by simp) (by simp)
theorem tok43 : TIok Tryz.prog 43 ⟨1, [.slice none 0 0], .sl 117 2 16 [.int .i64 0, .int .i64 0], 0⟩ := TIok.sl (z := .agg #[.int .i64 0, .int .i64 0]) (by kernel_rfl) Tryz.underlying43 (by kernel_rfl) rfl (by decide) (by decide) rfl rfl
theorem tok44 : TIok Tryz.prog 44 ⟨3, [.int .i64 0, .int .i64 0, .slice none 0 0], .st [(0, 1), (1, 1), (2, 1)], 0⟩ := TIok.st (z := .agg #[.int .i64 0, .int .i64 0, .slice none 0 0]) (by kernel_rfl) rfl Tryz.underlying44 ⟨rfl, (by kernel_rfl), (by decide), rfl, (by kernel_rfl), (by decide), rfl, (by kernel_rfl), (by decide), trivial⟩ (fun h => absurd rfl h) (fun h => absurd rfl h)
theorem tok45 : TIok Tryz.prog 45 ⟨3, [.int .i64 0, .int .i64 0, .slice none 0 0], .st [(0, 1), (1, 1), (2, 1)], 0⟩ := TIok.st (z := .agg #[.int .i64 0, .int .i64 0, .slice none 0 0]) (by kernel_rfl) rfl Tryz.underlying45 ⟨rfl, (by kernel_rfl), (by decide), rfl, (by kernel_rfl), (by decide), rfl, (by kernel_rfl), (by decide), trivial⟩ (fun h => absurd rfl h) (fun h => absurd rfl h)
theorem tok47 : TIok Tryz.prog 47 ⟨1, [.nilFunc], .scalar, 0⟩ := TIok.scalar (z := .nilFunc) (by kernel_rfl) rfl Tryz.underlying47 (by simp) (by simp) (by simp)
theorem tok48 : TIok Tryz.prog 48 ⟨1, [.nilFunc], .scalar, 0⟩ := TIok.scalar (z := .nilFunc) (by kernel_rfl) rfl Tryz.underlying48 (by simp) (by simp) (by simp)
theorem tok49 : TIok Tryz.prog 49 ⟨6, [.int .i64 0, .int .i64 0, .slice none 0 0, .int .i64 0, .int .i64 0, .slice none 0 0], .arr 2 29 3, 0⟩ := TIok.arr (z := .agg #[.int .i64 0, .int .i64 0, .slice none 0 0, .int .i64 0, .int .i64 0, .slice none 0 0]) (by kernel_rfl) rfl Tryz.underlying49 (by kernel_rfl)
theorem tok51 : TIok Tryz.prog 51 ⟨1, [.nilFunc], .scalar, 0⟩ := TIok.scalar (z := .nilFunc) (by kernel_rfl) rfl Tryz.underlying51 (by simp) (by simp) (by simp)
theorem tok53 : TIok Tryz.prog 53 ⟨1, [.nilFunc], .scalar, 0⟩ := TIok.scalar (z := .nilFunc) (by kernel_rfl) rfl Tryz.underlying53 (by simp) (by simp) (by simp)
theorem tok54 : TIok Tryz.prog 54 ⟨1, [.nilFunc], .scalar, 0⟩ := TIok.scalar (z := .nilFunc) (by kernel_rfl) rfl Tryz.underlying54 (by simp) (by simp) (by simp)
theorem tok55 : TIok Tryz.prog 55 ⟨1, [.nilFunc], .scalar, 0⟩ := TIok.scalar (z := .nilFunc) (by kernel_rfl) rfl Tryz.underlying55 (by simp) (by simp) (by simp)
theorem tok56 : TIok Tryz.prog 56 ⟨1, [.nilFunc], .scalar, 0⟩ := TIok.scalar (z := .nilFunc) (by kernel_rfl) rfl Tryz.underlying56 (by simp) (by simp) (by simp)
theorem tok58 : TIok Tryz.prog 58 ⟨1, [.nilFunc], .scalar, 0⟩ := TIok.scalar (z := .nilFunc) (by kernel_rfl) rfl Tryz.underlying58 (by simp) (by simp) (by simp)
theorem tok59 : TIok Tryz.prog 59 ⟨1, [.nilFunc], .scalar, 0⟩ := TIok.scalar (z := .nilFunc) (by kernel_rfl) rfl Tryz.underlying59 (by simp) (by simp) (by simp)
theorem tok60 : TIok Tryz.prog 60 ⟨1, [.nilFunc], .scalar, 0⟩ := TIok.scalar (z := .nilFunc) (by kernel_rfl) rfl Tryz.underlying60 (by simp) (by simp) (by simp)
theorem tok61 : TIok Tryz.prog 61 ⟨1, [.nilFunc], .scalar, 0⟩ := TIok.scalar (z := .nilFunc) (by kernel_rfl) rfl Tryz.underlying61 (by simp) (by simp) (by simp)
theorem tok62 : TIok Tryz.prog 62 ⟨4, [.int .i64 0, .int .i64 0, .int .i64 0, .int .i64 0], .st [(0, 1), (1, 1), (2, 1), (3, 1)], 4⟩ := TIok.st (z := .agg #[.int .i64 0, .int .i64 0, .int .i64 0, .int .i64 0]) (by kernel_rfl) rfl Tryz.underlying62 ⟨rfl, (by kernel_rfl), (by decide), rfl, (by kernel_rfl), (by decide), rfl, (by kernel_rfl), (by decide), rfl, (by kernel_rfl), (by decide), trivial⟩ (fun _ => EqOk.up (EqOk.of Tryz.underlying62 Tryz.eqGuardType62 Tryz.stoodInHeld62 (by simp [Tryz.underlying3]) rfl)) (fun _ => ScOk.of Tryz.underlying62 (by simp [Tryz.underlying3]))
theorem tok63 : TIok Tryz.prog 63 ⟨4, [.int .i64 0, .int .i64 0, .int .i64 0, .int .i64 0], .st [(0, 1), (1, 1), (2, 1), (3, 1)], 4⟩ := TIok.st (z := .agg #[.int .i64 0, .int .i64 0, .int .i64 0, .int .i64 0]) (by kernel_rfl) rfl Tryz.underlying63 ⟨rfl, (by kernel_rfl), (by decide), rfl, (by kernel_rfl), (by decide), rfl, (by kernel_rfl), (by decide), rfl, (by kernel_rfl), (by decide), trivial⟩ (fun _ => EqOk.up (EqOk.of Tryz.underlying63 Tryz.eqGuardType63 Tryz.stoodInHeld63 (by simp [Tryz.underlying3]) rfl)) (fun _ => ScOk.of Tryz.underlying63 (by simp [Tryz.underlying3]))
theorem tok64 : TIok Tryz.prog 64 ⟨2, [.int .i64 0, .int .i64 0], .st [(0, 1), (1, 1)], 2⟩ := TIok.st (z := .agg #[.int .i64 0, .int .i64 0]) (by kernel_rfl) rfl Tryz.underlying64 ⟨rfl, (by kernel_rfl), (by decide), rfl, (by kernel_rfl), (by decide), trivial⟩ (fun _ => EqOk.up (EqOk.of Tryz.underlying64 Tryz.eqGuardType64 Tryz.stoodInHeld64 (by simp [Tryz.underlying3]) rfl)) (fun _ => ScOk.of Tryz.underlying64 (by simp [Tryz.underlying3]))
theorem tok65 : TIok Tryz.prog 65 ⟨2, [.int .i64 0, .int .i64 0], .st [(0, 1), (1, 1)], 2⟩ := TIok.st (z := .agg #[.int .i64 0, .int .i64 0]) (by kernel_rfl) rfl Tryz.underlying65 ⟨rfl, (by kernel_rfl), (by decide), rfl, (by kernel_rfl), (by decide), trivial⟩ (fun _ => EqOk.up (EqOk.of Tryz.underlying65 Tryz.eqGuardType65 Tryz.stoodInHeld65 (by simp [Tryz.underlying3]) rfl)) (fun _ => ScOk.of Tryz.underlying65 (by simp [Tryz.underlying3]))
theorem tok67 : TIok Tryz.prog 67 ⟨1, [.nilFunc], .scalar, 0⟩ := TIok.scalar (z := .nilFunc) (by kernel_rfl) rfl Tryz.underlying67 (by simp) (by simp) (by simp)
theorem tok68 : TIok Tryz.prog 68 ⟨1, [.nilFunc], .scalar, 0⟩ := TIok.scalar (z := .nilFunc) (by kernel_rfl) rfl Tryz.underlying68 (by simp) (by simp) (by simp)
theorem tok69 : TIok Tryz.prog 69 ⟨1, [.nilFunc], .scalar, 0⟩ := TIok.scalar (z := .nilFunc) (by kernel_rfl) rfl Tryz.underlying69 (by simp) (by simp) (by simp)
theorem tok70 : TIok Tryz.prog 70 ⟨1, [.slice none 0 0], .sl 163 1 24 [.slice none 0 0], 0⟩ := TIok.sl (z := .slice none 0 0) (by kernel_rfl) Tryz.underlying70 (by kernel_rfl) rfl (by decide) (by decide) rfl rfl
theorem tok71 : TIok Tryz.prog 71 ⟨3, [.int .i64 0, .int .i64 0, .slice none 0 0], .st [(0, 1), (1, 1), (2, 1)], 0⟩ := TIok.st (z := .agg #[.int .i64 0, .int .i64 0, .slice none 0 0]) (by kernel_rfl) rfl Tryz.underlying71 ⟨rfl, (by kernel_rfl), (by decide), rfl, (by kernel_rfl), (by decide), rfl, (by kernel_rfl), (by decide), trivial⟩ (fun h => absurd rfl h) (fun h => absurd rfl h)
theorem tok72 : TIok Tryz.prog 72 ⟨3, [.int .i64 0, .int .i64 0, .slice none 0 0], .st [(0, 1), (1, 1), (2, 1)], 0⟩ := TIok.st (z := .agg #[.int .i64 0, .int .i64 0, .slice none 0 0]) (by kernel_rfl) rfl Tryz.underlying72 ⟨rfl, (by kernel_rfl), (by decide), rfl, (by kernel_rfl), (by decide), rfl, (by kernel_rfl), (by decide), trivial⟩ (fun h => absurd rfl h) (fun h => absurd rfl h)
theorem tok74 : TIok Tryz.prog 74 ⟨1, [.nilFunc], .scalar, 0⟩ := TIok.scalar (z := .nilFunc) (by kernel_rfl) rfl Tryz.underlying74 (by simp) (by simp) (by simp)
theorem tok75 : TIok Tryz.prog 75 ⟨1, [.slice none 0 0], .sl 79 4 32 [.int .i64 0, .int .i64 0, .int .i64 0, .int .i64 0], 0⟩ := TIok.sl (z := .agg #[.int .i64 0, .int .i64 0, .int .i64 0, .int .i64 0]) (by kernel_rfl) Tryz.underlying75 (by kernel_rfl) rfl (by decide) (by decide) rfl rfl
theorem tok77 : TIok Tryz.prog 77 ⟨1, [.nilFunc], .scalar, 0⟩ := TIok.scalar (z := .nilFunc) (by kernel_rfl) rfl Tryz.underlying77 (by simp) (by simp) (by simp)
theorem tok78 : TIok Tryz.prog 78 ⟨4, [.int .i64 0, .int .i64 0, .int .i64 0, .int .i64 0], .st [(0, 1), (1, 1), (2, 1), (3, 1)], 4⟩ := TIok.st (z := .agg #[.int .i64 0, .int .i64 0, .int .i64 0, .int .i64 0]) (by kernel_rfl) rfl Tryz.underlying78 ⟨rfl, (by kernel_rfl), (by decide), rfl, (by kernel_rfl), (by decide), rfl, (by kernel_rfl), (by decide), rfl, (by kernel_rfl), (by decide), trivial⟩ (fun _ => EqOk.up (EqOk.of Tryz.underlying78 Tryz.eqGuardType78 Tryz.stoodInHeld78 (by simp [Tryz.underlying3]) rfl)) (fun _ => ScOk.of Tryz.underlying78 (by simp [Tryz.underlying3]))
theorem tok79 : TIok Tryz.prog 79 ⟨4, [.int .i64 0, .int .i64 0, .int .i64 0, .int .i64 0], .st [(0, 1), (1, 1), (2, 1), (3, 1)], 4⟩ := TIok.st (z := .agg #[.int .i64 0, .int .i64 0, .int .i64 0, .int .i64 0]) (by kernel_rfl) rfl Tryz.underlying79 ⟨rfl, (by kernel_rfl), (by decide), rfl, (by kernel_rfl), (by decide), rfl, (by kernel_rfl), (by decide), rfl, (by kernel_rfl), (by decide), trivial⟩ (fun _ => EqOk.up (EqOk.of Tryz.underlying79 Tryz.eqGuardType79 Tryz.stoodInHeld79 (by simp [Tryz.underlying3]) rfl)) (fun _ => ScOk.of Tryz.underlying79 (by simp [Tryz.underlying3]))
theorem tok80 : TIok Tryz.prog 80 ⟨1, [.nilFunc], .scalar, 0⟩ := TIok.scalar (z := .nilFunc) (by kernel_rfl) rfl Tryz.underlying80 (by simp) (by simp) (by simp)
theorem tok81 : TIok Tryz.prog 81 ⟨1, [.pointer none], .scalar, 0⟩ := TIok.scalar (z := .pointer none) (by kernel_rfl) rfl Tryz.underlying81 (by simp) (by simp) (by simp)
theorem tok82 : TIok Tryz.prog 82 ⟨1, [.slice none 0 0], .sl 5 1 1 [.int .u8 0], 0⟩ := TIok.sl (z := .int .u8 0) (by kernel_rfl) Tryz.underlying82 (by kernel_rfl) rfl (by decide) (by decide) rfl rfl
theorem tok83 : TIok Tryz.prog 83 ⟨2, [.pointer none, .slice none 0 0], .st [(0, 1), (1, 1)], 0⟩ := TIok.st (z := .agg #[.pointer none, .slice none 0 0]) (by kernel_rfl) rfl Tryz.underlying83 ⟨rfl, (by kernel_rfl), (by decide), rfl, (by kernel_rfl), (by decide), trivial⟩ (fun h => absurd rfl h) (fun h => absurd rfl h)
theorem tok84 : TIok Tryz.prog 84 ⟨2, [.pointer none, .slice none 0 0], .st [(0, 1), (1, 1)], 0⟩ := TIok.st (z := .agg #[.pointer none, .slice none 0 0]) (by kernel_rfl) rfl Tryz.underlying84 ⟨rfl, (by kernel_rfl), (by decide), rfl, (by kernel_rfl), (by decide), trivial⟩ (fun h => absurd rfl h) (fun h => absurd rfl h)
theorem tok85 : TIok Tryz.prog 85 ⟨1, [.nilIface], .ifc, 0⟩ := TIok.ifc (by kernel_rfl) Tryz.underlying85
theorem tok86 : TIok Tryz.prog 86 ⟨1, [.nilIface], .ifc, 0⟩ := TIok.ifc (by kernel_rfl) Tryz.underlying86
theorem tok88 : TIok Tryz.prog 88 ⟨1, [.nilFunc], .scalar, 0⟩ := TIok.scalar (z := .nilFunc) (by kernel_rfl) rfl Tryz.underlying88 (by simp) (by simp) (by simp)
theorem tok89 : TIok Tryz.prog 89 ⟨1, [.nilFunc], .scalar, 0⟩ := TIok.scalar (z := .nilFunc) (by kernel_rfl) rfl Tryz.underlying89 (by simp) (by simp) (by simp)
theorem tok90 : TIok Tryz.prog 90 ⟨1, [.nilFunc], .scalar, 0⟩ := TIok.scalar (z := .nilFunc) (by kernel_rfl) rfl Tryz.underlying90 (by simp) (by simp) (by simp)
theorem tok91 : TIok Tryz.prog 91 ⟨1, [.nilFunc], .scalar, 0⟩ := TIok.scalar (z := .nilFunc) (by kernel_rfl) rfl Tryz.underlying91 (by simp) (by simp) (by simp)
theorem tok92 : TIok Tryz.prog 92 ⟨1, [.nilFunc], .scalar, 0⟩ := TIok.scalar (z := .nilFunc) (by kernel_rfl) rfl Tryz.underlying92 (by simp) (by simp) (by simp)
theorem tok93 : TIok Tryz.prog 93 ⟨1, [.slice none 0 0], .sl 9 1 16 [.string ⟨#[]⟩], 0⟩ := TIok.sl (z := .string ⟨#[]⟩) (by kernel_rfl) Tryz.underlying93 (by kernel_rfl) rfl (by decide) (by decide) rfl rfl
theorem tok94 : TIok Tryz.prog 94 ⟨1, [.nilFunc], .scalar, 0⟩ := TIok.scalar (z := .nilFunc) (by kernel_rfl) rfl Tryz.underlying94 (by simp) (by simp) (by simp)
theorem tok95 : TIok Tryz.prog 95 ⟨1, [.nilFunc], .scalar, 0⟩ := TIok.scalar (z := .nilFunc) (by kernel_rfl) rfl Tryz.underlying95 (by simp) (by simp) (by simp)
theorem tok96 : TIok Tryz.prog 96 ⟨1, [.slice none 0 0], .sl 3 1 8 [.int .i64 0], 0⟩ := TIok.sl (z := .int .i64 0) (by kernel_rfl) Tryz.underlying96 (by kernel_rfl) rfl (by decide) (by decide) rfl rfl
theorem tok97 : TIok Tryz.prog 97 ⟨1, [.nilFunc], .scalar, 0⟩ := TIok.scalar (z := .nilFunc) (by kernel_rfl) rfl Tryz.underlying97 (by simp) (by simp) (by simp)
theorem tok98 : TIok Tryz.prog 98 ⟨1, [.nilFunc], .scalar, 0⟩ := TIok.scalar (z := .nilFunc) (by kernel_rfl) rfl Tryz.underlying98 (by simp) (by simp) (by simp)
theorem tok99 : TIok Tryz.prog 99 ⟨1, [.nilFunc], .scalar, 0⟩ := TIok.scalar (z := .nilFunc) (by kernel_rfl) rfl Tryz.underlying99 (by simp) (by simp) (by simp)
theorem tok101 : TIok Tryz.prog 101 ⟨1, [.nilFunc], .scalar, 0⟩ := TIok.scalar (z := .nilFunc) (by kernel_rfl) rfl Tryz.underlying101 (by simp) (by simp) (by simp)
theorem tok103 : TIok Tryz.prog 103 ⟨1, [.nilFunc], .scalar, 0⟩ := TIok.scalar (z := .nilFunc) (by kernel_rfl) rfl Tryz.underlying103 (by simp) (by simp) (by simp)
theorem tok105 : TIok Tryz.prog 105 ⟨1, [.nilFunc], .scalar, 0⟩ := TIok.scalar (z := .nilFunc) (by kernel_rfl) rfl Tryz.underlying105 (by simp) (by simp) (by simp)
theorem tok107 : TIok Tryz.prog 107 ⟨1, [.nilFunc], .scalar, 0⟩ := TIok.scalar (z := .nilFunc) (by kernel_rfl) rfl Tryz.underlying107 (by simp) (by simp) (by simp)
theorem tok108 : TIok Tryz.prog 108 ⟨1, [.nilFunc], .scalar, 0⟩ := TIok.scalar (z := .nilFunc) (by kernel_rfl) rfl Tryz.underlying108 (by simp) (by simp) (by simp)
theorem tok109 : TIok Tryz.prog 109 ⟨1, [.nilFunc], .scalar, 0⟩ := TIok.scalar (z := .nilFunc) (by kernel_rfl) rfl Tryz.underlying109 (by simp) (by simp) (by simp)
theorem tok110 : TIok Tryz.prog 110 ⟨1, [.nilFunc], .scalar, 0⟩ := TIok.scalar (z := .nilFunc) (by kernel_rfl) rfl Tryz.underlying110 (by simp) (by simp) (by simp)
theorem tok112 : TIok Tryz.prog 112 ⟨1, [.nilFunc], .scalar, 0⟩ := TIok.scalar (z := .nilFunc) (by kernel_rfl) rfl Tryz.underlying112 (by simp) (by simp) (by simp)
theorem tok113 : TIok Tryz.prog 113 ⟨1, [.nilFunc], .scalar, 0⟩ := TIok.scalar (z := .nilFunc) (by kernel_rfl) rfl Tryz.underlying113 (by simp) (by simp) (by simp)
theorem tok114 : TIok Tryz.prog 114 ⟨1, [.nilFunc], .scalar, 0⟩ := TIok.scalar (z := .nilFunc) (by kernel_rfl) rfl Tryz.underlying114 (by simp) (by simp) (by simp)
theorem tok115 : TIok Tryz.prog 115 ⟨1, [.nilFunc], .scalar, 0⟩ := TIok.scalar (z := .nilFunc) (by kernel_rfl) rfl Tryz.underlying115 (by simp) (by simp) (by simp)
theorem tok116 : TIok Tryz.prog 116 ⟨2, [.int .i64 0, .int .i64 0], .st [(0, 1), (1, 1)], 2⟩ := TIok.st (z := .agg #[.int .i64 0, .int .i64 0]) (by kernel_rfl) rfl Tryz.underlying116 ⟨rfl, (by kernel_rfl), (by decide), rfl, (by kernel_rfl), (by decide), trivial⟩ (fun _ => EqOk.up (EqOk.of Tryz.underlying116 Tryz.eqGuardType116 Tryz.stoodInHeld116 (by simp [Tryz.underlying3]) rfl)) (fun _ => ScOk.of Tryz.underlying116 (by simp [Tryz.underlying3]))
theorem tok117 : TIok Tryz.prog 117 ⟨2, [.int .i64 0, .int .i64 0], .st [(0, 1), (1, 1)], 2⟩ := TIok.st (z := .agg #[.int .i64 0, .int .i64 0]) (by kernel_rfl) rfl Tryz.underlying117 ⟨rfl, (by kernel_rfl), (by decide), rfl, (by kernel_rfl), (by decide), trivial⟩ (fun _ => EqOk.up (EqOk.of Tryz.underlying117 Tryz.eqGuardType117 Tryz.stoodInHeld117 (by simp [Tryz.underlying3]) rfl)) (fun _ => ScOk.of Tryz.underlying117 (by simp [Tryz.underlying3]))
theorem tok118 : TIok Tryz.prog 118 ⟨1, [.nilFunc], .scalar, 0⟩ := TIok.scalar (z := .nilFunc) (by kernel_rfl) rfl Tryz.underlying118 (by simp) (by simp) (by simp)
theorem tok119 : TIok Tryz.prog 119 ⟨1, [.nilFunc], .scalar, 0⟩ := TIok.scalar (z := .nilFunc) (by kernel_rfl) rfl Tryz.underlying119 (by simp) (by simp) (by simp)
theorem tok120 : TIok Tryz.prog 120 ⟨1, [.nilFunc], .scalar, 0⟩ := TIok.scalar (z := .nilFunc) (by kernel_rfl) rfl Tryz.underlying120 (by simp) (by simp) (by simp)
theorem tok121 : TIok Tryz.prog 121 ⟨1, [.nilFunc], .scalar, 0⟩ := TIok.scalar (z := .nilFunc) (by kernel_rfl) rfl Tryz.underlying121 (by simp) (by simp) (by simp)
theorem tok122 : TIok Tryz.prog 122 ⟨1, [.nilFunc], .scalar, 0⟩ := TIok.scalar (z := .nilFunc) (by kernel_rfl) rfl Tryz.underlying122 (by simp) (by simp) (by simp)
theorem tok123 : TIok Tryz.prog 123 ⟨1, [.nilFunc], .scalar, 0⟩ := TIok.scalar (z := .nilFunc) (by kernel_rfl) rfl Tryz.underlying123 (by simp) (by simp) (by simp)
theorem tok124 : TIok Tryz.prog 124 ⟨1, [.nilFunc], .scalar, 0⟩ := TIok.scalar (z := .nilFunc) (by kernel_rfl) rfl Tryz.underlying124 (by simp) (by simp) (by simp)
theorem tok125 : TIok Tryz.prog 125 ⟨1, [.nilFunc], .scalar, 0⟩ := TIok.scalar (z := .nilFunc) (by kernel_rfl) rfl Tryz.underlying125 (by simp) (by simp) (by simp)
theorem tok126 : TIok Tryz.prog 126 ⟨1, [.slice none 0 0], .sl 133 2 16 [.int .i64 0, .int .i64 0], 0⟩ := TIok.sl (z := .agg #[.int .i64 0, .int .i64 0]) (by kernel_rfl) Tryz.underlying126 (by kernel_rfl) rfl (by decide) (by decide) rfl rfl
theorem tok128 : TIok Tryz.prog 128 ⟨1, [.nilFunc], .scalar, 0⟩ := TIok.scalar (z := .nilFunc) (by kernel_rfl) rfl Tryz.underlying128 (by simp) (by simp) (by simp)
theorem tok129 : TIok Tryz.prog 129 ⟨4, [.int .i64 0, .int .i64 0, .slice none 0 0, .slice none 0 0], .st [(0, 1), (1, 1), (2, 1), (3, 1)], 0⟩ := TIok.st (z := .agg #[.int .i64 0, .int .i64 0, .slice none 0 0, .slice none 0 0]) (by kernel_rfl) rfl Tryz.underlying129 ⟨rfl, (by kernel_rfl), (by decide), rfl, (by kernel_rfl), (by decide), rfl, (by kernel_rfl), (by decide), rfl, (by kernel_rfl), (by decide), trivial⟩ (fun h => absurd rfl h) (fun h => absurd rfl h)
theorem tok130 : TIok Tryz.prog 130 ⟨4, [.int .i64 0, .int .i64 0, .slice none 0 0, .slice none 0 0], .st [(0, 1), (1, 1), (2, 1), (3, 1)], 0⟩ := TIok.st (z := .agg #[.int .i64 0, .int .i64 0, .slice none 0 0, .slice none 0 0]) (by kernel_rfl) rfl Tryz.underlying130 ⟨rfl, (by kernel_rfl), (by decide), rfl, (by kernel_rfl), (by decide), rfl, (by kernel_rfl), (by decide), rfl, (by kernel_rfl), (by decide), trivial⟩ (fun h => absurd rfl h) (fun h => absurd rfl h)
theorem tok131 : TIok Tryz.prog 131 ⟨1, [.nilFunc], .scalar, 0⟩ := TIok.scalar (z := .nilFunc) (by kernel_rfl) rfl Tryz.underlying131 (by simp) (by simp) (by simp)
theorem tok132 : TIok Tryz.prog 132 ⟨2, [.int .i64 0, .int .i64 0], .st [(0, 1), (1, 1)], 2⟩ := TIok.st (z := .agg #[.int .i64 0, .int .i64 0]) (by kernel_rfl) rfl Tryz.underlying132 ⟨rfl, (by kernel_rfl), (by decide), rfl, (by kernel_rfl), (by decide), trivial⟩ (fun _ => EqOk.up (EqOk.of Tryz.underlying132 Tryz.eqGuardType132 Tryz.stoodInHeld132 (by simp [Tryz.underlying3]) rfl)) (fun _ => ScOk.of Tryz.underlying132 (by simp [Tryz.underlying3]))
theorem tok133 : TIok Tryz.prog 133 ⟨2, [.int .i64 0, .int .i64 0], .st [(0, 1), (1, 1)], 2⟩ := TIok.st (z := .agg #[.int .i64 0, .int .i64 0]) (by kernel_rfl) rfl Tryz.underlying133 ⟨rfl, (by kernel_rfl), (by decide), rfl, (by kernel_rfl), (by decide), trivial⟩ (fun _ => EqOk.up (EqOk.of Tryz.underlying133 Tryz.eqGuardType133 Tryz.stoodInHeld133 (by simp [Tryz.underlying3]) rfl)) (fun _ => ScOk.of Tryz.underlying133 (by simp [Tryz.underlying3]))
theorem tok134 : TIok Tryz.prog 134 ⟨1, [.nilFunc], .scalar, 0⟩ := TIok.scalar (z := .nilFunc) (by kernel_rfl) rfl Tryz.underlying134 (by simp) (by simp) (by simp)
theorem tok136 : TIok Tryz.prog 136 ⟨1, [.nilFunc], .scalar, 0⟩ := TIok.scalar (z := .nilFunc) (by kernel_rfl) rfl Tryz.underlying136 (by simp) (by simp) (by simp)
theorem tok137 : TIok Tryz.prog 137 ⟨1, [.nilFunc], .scalar, 0⟩ := TIok.scalar (z := .nilFunc) (by kernel_rfl) rfl Tryz.underlying137 (by simp) (by simp) (by simp)
theorem tok138 : TIok Tryz.prog 138 ⟨1, [.nilFunc], .scalar, 0⟩ := TIok.scalar (z := .nilFunc) (by kernel_rfl) rfl Tryz.underlying138 (by simp) (by simp) (by simp)
theorem tok139 : TIok Tryz.prog 139 ⟨1, [.nilFunc], .scalar, 0⟩ := TIok.scalar (z := .nilFunc) (by kernel_rfl) rfl Tryz.underlying139 (by simp) (by simp) (by simp)
theorem tok140 : TIok Tryz.prog 140 ⟨1, [.nilFunc], .scalar, 0⟩ := TIok.scalar (z := .nilFunc) (by kernel_rfl) rfl Tryz.underlying140 (by simp) (by simp) (by simp)
theorem tok141 : TIok Tryz.prog 141 ⟨1, [.slice none 0 0], .sl 75 1 24 [.slice none 0 0], 0⟩ := TIok.sl (z := .slice none 0 0) (by kernel_rfl) Tryz.underlying141 (by kernel_rfl) rfl (by decide) (by decide) rfl rfl
theorem tok142 : TIok Tryz.prog 142 ⟨3, [.int .i64 0, .int .i64 0, .slice none 0 0], .st [(0, 1), (1, 1), (2, 1)], 0⟩ := TIok.st (z := .agg #[.int .i64 0, .int .i64 0, .slice none 0 0]) (by kernel_rfl) rfl Tryz.underlying142 ⟨rfl, (by kernel_rfl), (by decide), rfl, (by kernel_rfl), (by decide), rfl, (by kernel_rfl), (by decide), trivial⟩ (fun h => absurd rfl h) (fun h => absurd rfl h)
theorem tok143 : TIok Tryz.prog 143 ⟨3, [.int .i64 0, .int .i64 0, .slice none 0 0], .st [(0, 1), (1, 1), (2, 1)], 0⟩ := TIok.st (z := .agg #[.int .i64 0, .int .i64 0, .slice none 0 0]) (by kernel_rfl) rfl Tryz.underlying143 ⟨rfl, (by kernel_rfl), (by decide), rfl, (by kernel_rfl), (by decide), rfl, (by kernel_rfl), (by decide), trivial⟩ (fun h => absurd rfl h) (fun h => absurd rfl h)
theorem tok144 : TIok Tryz.prog 144 ⟨1, [.nilFunc], .scalar, 0⟩ := TIok.scalar (z := .nilFunc) (by kernel_rfl) rfl Tryz.underlying144 (by simp) (by simp) (by simp)
theorem tok146 : TIok Tryz.prog 146 ⟨1, [.nilFunc], .scalar, 0⟩ := TIok.scalar (z := .nilFunc) (by kernel_rfl) rfl Tryz.underlying146 (by simp) (by simp) (by simp)
theorem tok147 : TIok Tryz.prog 147 ⟨1, [.nilFunc], .scalar, 0⟩ := TIok.scalar (z := .nilFunc) (by kernel_rfl) rfl Tryz.underlying147 (by simp) (by simp) (by simp)
theorem tok148 : TIok Tryz.prog 148 ⟨1, [.nilFunc], .scalar, 0⟩ := TIok.scalar (z := .nilFunc) (by kernel_rfl) rfl Tryz.underlying148 (by simp) (by simp) (by simp)
theorem tok149 : TIok Tryz.prog 149 ⟨1, [.nilFunc], .scalar, 0⟩ := TIok.scalar (z := .nilFunc) (by kernel_rfl) rfl Tryz.underlying149 (by simp) (by simp) (by simp)
theorem tok150 : TIok Tryz.prog 150 ⟨1, [.pointer none], .scalar, 0⟩ := TIok.scalar (z := .pointer none) (by kernel_rfl) rfl Tryz.underlying150 (by simp) (by simp) (by simp)
theorem tok151 : TIok Tryz.prog 151 ⟨1, [.nilFunc], .scalar, 0⟩ := TIok.scalar (z := .nilFunc) (by kernel_rfl) rfl Tryz.underlying151 (by simp) (by simp) (by simp)
theorem tok152 : TIok Tryz.prog 152 ⟨1, [.nilFunc], .scalar, 0⟩ := TIok.scalar (z := .nilFunc) (by kernel_rfl) rfl Tryz.underlying152 (by simp) (by simp) (by simp)
theorem tok153 : TIok Tryz.prog 153 ⟨1, [.nilFunc], .scalar, 0⟩ := TIok.scalar (z := .nilFunc) (by kernel_rfl) rfl Tryz.underlying153 (by simp) (by simp) (by simp)
theorem tok154 : TIok Tryz.prog 154 ⟨1, [.nilFunc], .scalar, 0⟩ := TIok.scalar (z := .nilFunc) (by kernel_rfl) rfl Tryz.underlying154 (by simp) (by simp) (by simp)
theorem tok156 : TIok Tryz.prog 156 ⟨1, [.nilFunc], .scalar, 0⟩ := TIok.scalar (z := .nilFunc) (by kernel_rfl) rfl Tryz.underlying156 (by simp) (by simp) (by simp)
theorem tok157 : TIok Tryz.prog 157 ⟨1, [.nilFunc], .scalar, 0⟩ := TIok.scalar (z := .nilFunc) (by kernel_rfl) rfl Tryz.underlying157 (by simp) (by simp) (by simp)
theorem tok158 : TIok Tryz.prog 158 ⟨1, [.nilFunc], .scalar, 0⟩ := TIok.scalar (z := .nilFunc) (by kernel_rfl) rfl Tryz.underlying158 (by simp) (by simp) (by simp)
theorem tok159 : TIok Tryz.prog 159 ⟨1, [.nilFunc], .scalar, 0⟩ := TIok.scalar (z := .nilFunc) (by kernel_rfl) rfl Tryz.underlying159 (by simp) (by simp) (by simp)
theorem tok160 : TIok Tryz.prog 160 ⟨1, [.nilFunc], .scalar, 0⟩ := TIok.scalar (z := .nilFunc) (by kernel_rfl) rfl Tryz.underlying160 (by simp) (by simp) (by simp)
theorem tok161 : TIok Tryz.prog 161 ⟨1, [.nilFunc], .scalar, 0⟩ := TIok.scalar (z := .nilFunc) (by kernel_rfl) rfl Tryz.underlying161 (by simp) (by simp) (by simp)
theorem tok162 : TIok Tryz.prog 162 ⟨1, [.nilFunc], .scalar, 0⟩ := TIok.scalar (z := .nilFunc) (by kernel_rfl) rfl Tryz.underlying162 (by simp) (by simp) (by simp)
theorem tok163 : TIok Tryz.prog 163 ⟨1, [.slice none 0 0], .sl 79 4 32 [.int .i64 0, .int .i64 0, .int .i64 0, .int .i64 0], 0⟩ := TIok.sl (z := .agg #[.int .i64 0, .int .i64 0, .int .i64 0, .int .i64 0]) (by kernel_rfl) Tryz.underlying163 (by kernel_rfl) rfl (by decide) (by decide) rfl rfl
theorem tok164 : TIok Tryz.prog 164 ⟨1, [.nilFunc], .scalar, 0⟩ := TIok.scalar (z := .nilFunc) (by kernel_rfl) rfl Tryz.underlying164 (by simp) (by simp) (by simp)
theorem tok165 : TIok Tryz.prog 165 ⟨1, [.nilFunc], .scalar, 0⟩ := TIok.scalar (z := .nilFunc) (by kernel_rfl) rfl Tryz.underlying165 (by simp) (by simp) (by simp)
theorem tok166 : TIok Tryz.prog 166 ⟨1, [.nilFunc], .scalar, 0⟩ := TIok.scalar (z := .nilFunc) (by kernel_rfl) rfl Tryz.underlying166 (by simp) (by simp) (by simp)
theorem tok167 : TIok Tryz.prog 167 ⟨1, [.nilFunc], .scalar, 0⟩ := TIok.scalar (z := .nilFunc) (by kernel_rfl) rfl Tryz.underlying167 (by simp) (by simp) (by simp)
theorem tok168 : TIok Tryz.prog 168 ⟨1, [.nilFunc], .scalar, 0⟩ := TIok.scalar (z := .nilFunc) (by kernel_rfl) rfl Tryz.underlying168 (by simp) (by simp) (by simp)
theorem tok169 : TIok Tryz.prog 169 ⟨1, [.slice none 0 0], .sl 4 1 1 [.bool false], 0⟩ := TIok.sl (z := .bool false) (by kernel_rfl) Tryz.underlying169 (by kernel_rfl) rfl (by decide) (by decide) rfl rfl
theorem tok171 : TIok Tryz.prog 171 ⟨1, [.nilFunc], .scalar, 0⟩ := TIok.scalar (z := .nilFunc) (by kernel_rfl) rfl Tryz.underlying171 (by simp) (by simp) (by simp)
theorem tok172 : TIok Tryz.prog 172 ⟨1, [.nilFunc], .scalar, 0⟩ := TIok.scalar (z := .nilFunc) (by kernel_rfl) rfl Tryz.underlying172 (by simp) (by simp) (by simp)
theorem tok173 : TIok Tryz.prog 173 ⟨1, [.nilFunc], .scalar, 0⟩ := TIok.scalar (z := .nilFunc) (by kernel_rfl) rfl Tryz.underlying173 (by simp) (by simp) (by simp)
theorem tok174 : TIok Tryz.prog 174 ⟨1, [.nilFunc], .scalar, 0⟩ := TIok.scalar (z := .nilFunc) (by kernel_rfl) rfl Tryz.underlying174 (by simp) (by simp) (by simp)
theorem tok175 : TIok Tryz.prog 175 ⟨1, [.nilFunc], .scalar, 0⟩ := TIok.scalar (z := .nilFunc) (by kernel_rfl) rfl Tryz.underlying175 (by simp) (by simp) (by simp)
theorem tok176 : TIok Tryz.prog 176 ⟨1, [.nilFunc], .scalar, 0⟩ := TIok.scalar (z := .nilFunc) (by kernel_rfl) rfl Tryz.underlying176 (by simp) (by simp) (by simp)
theorem tok177 : TIok Tryz.prog 177 ⟨4, [.int .i64 0, .int .i64 0, .int .i64 0, .int .i64 0], .arr 4 3 1, 4⟩ := TIok.arrE (z := .agg #[.int .i64 0, .int .i64 0, .int .i64 0, .int .i64 0]) (by kernel_rfl) rfl Tryz.underlying177 (by kernel_rfl) rfl Tryz.eqGuardType177 (PartEq.int Tryz.underlying3)
theorem tok178 : TIok Tryz.prog 178 ⟨1, [.nilFunc], .scalar, 0⟩ := TIok.scalar (z := .nilFunc) (by kernel_rfl) rfl Tryz.underlying178 (by simp) (by simp) (by simp)
theorem tok179 : TIok Tryz.prog 179 ⟨1, [.nilFunc], .scalar, 0⟩ := TIok.scalar (z := .nilFunc) (by kernel_rfl) rfl Tryz.underlying179 (by simp) (by simp) (by simp)
theorem tok180 : TIok Tryz.prog 180 ⟨1, [.nilFunc], .scalar, 0⟩ := TIok.scalar (z := .nilFunc) (by kernel_rfl) rfl Tryz.underlying180 (by simp) (by simp) (by simp)
theorem tok181 : TIok Tryz.prog 181 ⟨1, [.nilFunc], .scalar, 0⟩ := TIok.scalar (z := .nilFunc) (by kernel_rfl) rfl Tryz.underlying181 (by simp) (by simp) (by simp)
theorem tok182 : TIok Tryz.prog 182 ⟨1, [.nilFunc], .scalar, 0⟩ := TIok.scalar (z := .nilFunc) (by kernel_rfl) rfl Tryz.underlying182 (by simp) (by simp) (by simp)
theorem tok183 : TIok Tryz.prog 183 ⟨1, [.nilFunc], .scalar, 0⟩ := TIok.scalar (z := .nilFunc) (by kernel_rfl) rfl Tryz.underlying183 (by simp) (by simp) (by simp)
theorem tok184 : TIok Tryz.prog 184 ⟨1, [.nilFunc], .scalar, 0⟩ := TIok.scalar (z := .nilFunc) (by kernel_rfl) rfl Tryz.underlying184 (by simp) (by simp) (by simp)
theorem tok185 : TIok Tryz.prog 185 ⟨24, [.int .u8 0, .int .u8 0, .int .u8 0, .int .u8 0, .int .u8 0, .int .u8 0, .int .u8 0, .int .u8 0, .int .u8 0, .int .u8 0, .int .u8 0, .int .u8 0, .int .u8 0, .int .u8 0, .int .u8 0, .int .u8 0, .int .u8 0, .int .u8 0, .int .u8 0, .int .u8 0, .int .u8 0, .int .u8 0, .int .u8 0, .int .u8 0], .arr 24 5 1, 0⟩ := TIok.arr (z := .agg #[.int .u8 0, .int .u8 0, .int .u8 0, .int .u8 0, .int .u8 0, .int .u8 0, .int .u8 0, .int .u8 0, .int .u8 0, .int .u8 0, .int .u8 0, .int .u8 0, .int .u8 0, .int .u8 0, .int .u8 0, .int .u8 0, .int .u8 0, .int .u8 0, .int .u8 0, .int .u8 0, .int .u8 0, .int .u8 0, .int .u8 0, .int .u8 0]) (by kernel_rfl) rfl Tryz.underlying185 (by kernel_rfl)
theorem tok186 : TIok Tryz.prog 186 ⟨1, [.int .u64 0], .int .u64, 0⟩ := TIok.int (by kernel_rfl) Tryz.underlying186
theorem tok187 : TIok Tryz.prog 187 ⟨1, [.nilFunc], .scalar, 0⟩ := TIok.scalar (z := .nilFunc) (by kernel_rfl) rfl Tryz.underlying187 (by simp) (by simp) (by simp)
theorem tok188 : TIok Tryz.prog 188 ⟨1, [.nilFunc], .scalar, 0⟩ := TIok.scalar (z := .nilFunc) (by kernel_rfl) rfl Tryz.underlying188 (by simp) (by simp) (by simp)
theorem tok190 : TIok Tryz.prog 190 ⟨1, [.nilFunc], .scalar, 0⟩ := TIok.scalar (z := .nilFunc) (by kernel_rfl) rfl Tryz.underlying190 (by simp) (by simp) (by simp)
theorem tok191 : TIok Tryz.prog 191 ⟨1, [.nilFunc], .scalar, 0⟩ := TIok.scalar (z := .nilFunc) (by kernel_rfl) rfl Tryz.underlying191 (by simp) (by simp) (by simp)
theorem tok192 : TIok Tryz.prog 192 ⟨1, [.int .u64 0], .int .u64, 0⟩ := TIok.int (by kernel_rfl) Tryz.underlying192
theorem tok193 : TIok Tryz.prog 193 ⟨1, [.int .i64 0], .int .i64, 0⟩ := TIok.int (by kernel_rfl) Tryz.underlying193
theorem tok195 : TIok Tryz.prog 195 ⟨1, [.nilFunc], .scalar, 0⟩ := TIok.scalar (z := .nilFunc) (by kernel_rfl) rfl Tryz.underlying195 (by simp) (by simp) (by simp)
theorem tok196 : TIok Tryz.prog 196 ⟨1, [.pointer none], .scalar, 0⟩ := TIok.scalar (z := .pointer none) (by kernel_rfl) rfl Tryz.underlying196 (by simp) (by simp) (by simp)
theorem tok197 : TIok Tryz.prog 197 ⟨1, [.nilFunc], .scalar, 0⟩ := TIok.scalar (z := .nilFunc) (by kernel_rfl) rfl Tryz.underlying197 (by simp) (by simp) (by simp)
theorem tok198 : TIok Tryz.prog 198 ⟨1, [.nilFunc], .scalar, 0⟩ := TIok.scalar (z := .nilFunc) (by kernel_rfl) rfl Tryz.underlying198 (by simp) (by simp) (by simp)
theorem tok200 : TIok Tryz.prog 200 ⟨1, [.nilFunc], .scalar, 0⟩ := TIok.scalar (z := .nilFunc) (by kernel_rfl) rfl Tryz.underlying200 (by simp) (by simp) (by simp)
theorem tok201 : TIok Tryz.prog 201 ⟨1, [.nilFunc], .scalar, 0⟩ := TIok.scalar (z := .nilFunc) (by kernel_rfl) rfl Tryz.underlying201 (by simp) (by simp) (by simp)
theorem tok202 : TIok Tryz.prog 202 ⟨1, [.nilFunc], .scalar, 0⟩ := TIok.scalar (z := .nilFunc) (by kernel_rfl) rfl Tryz.underlying202 (by simp) (by simp) (by simp)
theorem tok203 : TIok Tryz.prog 203 ⟨1, [.nilFunc], .scalar, 0⟩ := TIok.scalar (z := .nilFunc) (by kernel_rfl) rfl Tryz.underlying203 (by simp) (by simp) (by simp)
theorem tok204 : TIok Tryz.prog 204 ⟨1, [.nilFunc], .scalar, 0⟩ := TIok.scalar (z := .nilFunc) (by kernel_rfl) rfl Tryz.underlying204 (by simp) (by simp) (by simp)
theorem tok205 : TIok Tryz.prog 205 ⟨20, [.int .u64 0, .int .u64 0, .int .u64 0, .int .u64 0, .int .u64 0, .int .u64 0, .int .u64 0, .int .u64 0, .int .u64 0, .int .u64 0, .int .u64 0, .int .u64 0, .int .u64 0, .int .u64 0, .int .u64 0, .int .u64 0, .int .u64 0, .int .u64 0, .int .u64 0, .int .u64 0], .arr 20 186 1, 0⟩ := TIok.arr (z := .agg #[.int .u64 0, .int .u64 0, .int .u64 0, .int .u64 0, .int .u64 0, .int .u64 0, .int .u64 0, .int .u64 0, .int .u64 0, .int .u64 0, .int .u64 0, .int .u64 0, .int .u64 0, .int .u64 0, .int .u64 0, .int .u64 0, .int .u64 0, .int .u64 0, .int .u64 0, .int .u64 0]) (by kernel_rfl) rfl Tryz.underlying205 (by kernel_rfl)
theorem tok206 : TIok Tryz.prog 206 ⟨1, [.int .u32 0], .int .u32, 0⟩ := TIok.int (by kernel_rfl) Tryz.underlying206
theorem tok208 : TIok Tryz.prog 208 ⟨1, [.nilFunc], .scalar, 0⟩ := TIok.scalar (z := .nilFunc) (by kernel_rfl) rfl Tryz.underlying208 (by simp) (by simp) (by simp)
theorem tok210 : TIok Tryz.prog 210 ⟨1, [.nilFunc], .scalar, 0⟩ := TIok.scalar (z := .nilFunc) (by kernel_rfl) rfl Tryz.underlying210 (by simp) (by simp) (by simp)
theorem tok212 : TIok Tryz.prog 212 ⟨1, [.nilFunc], .scalar, 0⟩ := TIok.scalar (z := .nilFunc) (by kernel_rfl) rfl Tryz.underlying212 (by simp) (by simp) (by simp)
theorem tok213 : TIok Tryz.prog 213 ⟨1, [.nilFunc], .scalar, 0⟩ := TIok.scalar (z := .nilFunc) (by kernel_rfl) rfl Tryz.underlying213 (by simp) (by simp) (by simp)
theorem tok214 : TIok Tryz.prog 214 ⟨3, [.string ⟨#[]⟩, .string ⟨#[]⟩, .nilIface], .st [(0, 1), (1, 1), (2, 1)], 0⟩ := TIok.st (z := .agg #[.string ⟨#[]⟩, .string ⟨#[]⟩, .nilIface]) (by kernel_rfl) rfl Tryz.underlying214 ⟨rfl, (by kernel_rfl), (by decide), rfl, (by kernel_rfl), (by decide), rfl, (by kernel_rfl), (by decide), trivial⟩ (fun h => absurd rfl h) (fun h => absurd rfl h)
theorem tok215 : TIok Tryz.prog 215 ⟨3, [.string ⟨#[]⟩, .string ⟨#[]⟩, .nilIface], .st [(0, 1), (1, 1), (2, 1)], 0⟩ := TIok.st (z := .agg #[.string ⟨#[]⟩, .string ⟨#[]⟩, .nilIface]) (by kernel_rfl) rfl Tryz.underlying215 ⟨rfl, (by kernel_rfl), (by decide), rfl, (by kernel_rfl), (by decide), rfl, (by kernel_rfl), (by decide), trivial⟩ (fun h => absurd rfl h) (fun h => absurd rfl h)
theorem tok216 : TIok Tryz.prog 216 ⟨1, [.nilFunc], .scalar, 0⟩ := TIok.scalar (z := .nilFunc) (by kernel_rfl) rfl Tryz.underlying216 (by simp) (by simp) (by simp)
theorem tok217 : TIok Tryz.prog 217 ⟨1, [.nilFunc], .scalar, 0⟩ := TIok.scalar (z := .nilFunc) (by kernel_rfl) rfl Tryz.underlying217 (by simp) (by simp) (by simp)
theorem tok218 : TIok Tryz.prog 218 ⟨1, [.nilFunc], .scalar, 0⟩ := TIok.scalar (z := .nilFunc) (by kernel_rfl) rfl Tryz.underlying218 (by simp) (by simp) (by simp)
theorem tok219 : TIok Tryz.prog 219 ⟨1, [.pointer none], .scalar, 0⟩ := TIok.scalar (z := .pointer none) (by kernel_rfl) rfl Tryz.underlying219 (by simp) (by simp) (by simp)
theorem tok220 : TIok Tryz.prog 220 ⟨1, [.string ⟨#[]⟩], .st [(0, 1)], 1000002⟩ := TIok.st (z := .agg #[.string ⟨#[]⟩]) (by kernel_rfl) rfl Tryz.underlying220 ⟨rfl, (by kernel_rfl), (by decide), trivial⟩ (fun _ => EqS.up (c := 2) (EqS.of Tryz.underlying220 Tryz.eqGuardType220 Tryz.stoodInHeld220 (by simp [flOk, Tryz.underlying9]))) (fun _ => ScOk.ofS (c := 2) Tryz.underlying220 (by simp [flOk, Tryz.underlying9]))
theorem tok221 : TIok Tryz.prog 221 ⟨1, [.string ⟨#[]⟩], .st [(0, 1)], 1000002⟩ := TIok.st (z := .agg #[.string ⟨#[]⟩]) (by kernel_rfl) rfl Tryz.underlying221 ⟨rfl, (by kernel_rfl), (by decide), trivial⟩ (fun _ => EqS.up (c := 2) (EqS.of Tryz.underlying221 Tryz.eqGuardType221 Tryz.stoodInHeld221 (by simp [flOk, Tryz.underlying9]))) (fun _ => ScOk.ofS (c := 2) Tryz.underlying221 (by simp [flOk, Tryz.underlying9]))
theorem tok223 : TIok Tryz.prog 223 ⟨2, [.int .u8 0, .int .u8 0], .st [(0, 1), (1, 1)], 0⟩ := TIok.st (z := .agg #[.int .u8 0, .int .u8 0]) (by kernel_rfl) rfl Tryz.underlying223 ⟨rfl, (by kernel_rfl), (by decide), rfl, (by kernel_rfl), (by decide), trivial⟩ (fun h => absurd rfl h) (fun h => absurd rfl h)
theorem tok224 : TIok Tryz.prog 224 ⟨2, [.int .u8 0, .int .u8 0], .st [(0, 1), (1, 1)], 0⟩ := TIok.st (z := .agg #[.int .u8 0, .int .u8 0]) (by kernel_rfl) rfl Tryz.underlying224 ⟨rfl, (by kernel_rfl), (by decide), rfl, (by kernel_rfl), (by decide), trivial⟩ (fun h => absurd rfl h) (fun h => absurd rfl h)
theorem tok225 : TIok Tryz.prog 225 ⟨32, [.int .u8 0, .int .u8 0, .int .u8 0, .int .u8 0, .int .u8 0, .int .u8 0, .int .u8 0, .int .u8 0, .int .u8 0, .int .u8 0, .int .u8 0, .int .u8 0, .int .u8 0, .int .u8 0, .int .u8 0, .int .u8 0, .int .u8 0, .int .u8 0, .int .u8 0, .int .u8 0, .int .u8 0, .int .u8 0, .int .u8 0, .int .u8 0, .int .u8 0, .int .u8 0, .int .u8 0, .int .u8 0, .int .u8 0, .int .u8 0, .int .u8 0, .int .u8 0], .arr 16 224 2, 0⟩ := TIok.arr (z := .agg #[.int .u8 0, .int .u8 0, .int .u8 0, .int .u8 0, .int .u8 0, .int .u8 0, .int .u8 0, .int .u8 0, .int .u8 0, .int .u8 0, .int .u8 0, .int .u8 0, .int .u8 0, .int .u8 0, .int .u8 0, .int .u8 0, .int .u8 0, .int .u8 0, .int .u8 0, .int .u8 0, .int .u8 0, .int .u8 0, .int .u8 0, .int .u8 0, .int .u8 0, .int .u8 0, .int .u8 0, .int .u8 0, .int .u8 0, .int .u8 0, .int .u8 0, .int .u8 0]) (by kernel_rfl) rfl Tryz.underlying225 (by kernel_rfl)
theorem tok226 : TIok Tryz.prog 226 ⟨32, [.int .u8 0, .int .u8 0, .int .u8 0, .int .u8 0, .int .u8 0, .int .u8 0, .int .u8 0, .int .u8 0, .int .u8 0, .int .u8 0, .int .u8 0, .int .u8 0, .int .u8 0, .int .u8 0, .int .u8 0, .int .u8 0, .int .u8 0, .int .u8 0, .int .u8 0, .int .u8 0, .int .u8 0, .int .u8 0, .int .u8 0, .int .u8 0, .int .u8 0, .int .u8 0, .int .u8 0, .int .u8 0, .int .u8 0, .int .u8 0, .int .u8 0, .int .u8 0], .arr 32 5 1, 0⟩ := TIok.arr (z := .agg #[.int .u8 0, .int .u8 0, .int .u8 0, .int .u8 0, .int .u8 0, .int .u8 0, .int .u8 0, .int .u8 0, .int .u8 0, .int .u8 0, .int .u8 0, .int .u8 0, .int .u8 0, .int .u8 0, .int .u8 0, .int .u8 0, .int .u8 0, .int .u8 0, .int .u8 0, .int .u8 0, .int .u8 0, .int .u8 0, .int .u8 0, .int .u8 0, .int .u8 0, .int .u8 0, .int .u8 0, .int .u8 0, .int .u8 0, .int .u8 0, .int .u8 0, .int .u8 0]) (by kernel_rfl) rfl Tryz.underlying226 (by kernel_rfl)
theorem tok227 : TIok Tryz.prog 227 ⟨64, [.int .u8 0, .int .u8 0, .int .u8 0, .int .u8 0, .int .u8 0, .int .u8 0, .int .u8 0, .int .u8 0, .int .u8 0, .int .u8 0, .int .u8 0, .int .u8 0, .int .u8 0, .int .u8 0, .int .u8 0, .int .u8 0, .int .u8 0, .int .u8 0, .int .u8 0, .int .u8 0, .int .u8 0, .int .u8 0, .int .u8 0, .int .u8 0, .int .u8 0, .int .u8 0, .int .u8 0, .int .u8 0, .int .u8 0, .int .u8 0, .int .u8 0, .int .u8 0, .int .u8 0, .int .u8 0, .int .u8 0, .int .u8 0, .int .u8 0, .int .u8 0, .int .u8 0, .int .u8 0, .int .u8 0, .int .u8 0, .int .u8 0, .int .u8 0, .int .u8 0, .int .u8 0, .int .u8 0, .int .u8 0, .int .u8 0, .int .u8 0, .int .u8 0, .int .u8 0, .int .u8 0, .int .u8 0, .int .u8 0, .int .u8 0, .int .u8 0, .int .u8 0, .int .u8 0, .int .u8 0, .int .u8 0, .int .u8 0, .int .u8 0, .int .u8 0], .arr 64 5 1, 0⟩ := TIok.arr (z := .agg #[.int .u8 0, .int .u8 0, .int .u8 0, .int .u8 0, .int .u8 0, .int .u8 0, .int .u8 0, .int .u8 0, .int .u8 0, .int .u8 0, .int .u8 0, .int .u8 0, .int .u8 0, .int .u8 0, .int .u8 0, .int .u8 0, .int .u8 0, .int .u8 0, .int .u8 0, .int .u8 0, .int .u8 0, .int .u8 0, .int .u8 0, .int .u8 0, .int .u8 0, .int .u8 0, .int .u8 0, .int .u8 0, .int .u8 0, .int .u8 0, .int .u8 0, .int .u8 0, .int .u8 0, .int .u8 0, .int .u8 0, .int .u8 0, .int .u8 0, .int .u8 0, .int .u8 0, .int .u8 0, .int .u8 0, .int .u8 0, .int .u8 0, .int .u8 0, .int .u8 0, .int .u8 0, .int .u8 0, .int .u8 0, .int .u8 0, .int .u8 0, .int .u8 0, .int .u8 0, .int .u8 0, .int .u8 0, .int .u8 0, .int .u8 0, .int .u8 0, .int .u8 0, .int .u8 0, .int .u8 0, .int .u8 0, .int .u8 0, .int .u8 0, .int .u8 0]) (by kernel_rfl) rfl Tryz.underlying227 (by kernel_rfl)
theorem tok228 : TIok Tryz.prog 228 ⟨4, [.pointer none, .pointer none, .pointer none, .string ⟨#[]⟩], .st [(0, 1), (1, 1), (2, 1), (3, 1)], 0⟩ := TIok.st (z := .agg #[.pointer none, .pointer none, .pointer none, .string ⟨#[]⟩]) (by kernel_rfl) rfl Tryz.underlying228 ⟨rfl, (by kernel_rfl), (by decide), rfl, (by kernel_rfl), (by decide), rfl, (by kernel_rfl), (by decide), rfl, (by kernel_rfl), (by decide), trivial⟩ (fun h => absurd rfl h) (fun h => absurd rfl h)
theorem tok229 : TIok Tryz.prog 229 ⟨4, [.pointer none, .pointer none, .pointer none, .string ⟨#[]⟩], .st [(0, 1), (1, 1), (2, 1), (3, 1)], 0⟩ := TIok.st (z := .agg #[.pointer none, .pointer none, .pointer none, .string ⟨#[]⟩]) (by kernel_rfl) rfl Tryz.underlying229 ⟨rfl, (by kernel_rfl), (by decide), rfl, (by kernel_rfl), (by decide), rfl, (by kernel_rfl), (by decide), rfl, (by kernel_rfl), (by decide), trivial⟩ (fun h => absurd rfl h) (fun h => absurd rfl h)
theorem tok230 : TIok Tryz.prog 230 ⟨0, [], .arr 0 16 1, 0⟩ := TIok.arr (z := .agg #[]) (by kernel_rfl) rfl Tryz.underlying230 (by kernel_rfl)
theorem tok233 : TIok Tryz.prog 233 ⟨1, [.nilFunc], .scalar, 0⟩ := TIok.scalar (z := .nilFunc) (by kernel_rfl) rfl Tryz.underlying233 (by simp) (by simp) (by simp)
theorem tok234 : TIok Tryz.prog 234 ⟨1, [.int .u8 0], .int .u8, 0⟩ := TIok.int (by kernel_rfl) Tryz.underlying234
theorem tok235 : TIok Tryz.prog 235 ⟨1, [.int .u8 0], .int .u8, 0⟩ := TIok.int (by kernel_rfl) Tryz.underlying235
theorem tok236 : TIok Tryz.prog 236 ⟨1, [.nilFunc], .scalar, 0⟩ := TIok.scalar (z := .nilFunc) (by kernel_rfl) rfl Tryz.underlying236 (by simp) (by simp) (by simp)
theorem tok237 : TIok Tryz.prog 237 ⟨1, [.int .i32 0], .int .i32, 0⟩ := TIok.int (by kernel_rfl) Tryz.underlying237
theorem tok238 : TIok Tryz.prog 238 ⟨1, [.int .i32 0], .int .i32, 0⟩ := TIok.int (by kernel_rfl) Tryz.underlying238
theorem tok239 : TIok Tryz.prog 239 ⟨11, [.int .u64 0, .int .u64 0, .int .u32 0, .int .u8 0, .int .u8 0, .int .u8 0, .int .u8 0, .nilFunc, .pointer none, .int .i32 0, .int .i32 0], .st [(0, 1), (1, 1), (2, 1), (3, 1), (4, 1), (5, 1), (6, 1), (7, 1), (8, 1), (9, 1), (10, 1)], 0⟩ := TIok.st (z := .agg #[.int .u64 0, .int .u64 0, .int .u32 0, .int .u8 0, .int .u8 0, .int .u8 0, .int .u8 0, .nilFunc, .pointer none, .int .i32 0, .int .i32 0]) (by kernel_rfl) rfl Tryz.underlying239 ⟨rfl, (by kernel_rfl), (by decide), rfl, (by kernel_rfl), (by decide), rfl, (by kernel_rfl), (by decide), rfl, (by kernel_rfl), (by decide), rfl, (by kernel_rfl), (by decide), rfl, (by kernel_rfl), (by decide), rfl, (by kernel_rfl), (by decide), rfl, (by kernel_rfl), (by decide), rfl, (by kernel_rfl), (by decide), rfl, (by kernel_rfl), (by decide), rfl, (by kernel_rfl), (by decide), trivial⟩ (fun h => absurd rfl h) (fun h => absurd rfl h)
theorem tok240 : TIok Tryz.prog 240 ⟨11, [.int .u64 0, .int .u64 0, .int .u32 0, .int .u8 0, .int .u8 0, .int .u8 0, .int .u8 0, .nilFunc, .pointer none, .int .i32 0, .int .i32 0], .st [(0, 1), (1, 1), (2, 1), (3, 1), (4, 1), (5, 1), (6, 1), (7, 1), (8, 1), (9, 1), (10, 1)], 0⟩ := TIok.st (z := .agg #[.int .u64 0, .int .u64 0, .int .u32 0, .int .u8 0, .int .u8 0, .int .u8 0, .int .u8 0, .nilFunc, .pointer none, .int .i32 0, .int .i32 0]) (by kernel_rfl) rfl Tryz.underlying240 ⟨rfl, (by kernel_rfl), (by decide), rfl, (by kernel_rfl), (by decide), rfl, (by kernel_rfl), (by decide), rfl, (by kernel_rfl), (by decide), rfl, (by kernel_rfl), (by decide), rfl, (by kernel_rfl), (by decide), rfl, (by kernel_rfl), (by decide), rfl, (by kernel_rfl), (by decide), rfl, (by kernel_rfl), (by decide), rfl, (by kernel_rfl), (by decide), rfl, (by kernel_rfl), (by decide), trivial⟩ (fun h => absurd rfl h) (fun h => absurd rfl h)
set_option maxRecDepth 20000 in
theorem Tok : TabOk Tryz.prog Tt :=
  TabOk.cons tok1 <| TabOk.cons tok2 <| TabOk.cons tok3 <| TabOk.cons tok4 <| TabOk.cons tok5 <| TabOk.cons tok6 <| TabOk.cons tok7 <| TabOk.cons tok8 <| TabOk.cons tok9 <| TabOk.cons tok10 <| TabOk.cons tok11 <| TabOk.cons tok12 <| TabOk.cons tok13 <| TabOk.cons tok14 <| TabOk.cons tok15 <| TabOk.cons tok16 <| TabOk.cons tok17 <| TabOk.cons tok18 <| TabOk.cons tok19 <| TabOk.cons tok20 <| TabOk.cons tok21 <| TabOk.cons tok22 <| TabOk.cons tok23 <| TabOk.cons tok24 <| TabOk.cons tok26 <| TabOk.cons tok27 <| TabOk.cons tok28 <| TabOk.cons tok29 <| TabOk.cons tok30 <| TabOk.cons tok32 <| TabOk.cons tok34 <| TabOk.cons tok35 <| TabOk.cons tok37 <| TabOk.cons tok39 <| TabOk.cons tok40 <| TabOk.cons tok41 <| TabOk.cons tok42 <| TabOk.cons tok43 <| TabOk.cons tok44 <| TabOk.cons tok45 <| TabOk.cons tok47 <| TabOk.cons tok48 <| TabOk.cons tok49 <| TabOk.cons tok51 <| TabOk.cons tok53 <| TabOk.cons tok54 <| TabOk.cons tok55 <| TabOk.cons tok56 <| TabOk.cons tok58 <| TabOk.cons tok59 <| TabOk.cons tok60 <| TabOk.cons tok61 <| TabOk.cons tok62 <| TabOk.cons tok63 <| TabOk.cons tok64 <| TabOk.cons tok65 <| TabOk.cons tok67 <| TabOk.cons tok68 <| TabOk.cons tok69 <| TabOk.cons tok70 <| TabOk.cons tok71 <| TabOk.cons tok72 <| TabOk.cons tok74 <| TabOk.cons tok75 <| TabOk.cons tok77 <| TabOk.cons tok78 <| TabOk.cons tok79 <| TabOk.cons tok80 <| TabOk.cons tok81 <| TabOk.cons tok82 <| TabOk.cons tok83 <| TabOk.cons tok84 <| TabOk.cons tok85 <| TabOk.cons tok86 <| TabOk.cons tok88 <| TabOk.cons tok89 <| TabOk.cons tok90 <| TabOk.cons tok91 <| TabOk.cons tok92 <| TabOk.cons tok93 <| TabOk.cons tok94 <| TabOk.cons tok95 <| TabOk.cons tok96 <| TabOk.cons tok97 <| TabOk.cons tok98 <| TabOk.cons tok99 <| TabOk.cons tok101 <| TabOk.cons tok103 <| TabOk.cons tok105 <| TabOk.cons tok107 <| TabOk.cons tok108 <| TabOk.cons tok109 <| TabOk.cons tok110 <| TabOk.cons tok112 <| TabOk.cons tok113 <| TabOk.cons tok114 <| TabOk.cons tok115 <| TabOk.cons tok116 <| TabOk.cons tok117 <| TabOk.cons tok118 <| TabOk.cons tok119 <| TabOk.cons tok120 <| TabOk.cons tok121 <| TabOk.cons tok122 <| TabOk.cons tok123 <| TabOk.cons tok124 <| TabOk.cons tok125 <| TabOk.cons tok126 <| TabOk.cons tok128 <| TabOk.cons tok129 <| TabOk.cons tok130 <| TabOk.cons tok131 <| TabOk.cons tok132 <| TabOk.cons tok133 <| TabOk.cons tok134 <| TabOk.cons tok136 <| TabOk.cons tok137 <| TabOk.cons tok138 <| TabOk.cons tok139 <| TabOk.cons tok140 <| TabOk.cons tok141 <| TabOk.cons tok142 <| TabOk.cons tok143 <| TabOk.cons tok144 <| TabOk.cons tok146 <| TabOk.cons tok147 <| TabOk.cons tok148 <| TabOk.cons tok149 <| TabOk.cons tok150 <| TabOk.cons tok151 <| TabOk.cons tok152 <| TabOk.cons tok153 <| TabOk.cons tok154 <| TabOk.cons tok156 <| TabOk.cons tok157 <| TabOk.cons tok158 <| TabOk.cons tok159 <| TabOk.cons tok160 <| TabOk.cons tok161 <| TabOk.cons tok162 <| TabOk.cons tok163 <| TabOk.cons tok164 <| TabOk.cons tok165 <| TabOk.cons tok166 <| TabOk.cons tok167 <| TabOk.cons tok168 <| TabOk.cons tok169 <| TabOk.cons tok171 <| TabOk.cons tok172 <| TabOk.cons tok173 <| TabOk.cons tok174 <| TabOk.cons tok175 <| TabOk.cons tok176 <| TabOk.cons tok177 <| TabOk.cons tok178 <| TabOk.cons tok179 <| TabOk.cons tok180 <| TabOk.cons tok181 <| TabOk.cons tok182 <| TabOk.cons tok183 <| TabOk.cons tok184 <| TabOk.cons tok185 <| TabOk.cons tok186 <| TabOk.cons tok187 <| TabOk.cons tok188 <| TabOk.cons tok190 <| TabOk.cons tok191 <| TabOk.cons tok192 <| TabOk.cons tok193 <| TabOk.cons tok195 <| TabOk.cons tok196 <| TabOk.cons tok197 <| TabOk.cons tok198 <| TabOk.cons tok200 <| TabOk.cons tok201 <| TabOk.cons tok202 <| TabOk.cons tok203 <| TabOk.cons tok204 <| TabOk.cons tok205 <| TabOk.cons tok206 <| TabOk.cons tok208 <| TabOk.cons tok210 <| TabOk.cons tok212 <| TabOk.cons tok213 <| TabOk.cons tok214 <| TabOk.cons tok215 <| TabOk.cons tok216 <| TabOk.cons tok217 <| TabOk.cons tok218 <| TabOk.cons tok219 <| TabOk.cons tok220 <| TabOk.cons tok221 <| TabOk.cons tok223 <| TabOk.cons tok224 <| TabOk.cons tok225 <| TabOk.cons tok226 <| TabOk.cons tok227 <| TabOk.cons tok228 <| TabOk.cons tok229 <| TabOk.cons tok230 <| TabOk.cons tok233 <| TabOk.cons tok234 <| TabOk.cons tok235 <| TabOk.cons tok236 <| TabOk.cons tok237 <| TabOk.cons tok238 <| TabOk.cons tok239 <| TabOk.cons tok240 <| TabOk.nil
set_option maxRecDepth 20000 in
theorem tys :
    (tlook Tt 1 = some ⟨1, [.nilFunc], .scalar, 0⟩) ∧
    (tlook Tt 2 = some ⟨1, [.int .i64 0], .int .i64, 0⟩) ∧
    (tlook Tt 3 = some ⟨1, [.int .i64 0], .int .i64, 0⟩) ∧
    (tlook Tt 4 = some ⟨1, [.bool false], .scalar, 0⟩) ∧
    (tlook Tt 5 = some ⟨1, [.int .u8 0], .int .u8, 0⟩) ∧
    (tlook Tt 6 = some ⟨1, [.int .u8 0], .int .u8, 0⟩) ∧
    (tlook Tt 7 = some ⟨4, [.int .i64 0, .int .i64 0, .bool false, .int .u8 0], .st [(0, 1), (1, 1), (2, 1), (3, 1)], 0⟩) ∧
    (tlook Tt 8 = some ⟨4, [.int .i64 0, .int .i64 0, .bool false, .int .u8 0], .st [(0, 1), (1, 1), (2, 1), (3, 1)], 0⟩) ∧
    (tlook Tt 9 = some ⟨1, [.string ⟨#[]⟩], .str, 0⟩) ∧
    (tlook Tt 10 = some ⟨1, [.string ⟨#[]⟩], .str, 0⟩) ∧
    (tlook Tt 11 = some ⟨1, [.string ⟨#[]⟩], .str, 0⟩) ∧
    (tlook Tt 12 = some ⟨1, [.int .u64 0], .int .u64, 0⟩) ∧
    (tlook Tt 13 = some ⟨2, [.string ⟨#[]⟩, .int .u64 0], .st [(0, 1), (1, 1)], 0⟩) ∧
    (tlook Tt 14 = some ⟨2, [.string ⟨#[]⟩, .int .u64 0], .st [(0, 1), (1, 1)], 0⟩) ∧
    (tlook Tt 15 = some ⟨1, [.pointer none], .scalar, 0⟩) ∧
    (tlook Tt 16 = some ⟨1, [.pointer none], .scalar, 0⟩) ∧
    (tlook Tt 17 = some ⟨1, [.pointer none], .scalar, 0⟩) ∧
    (tlook Tt 18 = some ⟨1, [.pointer none], .st [(0, 1)], 0⟩) ∧
    (tlook Tt 19 = some ⟨1, [.pointer none], .st [(0, 1)], 0⟩) ∧
    (tlook Tt 20 = some ⟨1, [.nilIface], .ifc, 0⟩) ∧
    (tlook Tt 21 = some ⟨1, [.int .i32 0], .int .i32, 0⟩) ∧
    (tlook Tt 22 = some ⟨2, [.int .i64 0, .int .i64 0], .arr 2 3 1, 2⟩) ∧
    (tlook Tt 23 = some ⟨1, [.slice none 0 0], .sl 65 2 16 [.int .i64 0, .int .i64 0], 0⟩) ∧
    (tlook Tt 24 = some ⟨1, [.nilFunc], .scalar, 0⟩) ∧
    (tlook Tt 26 = some ⟨1, [.nilFunc], .scalar, 0⟩) ∧
    (tlook Tt 27 = some ⟨1, [.slice none 0 0], .sl 63 4 32 [.int .i64 0, .int .i64 0, .int .i64 0, .int .i64 0], 0⟩) ∧
    (tlook Tt 28 = some ⟨3, [.int .i64 0, .int .i64 0, .slice none 0 0], .st [(0, 1), (1, 1), (2, 1)], 0⟩) ∧
    (tlook Tt 29 = some ⟨3, [.int .i64 0, .int .i64 0, .slice none 0 0], .st [(0, 1), (1, 1), (2, 1)], 0⟩) ∧
    (tlook Tt 30 = some ⟨1, [.int .i64 0], .int .i64, 0⟩) ∧
    (tlook Tt 32 = some ⟨1, [.nilFunc], .scalar, 0⟩) ∧
    (tlook Tt 34 = some ⟨1, [.nilFunc], .scalar, 0⟩) ∧
    (tlook Tt 35 = some ⟨1, [.nilFunc], .scalar, 0⟩) ∧
    (tlook Tt 37 = some ⟨1, [.nilFunc], .scalar, 0⟩) ∧
    (tlook Tt 39 = some ⟨1, [.nilFunc], .scalar, 0⟩) ∧
    (tlook Tt 40 = some ⟨1, [.nilFunc], .scalar, 0⟩) ∧
    (tlook Tt 41 = some ⟨1, [.nilFunc], .scalar, 0⟩) ∧
    (tlook Tt 42 = some ⟨1, [.nilFunc], .scalar, 0⟩) ∧
    (tlook Tt 43 = some ⟨1, [.slice none 0 0], .sl 117 2 16 [.int .i64 0, .int .i64 0], 0⟩) ∧
    (tlook Tt 44 = some ⟨3, [.int .i64 0, .int .i64 0, .slice none 0 0], .st [(0, 1), (1, 1), (2, 1)], 0⟩) ∧
    (tlook Tt 45 = some ⟨3, [.int .i64 0, .int .i64 0, .slice none 0 0], .st [(0, 1), (1, 1), (2, 1)], 0⟩) ∧
    (tlook Tt 47 = some ⟨1, [.nilFunc], .scalar, 0⟩) ∧
    (tlook Tt 48 = some ⟨1, [.nilFunc], .scalar, 0⟩) ∧
    (tlook Tt 49 = some ⟨6, [.int .i64 0, .int .i64 0, .slice none 0 0, .int .i64 0, .int .i64 0, .slice none 0 0], .arr 2 29 3, 0⟩) ∧
    (tlook Tt 51 = some ⟨1, [.nilFunc], .scalar, 0⟩) ∧
    (tlook Tt 53 = some ⟨1, [.nilFunc], .scalar, 0⟩) ∧
    (tlook Tt 54 = some ⟨1, [.nilFunc], .scalar, 0⟩) ∧
    (tlook Tt 55 = some ⟨1, [.nilFunc], .scalar, 0⟩) ∧
    (tlook Tt 56 = some ⟨1, [.nilFunc], .scalar, 0⟩) ∧
    (tlook Tt 58 = some ⟨1, [.nilFunc], .scalar, 0⟩) ∧
    (tlook Tt 59 = some ⟨1, [.nilFunc], .scalar, 0⟩) ∧
    (tlook Tt 60 = some ⟨1, [.nilFunc], .scalar, 0⟩) ∧
    (tlook Tt 61 = some ⟨1, [.nilFunc], .scalar, 0⟩) ∧
    (tlook Tt 62 = some ⟨4, [.int .i64 0, .int .i64 0, .int .i64 0, .int .i64 0], .st [(0, 1), (1, 1), (2, 1), (3, 1)], 4⟩) ∧
    (tlook Tt 63 = some ⟨4, [.int .i64 0, .int .i64 0, .int .i64 0, .int .i64 0], .st [(0, 1), (1, 1), (2, 1), (3, 1)], 4⟩) ∧
    (tlook Tt 64 = some ⟨2, [.int .i64 0, .int .i64 0], .st [(0, 1), (1, 1)], 2⟩) ∧
    (tlook Tt 65 = some ⟨2, [.int .i64 0, .int .i64 0], .st [(0, 1), (1, 1)], 2⟩) ∧
    (tlook Tt 67 = some ⟨1, [.nilFunc], .scalar, 0⟩) ∧
    (tlook Tt 68 = some ⟨1, [.nilFunc], .scalar, 0⟩) ∧
    (tlook Tt 69 = some ⟨1, [.nilFunc], .scalar, 0⟩) ∧
    (tlook Tt 70 = some ⟨1, [.slice none 0 0], .sl 163 1 24 [.slice none 0 0], 0⟩) ∧
    (tlook Tt 71 = some ⟨3, [.int .i64 0, .int .i64 0, .slice none 0 0], .st [(0, 1), (1, 1), (2, 1)], 0⟩) ∧
    (tlook Tt 72 = some ⟨3, [.int .i64 0, .int .i64 0, .slice none 0 0], .st [(0, 1), (1, 1), (2, 1)], 0⟩) ∧
    (tlook Tt 74 = some ⟨1, [.nilFunc], .scalar, 0⟩) ∧
    (tlook Tt 75 = some ⟨1, [.slice none 0 0], .sl 79 4 32 [.int .i64 0, .int .i64 0, .int .i64 0, .int .i64 0], 0⟩) ∧
    (tlook Tt 77 = some ⟨1, [.nilFunc], .scalar, 0⟩) ∧
    (tlook Tt 78 = some ⟨4, [.int .i64 0, .int .i64 0, .int .i64 0, .int .i64 0], .st [(0, 1), (1, 1), (2, 1), (3, 1)], 4⟩) ∧
    (tlook Tt 79 = some ⟨4, [.int .i64 0, .int .i64 0, .int .i64 0, .int .i64 0], .st [(0, 1), (1, 1), (2, 1), (3, 1)], 4⟩) ∧
    (tlook Tt 80 = some ⟨1, [.nilFunc], .scalar, 0⟩) ∧
    (tlook Tt 81 = some ⟨1, [.pointer none], .scalar, 0⟩) ∧
    (tlook Tt 82 = some ⟨1, [.slice none 0 0], .sl 5 1 1 [.int .u8 0], 0⟩) ∧
    (tlook Tt 83 = some ⟨2, [.pointer none, .slice none 0 0], .st [(0, 1), (1, 1)], 0⟩) ∧
    (tlook Tt 84 = some ⟨2, [.pointer none, .slice none 0 0], .st [(0, 1), (1, 1)], 0⟩) ∧
    (tlook Tt 85 = some ⟨1, [.nilIface], .ifc, 0⟩) ∧
    (tlook Tt 86 = some ⟨1, [.nilIface], .ifc, 0⟩) ∧
    (tlook Tt 88 = some ⟨1, [.nilFunc], .scalar, 0⟩) ∧
    (tlook Tt 89 = some ⟨1, [.nilFunc], .scalar, 0⟩) ∧
    (tlook Tt 90 = some ⟨1, [.nilFunc], .scalar, 0⟩) ∧
    (tlook Tt 91 = some ⟨1, [.nilFunc], .scalar, 0⟩) ∧
    (tlook Tt 92 = some ⟨1, [.nilFunc], .scalar, 0⟩) ∧
    (tlook Tt 93 = some ⟨1, [.slice none 0 0], .sl 9 1 16 [.string ⟨#[]⟩], 0⟩) ∧
    (tlook Tt 94 = some ⟨1, [.nilFunc], .scalar, 0⟩) ∧
    (tlook Tt 95 = some ⟨1, [.nilFunc], .scalar, 0⟩) ∧
    (tlook Tt 96 = some ⟨1, [.slice none 0 0], .sl 3 1 8 [.int .i64 0], 0⟩) ∧
    (tlook Tt 97 = some ⟨1, [.nilFunc], .scalar, 0⟩) ∧
    (tlook Tt 98 = some ⟨1, [.nilFunc], .scalar, 0⟩) ∧
    (tlook Tt 99 = some ⟨1, [.nilFunc], .scalar, 0⟩) ∧
    (tlook Tt 101 = some ⟨1, [.nilFunc], .scalar, 0⟩) ∧
    (tlook Tt 103 = some ⟨1, [.nilFunc], .scalar, 0⟩) ∧
    (tlook Tt 105 = some ⟨1, [.nilFunc], .scalar, 0⟩) ∧
    (tlook Tt 107 = some ⟨1, [.nilFunc], .scalar, 0⟩) ∧
    (tlook Tt 108 = some ⟨1, [.nilFunc], .scalar, 0⟩) ∧
    (tlook Tt 109 = some ⟨1, [.nilFunc], .scalar, 0⟩) ∧
    (tlook Tt 110 = some ⟨1, [.nilFunc], .scalar, 0⟩) ∧
    (tlook Tt 112 = some ⟨1, [.nilFunc], .scalar, 0⟩) ∧
    (tlook Tt 113 = some ⟨1, [.nilFunc], .scalar, 0⟩) ∧
    (tlook Tt 114 = some ⟨1, [.nilFunc], .scalar, 0⟩) ∧
    (tlook Tt 115 = some ⟨1, [.nilFunc], .scalar, 0⟩) ∧
    (tlook Tt 116 = some ⟨2, [.int .i64 0, .int .i64 0], .st [(0, 1), (1, 1)], 2⟩) ∧
    (tlook Tt 117 = some ⟨2, [.int .i64 0, .int .i64 0], .st [(0, 1), (1, 1)], 2⟩) ∧
    (tlook Tt 118 = some ⟨1, [.nilFunc], .scalar, 0⟩) ∧
    (tlook Tt 119 = some ⟨1, [.nilFunc], .scalar, 0⟩) ∧
    (tlook Tt 120 = some ⟨1, [.nilFunc], .scalar, 0⟩) ∧
    (tlook Tt 121 = some ⟨1, [.nilFunc], .scalar, 0⟩) ∧
    (tlook Tt 122 = some ⟨1, [.nilFunc], .scalar, 0⟩) ∧
    (tlook Tt 123 = some ⟨1, [.nilFunc], .scalar, 0⟩) ∧
    (tlook Tt 124 = some ⟨1, [.nilFunc], .scalar, 0⟩) ∧
    (tlook Tt 125 = some ⟨1, [.nilFunc], .scalar, 0⟩) ∧
    (tlook Tt 126 = some ⟨1, [.slice none 0 0], .sl 133 2 16 [.int .i64 0, .int .i64 0], 0⟩) ∧
    (tlook Tt 128 = some ⟨1, [.nilFunc], .scalar, 0⟩) ∧
    (tlook Tt 129 = some ⟨4, [.int .i64 0, .int .i64 0, .slice none 0 0, .slice none 0 0], .st [(0, 1), (1, 1), (2, 1), (3, 1)], 0⟩) ∧
    (tlook Tt 130 = some ⟨4, [.int .i64 0, .int .i64 0, .slice none 0 0, .slice none 0 0], .st [(0, 1), (1, 1), (2, 1), (3, 1)], 0⟩) ∧
    (tlook Tt 131 = some ⟨1, [.nilFunc], .scalar, 0⟩) ∧
    (tlook Tt 132 = some ⟨2, [.int .i64 0, .int .i64 0], .st [(0, 1), (1, 1)], 2⟩) ∧
    (tlook Tt 133 = some ⟨2, [.int .i64 0, .int .i64 0], .st [(0, 1), (1, 1)], 2⟩) ∧
    (tlook Tt 134 = some ⟨1, [.nilFunc], .scalar, 0⟩) ∧
    (tlook Tt 136 = some ⟨1, [.nilFunc], .scalar, 0⟩) ∧
    (tlook Tt 137 = some ⟨1, [.nilFunc], .scalar, 0⟩) ∧
    (tlook Tt 138 = some ⟨1, [.nilFunc], .scalar, 0⟩) ∧
    (tlook Tt 139 = some ⟨1, [.nilFunc], .scalar, 0⟩) ∧
    (tlook Tt 140 = some ⟨1, [.nilFunc], .scalar, 0⟩) ∧
    (tlook Tt 141 = some ⟨1, [.slice none 0 0], .sl 75 1 24 [.slice none 0 0], 0⟩) ∧
    (tlook Tt 142 = some ⟨3, [.int .i64 0, .int .i64 0, .slice none 0 0], .st [(0, 1), (1, 1), (2, 1)], 0⟩) ∧
    (tlook Tt 143 = some ⟨3, [.int .i64 0, .int .i64 0, .slice none 0 0], .st [(0, 1), (1, 1), (2, 1)], 0⟩) ∧
    (tlook Tt 144 = some ⟨1, [.nilFunc], .scalar, 0⟩) ∧
    (tlook Tt 146 = some ⟨1, [.nilFunc], .scalar, 0⟩) ∧
    (tlook Tt 147 = some ⟨1, [.nilFunc], .scalar, 0⟩) ∧
    (tlook Tt 148 = some ⟨1, [.nilFunc], .scalar, 0⟩) ∧
    (tlook Tt 149 = some ⟨1, [.nilFunc], .scalar, 0⟩) ∧
    (tlook Tt 150 = some ⟨1, [.pointer none], .scalar, 0⟩) ∧
    (tlook Tt 151 = some ⟨1, [.nilFunc], .scalar, 0⟩) ∧
    (tlook Tt 152 = some ⟨1, [.nilFunc], .scalar, 0⟩) ∧
    (tlook Tt 153 = some ⟨1, [.nilFunc], .scalar, 0⟩) ∧
    (tlook Tt 154 = some ⟨1, [.nilFunc], .scalar, 0⟩) ∧
    (tlook Tt 156 = some ⟨1, [.nilFunc], .scalar, 0⟩) ∧
    (tlook Tt 157 = some ⟨1, [.nilFunc], .scalar, 0⟩) ∧
    (tlook Tt 158 = some ⟨1, [.nilFunc], .scalar, 0⟩) ∧
    (tlook Tt 159 = some ⟨1, [.nilFunc], .scalar, 0⟩) ∧
    (tlook Tt 160 = some ⟨1, [.nilFunc], .scalar, 0⟩) ∧
    (tlook Tt 161 = some ⟨1, [.nilFunc], .scalar, 0⟩) ∧
    (tlook Tt 162 = some ⟨1, [.nilFunc], .scalar, 0⟩) ∧
    (tlook Tt 163 = some ⟨1, [.slice none 0 0], .sl 79 4 32 [.int .i64 0, .int .i64 0, .int .i64 0, .int .i64 0], 0⟩) ∧
    (tlook Tt 164 = some ⟨1, [.nilFunc], .scalar, 0⟩) ∧
    (tlook Tt 165 = some ⟨1, [.nilFunc], .scalar, 0⟩) ∧
    (tlook Tt 166 = some ⟨1, [.nilFunc], .scalar, 0⟩) ∧
    (tlook Tt 167 = some ⟨1, [.nilFunc], .scalar, 0⟩) ∧
    (tlook Tt 168 = some ⟨1, [.nilFunc], .scalar, 0⟩) ∧
    (tlook Tt 169 = some ⟨1, [.slice none 0 0], .sl 4 1 1 [.bool false], 0⟩) ∧
    (tlook Tt 171 = some ⟨1, [.nilFunc], .scalar, 0⟩) ∧
    (tlook Tt 172 = some ⟨1, [.nilFunc], .scalar, 0⟩) ∧
    (tlook Tt 173 = some ⟨1, [.nilFunc], .scalar, 0⟩) ∧
    (tlook Tt 174 = some ⟨1, [.nilFunc], .scalar, 0⟩) ∧
    (tlook Tt 175 = some ⟨1, [.nilFunc], .scalar, 0⟩) ∧
    (tlook Tt 176 = some ⟨1, [.nilFunc], .scalar, 0⟩) ∧
    (tlook Tt 177 = some ⟨4, [.int .i64 0, .int .i64 0, .int .i64 0, .int .i64 0], .arr 4 3 1, 4⟩) ∧
    (tlook Tt 178 = some ⟨1, [.nilFunc], .scalar, 0⟩) ∧
    (tlook Tt 179 = some ⟨1, [.nilFunc], .scalar, 0⟩) ∧
    (tlook Tt 180 = some ⟨1, [.nilFunc], .scalar, 0⟩) ∧
    (tlook Tt 181 = some ⟨1, [.nilFunc], .scalar, 0⟩) ∧
    (tlook Tt 182 = some ⟨1, [.nilFunc], .scalar, 0⟩) ∧
    (tlook Tt 183 = some ⟨1, [.nilFunc], .scalar, 0⟩) ∧
    (tlook Tt 184 = some ⟨1, [.nilFunc], .scalar, 0⟩) ∧
    (tlook Tt 185 = some ⟨24, [.int .u8 0, .int .u8 0, .int .u8 0, .int .u8 0, .int .u8 0, .int .u8 0, .int .u8 0, .int .u8 0, .int .u8 0, .int .u8 0, .int .u8 0, .int .u8 0, .int .u8 0, .int .u8 0, .int .u8 0, .int .u8 0, .int .u8 0, .int .u8 0, .int .u8 0, .int .u8 0, .int .u8 0, .int .u8 0, .int .u8 0, .int .u8 0], .arr 24 5 1, 0⟩) ∧
    (tlook Tt 186 = some ⟨1, [.int .u64 0], .int .u64, 0⟩) ∧
    (tlook Tt 187 = some ⟨1, [.nilFunc], .scalar, 0⟩) ∧
    (tlook Tt 188 = some ⟨1, [.nilFunc], .scalar, 0⟩) ∧
    (tlook Tt 190 = some ⟨1, [.nilFunc], .scalar, 0⟩) ∧
    (tlook Tt 191 = some ⟨1, [.nilFunc], .scalar, 0⟩) ∧
    (tlook Tt 192 = some ⟨1, [.int .u64 0], .int .u64, 0⟩) ∧
    (tlook Tt 193 = some ⟨1, [.int .i64 0], .int .i64, 0⟩) ∧
    (tlook Tt 195 = some ⟨1, [.nilFunc], .scalar, 0⟩) ∧
    (tlook Tt 196 = some ⟨1, [.pointer none], .scalar, 0⟩) ∧
    (tlook Tt 197 = some ⟨1, [.nilFunc], .scalar, 0⟩) ∧
    (tlook Tt 198 = some ⟨1, [.nilFunc], .scalar, 0⟩) ∧
    (tlook Tt 200 = some ⟨1, [.nilFunc], .scalar, 0⟩) ∧
    (tlook Tt 201 = some ⟨1, [.nilFunc], .scalar, 0⟩) ∧
    (tlook Tt 202 = some ⟨1, [.nilFunc], .scalar, 0⟩) ∧
    (tlook Tt 203 = some ⟨1, [.nilFunc], .scalar, 0⟩) ∧
    (tlook Tt 204 = some ⟨1, [.nilFunc], .scalar, 0⟩) ∧
    (tlook Tt 205 = some ⟨20, [.int .u64 0, .int .u64 0, .int .u64 0, .int .u64 0, .int .u64 0, .int .u64 0, .int .u64 0, .int .u64 0, .int .u64 0, .int .u64 0, .int .u64 0, .int .u64 0, .int .u64 0, .int .u64 0, .int .u64 0, .int .u64 0, .int .u64 0, .int .u64 0, .int .u64 0, .int .u64 0], .arr 20 186 1, 0⟩) ∧
    (tlook Tt 206 = some ⟨1, [.int .u32 0], .int .u32, 0⟩) ∧
    (tlook Tt 208 = some ⟨1, [.nilFunc], .scalar, 0⟩) ∧
    (tlook Tt 210 = some ⟨1, [.nilFunc], .scalar, 0⟩) ∧
    (tlook Tt 212 = some ⟨1, [.nilFunc], .scalar, 0⟩) ∧
    (tlook Tt 213 = some ⟨1, [.nilFunc], .scalar, 0⟩) ∧
    (tlook Tt 214 = some ⟨3, [.string ⟨#[]⟩, .string ⟨#[]⟩, .nilIface], .st [(0, 1), (1, 1), (2, 1)], 0⟩) ∧
    (tlook Tt 215 = some ⟨3, [.string ⟨#[]⟩, .string ⟨#[]⟩, .nilIface], .st [(0, 1), (1, 1), (2, 1)], 0⟩) ∧
    (tlook Tt 216 = some ⟨1, [.nilFunc], .scalar, 0⟩) ∧
    (tlook Tt 217 = some ⟨1, [.nilFunc], .scalar, 0⟩) ∧
    (tlook Tt 218 = some ⟨1, [.nilFunc], .scalar, 0⟩) ∧
    (tlook Tt 219 = some ⟨1, [.pointer none], .scalar, 0⟩) ∧
    (tlook Tt 220 = some ⟨1, [.string ⟨#[]⟩], .st [(0, 1)], 1000002⟩) ∧
    (tlook Tt 221 = some ⟨1, [.string ⟨#[]⟩], .st [(0, 1)], 1000002⟩) ∧
    (tlook Tt 223 = some ⟨2, [.int .u8 0, .int .u8 0], .st [(0, 1), (1, 1)], 0⟩) ∧
    (tlook Tt 224 = some ⟨2, [.int .u8 0, .int .u8 0], .st [(0, 1), (1, 1)], 0⟩) ∧
    (tlook Tt 225 = some ⟨32, [.int .u8 0, .int .u8 0, .int .u8 0, .int .u8 0, .int .u8 0, .int .u8 0, .int .u8 0, .int .u8 0, .int .u8 0, .int .u8 0, .int .u8 0, .int .u8 0, .int .u8 0, .int .u8 0, .int .u8 0, .int .u8 0, .int .u8 0, .int .u8 0, .int .u8 0, .int .u8 0, .int .u8 0, .int .u8 0, .int .u8 0, .int .u8 0, .int .u8 0, .int .u8 0, .int .u8 0, .int .u8 0, .int .u8 0, .int .u8 0, .int .u8 0, .int .u8 0], .arr 16 224 2, 0⟩) ∧
    (tlook Tt 226 = some ⟨32, [.int .u8 0, .int .u8 0, .int .u8 0, .int .u8 0, .int .u8 0, .int .u8 0, .int .u8 0, .int .u8 0, .int .u8 0, .int .u8 0, .int .u8 0, .int .u8 0, .int .u8 0, .int .u8 0, .int .u8 0, .int .u8 0, .int .u8 0, .int .u8 0, .int .u8 0, .int .u8 0, .int .u8 0, .int .u8 0, .int .u8 0, .int .u8 0, .int .u8 0, .int .u8 0, .int .u8 0, .int .u8 0, .int .u8 0, .int .u8 0, .int .u8 0, .int .u8 0], .arr 32 5 1, 0⟩) ∧
    (tlook Tt 227 = some ⟨64, [.int .u8 0, .int .u8 0, .int .u8 0, .int .u8 0, .int .u8 0, .int .u8 0, .int .u8 0, .int .u8 0, .int .u8 0, .int .u8 0, .int .u8 0, .int .u8 0, .int .u8 0, .int .u8 0, .int .u8 0, .int .u8 0, .int .u8 0, .int .u8 0, .int .u8 0, .int .u8 0, .int .u8 0, .int .u8 0, .int .u8 0, .int .u8 0, .int .u8 0, .int .u8 0, .int .u8 0, .int .u8 0, .int .u8 0, .int .u8 0, .int .u8 0, .int .u8 0, .int .u8 0, .int .u8 0, .int .u8 0, .int .u8 0, .int .u8 0, .int .u8 0, .int .u8 0, .int .u8 0, .int .u8 0, .int .u8 0, .int .u8 0, .int .u8 0, .int .u8 0, .int .u8 0, .int .u8 0, .int .u8 0, .int .u8 0, .int .u8 0, .int .u8 0, .int .u8 0, .int .u8 0, .int .u8 0, .int .u8 0, .int .u8 0, .int .u8 0, .int .u8 0, .int .u8 0, .int .u8 0, .int .u8 0, .int .u8 0, .int .u8 0, .int .u8 0], .arr 64 5 1, 0⟩) ∧
    (tlook Tt 228 = some ⟨4, [.pointer none, .pointer none, .pointer none, .string ⟨#[]⟩], .st [(0, 1), (1, 1), (2, 1), (3, 1)], 0⟩) ∧
    (tlook Tt 229 = some ⟨4, [.pointer none, .pointer none, .pointer none, .string ⟨#[]⟩], .st [(0, 1), (1, 1), (2, 1), (3, 1)], 0⟩) ∧
    (tlook Tt 230 = some ⟨0, [], .arr 0 16 1, 0⟩) ∧
    (tlook Tt 233 = some ⟨1, [.nilFunc], .scalar, 0⟩) ∧
    (tlook Tt 234 = some ⟨1, [.int .u8 0], .int .u8, 0⟩) ∧
    (tlook Tt 235 = some ⟨1, [.int .u8 0], .int .u8, 0⟩) ∧
    (tlook Tt 236 = some ⟨1, [.nilFunc], .scalar, 0⟩) ∧
    (tlook Tt 237 = some ⟨1, [.int .i32 0], .int .i32, 0⟩) ∧
    (tlook Tt 238 = some ⟨1, [.int .i32 0], .int .i32, 0⟩) ∧
    (tlook Tt 239 = some ⟨11, [.int .u64 0, .int .u64 0, .int .u32 0, .int .u8 0, .int .u8 0, .int .u8 0, .int .u8 0, .nilFunc, .pointer none, .int .i32 0, .int .i32 0], .st [(0, 1), (1, 1), (2, 1), (3, 1), (4, 1), (5, 1), (6, 1), (7, 1), (8, 1), (9, 1), (10, 1)], 0⟩) ∧
    (tlook Tt 240 = some ⟨11, [.int .u64 0, .int .u64 0, .int .u32 0, .int .u8 0, .int .u8 0, .int .u8 0, .int .u8 0, .nilFunc, .pointer none, .int .i32 0, .int .i32 0], .st [(0, 1), (1, 1), (2, 1), (3, 1), (4, 1), (5, 1), (6, 1), (7, 1), (8, 1), (9, 1), (10, 1)], 0⟩) :=
  ⟨rfl, rfl, rfl, rfl, rfl, rfl, rfl, rfl, rfl, rfl, rfl, rfl, rfl, rfl, rfl, rfl, rfl, rfl, rfl, rfl, rfl, rfl, rfl, rfl, rfl, rfl, rfl, rfl, rfl, rfl, rfl, rfl, rfl, rfl, rfl, rfl, rfl, rfl, rfl, rfl, rfl, rfl, rfl, rfl, rfl, rfl, rfl, rfl, rfl, rfl, rfl, rfl, rfl, rfl, rfl, rfl, rfl, rfl, rfl, rfl, rfl, rfl, rfl, rfl, rfl, rfl, rfl, rfl, rfl, rfl, rfl, rfl, rfl, rfl, rfl, rfl, rfl, rfl, rfl, rfl, rfl, rfl, rfl, rfl, rfl, rfl, rfl, rfl, rfl, rfl, rfl, rfl, rfl, rfl, rfl, rfl, rfl, rfl, rfl, rfl, rfl, rfl, rfl, rfl, rfl, rfl, rfl, rfl, rfl, rfl, rfl, rfl, rfl, rfl, rfl, rfl, rfl, rfl, rfl, rfl, rfl, rfl, rfl, rfl, rfl, rfl, rfl, rfl, rfl, rfl, rfl, rfl, rfl, rfl, rfl, rfl, rfl, rfl, rfl, rfl, rfl, rfl, rfl, rfl, rfl, rfl, rfl, rfl, rfl, rfl, rfl, rfl, rfl, rfl, rfl, rfl, rfl, rfl, rfl, rfl, rfl, rfl, rfl, rfl, rfl, rfl, rfl, rfl, rfl, rfl, rfl, rfl, rfl, rfl, rfl, rfl, rfl, rfl, rfl, rfl, rfl, rfl, rfl, rfl, rfl, rfl, rfl, rfl, rfl, rfl, rfl, rfl, rfl, rfl, rfl, rfl, rfl, rfl, rfl, rfl, rfl, rfl, rfl, rfl, rfl, rfl, rfl, rfl⟩
end Go.Proofs.YtgiegokdcmkfeaaGreatDoor
