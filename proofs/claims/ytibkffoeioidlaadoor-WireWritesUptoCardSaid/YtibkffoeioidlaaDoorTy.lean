/- The table of types of this seat's program, printed by tyenv.py. -/
import Derived.Test.YtibkffoeioidlaaDoorLtC
import Derived.Test.YtibkffoeioidlaaDoorProg
import Derived.KernelRfl
namespace Go.Proofs.YtibkffoeioidlaaDoor

set_option linter.all false
def tyTab : List (Nat × TRow) := [(1, ⟨.other, 1, 8, .nilFunc⟩),
  (2, ⟨.int .i64, 1, 8, .int .i64 0⟩),
  (3, ⟨.int .i64, 1, 8, .int .i64 0⟩),
  (4, ⟨.bool, 1, 1, .bool false⟩),
  (5, ⟨.int .u8, 1, 1, .int .u8 0⟩),
  (9, ⟨.str, 1, 16, .string ⟨#[]⟩⟩),
  (12, ⟨.int .u64, 1, 8, .int .u64 0⟩),
  (13, ⟨.struct [(9, 0, 1), (12, 1, 1)], 2, 24, .agg #[.string ⟨#[]⟩, .int .u64 0]⟩),
  (20, ⟨.other, 1, 16, .nilIface⟩),
  (21, ⟨.int .i32, 1, 4, .int .i32 0⟩),
  (22, ⟨.slice 3, 1, 24, .slice none 0 0⟩),
  (23, ⟨.other, 1, 8, .nilFunc⟩),
  (24, ⟨.ptr 79, 1, 8, .pointer none⟩),
  (25, ⟨.other, 1, 8, .nilFunc⟩),
  (26, ⟨.slice 51, 1, 24, .slice none 0 0⟩),
  (28, ⟨.other, 1, 8, .nilFunc⟩),
  (29, ⟨.int .u64, 1, 8, .int .u64 0⟩),
  (30, ⟨.other, 1, 8, .nilFunc⟩),
  (31, ⟨.other, 1, 8, .nilFunc⟩),
  (32, ⟨.slice 38, 1, 24, .slice none 0 0⟩),
  (33, ⟨.slice 38, 1, 24, .slice none 0 0⟩),
  (34, ⟨.other, 1, 8, .nilFunc⟩),
  (35, ⟨.other, 1, 8, .nilFunc⟩),
  (36, ⟨.other, 1, 8, .nilFunc⟩),
  (37, ⟨.slice 40, 1, 24, .slice none 0 0⟩),
  (38, ⟨.slice 40, 1, 24, .slice none 0 0⟩),
  (39, ⟨.struct [(9, 0, 1), (9, 1, 1)], 2, 32, .agg #[.string ⟨#[]⟩, .string ⟨#[]⟩]⟩),
  (40, ⟨.struct [(9, 0, 1), (9, 1, 1)], 2, 32, .agg #[.string ⟨#[]⟩, .string ⟨#[]⟩]⟩),
  (41, ⟨.other, 1, 8, .nilFunc⟩),
  (42, ⟨.slice 148, 1, 24, .slice none 0 0⟩),
  (43, ⟨.slice 45, 1, 24, .slice none 0 0⟩),
  (44, ⟨.struct [(3, 0, 1), (9, 1, 1), (9, 2, 1), (42, 3, 1), (43, 4, 1)], 5, 88, .agg #[.int .i64 0, .string ⟨#[]⟩, .string ⟨#[]⟩, .slice none 0 0, .slice none 0 0]⟩),
  (45, ⟨.struct [(3, 0, 1), (9, 1, 1), (9, 2, 1), (42, 3, 1), (43, 4, 1)], 5, 88, .agg #[.int .i64 0, .string ⟨#[]⟩, .string ⟨#[]⟩, .slice none 0 0, .slice none 0 0]⟩),
  (46, ⟨.slice 9, 1, 24, .slice none 0 0⟩),
  (47, ⟨.slice 83, 1, 24, .slice none 0 0⟩),
  (48, ⟨.slice 85, 1, 24, .slice none 0 0⟩),
  (49, ⟨.slice 95, 1, 24, .slice none 0 0⟩),
  (50, ⟨.struct [(3, 0, 1), (3, 1, 1), (9, 2, 1), (3, 3, 1), (4, 4, 1), (9, 5, 1), (9, 6, 1), (3, 7, 1), (3, 8, 1), (3, 9, 1), (3, 10, 1), (4, 11, 1), (45, 12, 5), (46, 17, 1), (47, 18, 1), (48, 19, 1), (9, 20, 1), (4, 21, 1), (4, 22, 1), (9, 23, 1), (9, 24, 1), (3, 25, 1), (9, 26, 1), (4, 27, 1), (9, 28, 1), (3, 29, 1), (9, 30, 1), (49, 31, 1)], 32, 432, .agg #[.int .i64 0, .int .i64 0, .string ⟨#[]⟩, .int .i64 0, .bool false, .string ⟨#[]⟩, .string ⟨#[]⟩, .int .i64 0, .int .i64 0, .int .i64 0, .int .i64 0, .bool false, .int .i64 0, .string ⟨#[]⟩, .string ⟨#[]⟩, .slice none 0 0, .slice none 0 0, .slice none 0 0, .slice none 0 0, .slice none 0 0, .string ⟨#[]⟩, .bool false, .bool false, .string ⟨#[]⟩, .string ⟨#[]⟩, .int .i64 0, .string ⟨#[]⟩, .bool false, .string ⟨#[]⟩, .int .i64 0, .string ⟨#[]⟩, .slice none 0 0]⟩),
  (51, ⟨.struct [(3, 0, 1), (3, 1, 1), (9, 2, 1), (3, 3, 1), (4, 4, 1), (9, 5, 1), (9, 6, 1), (3, 7, 1), (3, 8, 1), (3, 9, 1), (3, 10, 1), (4, 11, 1), (45, 12, 5), (46, 17, 1), (47, 18, 1), (48, 19, 1), (9, 20, 1), (4, 21, 1), (4, 22, 1), (9, 23, 1), (9, 24, 1), (3, 25, 1), (9, 26, 1), (4, 27, 1), (9, 28, 1), (3, 29, 1), (9, 30, 1), (49, 31, 1)], 32, 432, .agg #[.int .i64 0, .int .i64 0, .string ⟨#[]⟩, .int .i64 0, .bool false, .string ⟨#[]⟩, .string ⟨#[]⟩, .int .i64 0, .int .i64 0, .int .i64 0, .int .i64 0, .bool false, .int .i64 0, .string ⟨#[]⟩, .string ⟨#[]⟩, .slice none 0 0, .slice none 0 0, .slice none 0 0, .slice none 0 0, .slice none 0 0, .string ⟨#[]⟩, .bool false, .bool false, .string ⟨#[]⟩, .string ⟨#[]⟩, .int .i64 0, .string ⟨#[]⟩, .bool false, .string ⟨#[]⟩, .int .i64 0, .string ⟨#[]⟩, .slice none 0 0]⟩),
  (52, ⟨.other, 1, 8, .nilFunc⟩),
  (53, ⟨.int .i64, 1, 8, .int .i64 0⟩),
  (55, ⟨.other, 1, 8, .nilFunc⟩),
  (57, ⟨.other, 1, 8, .nilFunc⟩),
  (58, ⟨.other, 1, 8, .nilFunc⟩),
  (59, ⟨.other, 1, 8, .nilFunc⟩),
  (61, ⟨.other, 1, 8, .nilFunc⟩),
  (62, ⟨.ptr 125, 1, 8, .pointer none⟩),
  (63, ⟨.other, 1, 8, .nilFunc⟩),
  (64, ⟨.other, 1, 8, .nilFunc⟩),
  (66, ⟨.other, 1, 8, .nilFunc⟩),
  (67, ⟨.other, 1, 8, .nilFunc⟩),
  (68, ⟨.other, 1, 8, .nilFunc⟩),
  (69, ⟨.other, 1, 8, .nilFunc⟩),
  (70, ⟨.other, 1, 8, .nilFunc⟩),
  (71, ⟨.other, 1, 8, .nilFunc⟩),
  (72, ⟨.other, 1, 8, .nilFunc⟩),
  (73, ⟨.other, 1, 8, .nilFunc⟩),
  (74, ⟨.other, 1, 8, .nilFunc⟩),
  (75, ⟨.other, 1, 8, .nilFunc⟩),
  (76, ⟨.struct [(33, 0, 1)], 1, 24, .agg #[.slice none 0 0]⟩),
  (77, ⟨.struct [(33, 0, 1)], 1, 24, .agg #[.slice none 0 0]⟩),
  (78, ⟨.struct [(77, 0, 1), (62, 1, 1), (4, 2, 1)], 3, 40, .agg #[.slice none 0 0, .pointer none, .bool false]⟩),
  (79, ⟨.struct [(77, 0, 1), (62, 1, 1), (4, 2, 1)], 3, 40, .agg #[.slice none 0 0, .pointer none, .bool false]⟩),
  (80, ⟨.other, 1, 8, .nilFunc⟩),
  (81, ⟨.other, 1, 8, .nilFunc⟩),
  (82, ⟨.struct [(9, 0, 1), (46, 1, 1)], 2, 40, .agg #[.string ⟨#[]⟩, .slice none 0 0]⟩),
  (83, ⟨.struct [(9, 0, 1), (46, 1, 1)], 2, 40, .agg #[.string ⟨#[]⟩, .slice none 0 0]⟩),
  (84, ⟨.struct [(3, 0, 1), (9, 1, 1), (46, 2, 1)], 3, 48, .agg #[.int .i64 0, .string ⟨#[]⟩, .slice none 0 0]⟩),
  (85, ⟨.struct [(3, 0, 1), (9, 1, 1), (46, 2, 1)], 3, 48, .agg #[.int .i64 0, .string ⟨#[]⟩, .slice none 0 0]⟩),
  (86, ⟨.other, 1, 8, .nilFunc⟩),
  (87, ⟨.other, 1, 8, .nilFunc⟩),
  (88, ⟨.slice 90, 1, 24, .slice none 0 0⟩),
  (89, ⟨.struct [(3, 0, 1), (9, 1, 1), (88, 2, 1)], 3, 48, .agg #[.int .i64 0, .string ⟨#[]⟩, .slice none 0 0]⟩),
  (90, ⟨.struct [(3, 0, 1), (9, 1, 1), (88, 2, 1)], 3, 48, .agg #[.int .i64 0, .string ⟨#[]⟩, .slice none 0 0]⟩),
  (92, ⟨.other, 1, 8, .nilFunc⟩),
  (93, ⟨.other, 1, 8, .nilFunc⟩),
  (94, ⟨.struct [(9, 0, 1), (4, 1, 1), (4, 2, 1), (9, 3, 1)], 4, 40, .agg #[.string ⟨#[]⟩, .bool false, .bool false, .string ⟨#[]⟩]⟩),
  (95, ⟨.struct [(9, 0, 1), (4, 1, 1), (4, 2, 1), (9, 3, 1)], 4, 40, .agg #[.string ⟨#[]⟩, .bool false, .bool false, .string ⟨#[]⟩]⟩),
  (96, ⟨.other, 1, 8, .nilFunc⟩),
  (97, ⟨.other, 1, 8, .nilFunc⟩),
  (98, ⟨.other, 1, 8, .nilFunc⟩),
  (99, ⟨.other, 1, 8, .nilFunc⟩),
  (100, ⟨.other, 1, 8, .nilFunc⟩),
  (101, ⟨.ptr 103, 1, 8, .pointer none⟩),
  (102, ⟨.struct [(88, 0, 1), (4, 1, 1)], 2, 32, .agg #[.slice none 0 0, .bool false]⟩),
  (103, ⟨.struct [(88, 0, 1), (4, 1, 1)], 2, 32, .agg #[.slice none 0 0, .bool false]⟩),
  (104, ⟨.other, 1, 8, .nilFunc⟩),
  (105, ⟨.other, 1, 8, .nilFunc⟩),
  (106, ⟨.other, 1, 8, .nilFunc⟩),
  (107, ⟨.other, 1, 8, .nilFunc⟩),
  (108, ⟨.other, 1, 8, .nilFunc⟩),
  (109, ⟨.other, 1, 8, .nilFunc⟩),
  (111, ⟨.other, 1, 8, .nilFunc⟩),
  (112, ⟨.ptr 114, 1, 8, .pointer none⟩),
  (113, ⟨.struct [(88, 0, 1), (4, 1, 1)], 2, 32, .agg #[.slice none 0 0, .bool false]⟩),
  (114, ⟨.struct [(88, 0, 1), (4, 1, 1)], 2, 32, .agg #[.slice none 0 0, .bool false]⟩),
  (115, ⟨.other, 1, 8, .nilFunc⟩),
  (116, ⟨.other, 1, 8, .nilFunc⟩),
  (117, ⟨.struct [(3, 0, 1), (3, 1, 1)], 2, 16, .agg #[.int .i64 0, .int .i64 0]⟩),
  (118, ⟨.struct [(3, 0, 1), (3, 1, 1)], 2, 16, .agg #[.int .i64 0, .int .i64 0]⟩),
  (119, ⟨.array 19 118, 38, 304, .agg #[.int .i64 0, .int .i64 0, .int .i64 0, .int .i64 0, .int .i64 0, .int .i64 0, .int .i64 0, .int .i64 0, .int .i64 0, .int .i64 0, .int .i64 0, .int .i64 0, .int .i64 0, .int .i64 0, .int .i64 0, .int .i64 0, .int .i64 0, .int .i64 0, .int .i64 0, .int .i64 0, .int .i64 0, .int .i64 0, .int .i64 0, .int .i64 0, .int .i64 0, .int .i64 0, .int .i64 0, .int .i64 0, .int .i64 0, .int .i64 0, .int .i64 0, .int .i64 0, .int .i64 0, .int .i64 0, .int .i64 0, .int .i64 0, .int .i64 0, .int .i64 0]⟩),
  (120, ⟨.other, 1, 8, .nilFunc⟩),
  (121, ⟨.ptr 51, 1, 8, .pointer none⟩),
  (123, ⟨.other, 1, 8, .nilFunc⟩),
  (124, ⟨.struct [(9, 0, 1), (53, 1, 1)], 2, 24, .agg #[.string ⟨#[]⟩, .int .i64 0]⟩),
  (125, ⟨.struct [(9, 0, 1), (53, 1, 1)], 2, 24, .agg #[.string ⟨#[]⟩, .int .i64 0]⟩),
  (127, ⟨.other, 1, 8, .nilFunc⟩),
  (128, ⟨.other, 1, 8, .nilFunc⟩),
  (129, ⟨.slice 5, 1, 24, .slice none 0 0⟩),
  (130, ⟨.other, 1, 8, .nilFunc⟩),
  (131, ⟨.other, 1, 8, .nilFunc⟩),
  (132, ⟨.other, 1, 8, .nilFunc⟩),
  (133, ⟨.ptr 3, 1, 8, .pointer none⟩),
  (134, ⟨.other, 1, 8, .nilFunc⟩),
  (135, ⟨.other, 1, 8, .nilFunc⟩),
  (136, ⟨.other, 1, 8, .nilFunc⟩),
  (137, ⟨.other, 1, 8, .nilFunc⟩),
  (138, ⟨.other, 1, 8, .nilFunc⟩),
  (139, ⟨.other, 1, 8, .nilFunc⟩),
  (141, ⟨.other, 1, 8, .nilFunc⟩),
  (142, ⟨.other, 1, 8, .nilFunc⟩),
  (143, ⟨.other, 1, 8, .nilFunc⟩),
  (144, ⟨.int .u64, 1, 8, .int .u64 0⟩),
  (145, ⟨.other, 1, 8, .nilFunc⟩),
  (146, ⟨.other, 1, 8, .nilFunc⟩),
  (147, ⟨.struct [(3, 0, 1), (9, 1, 1)], 2, 24, .agg #[.int .i64 0, .string ⟨#[]⟩]⟩),
  (148, ⟨.struct [(3, 0, 1), (9, 1, 1)], 2, 24, .agg #[.int .i64 0, .string ⟨#[]⟩]⟩),
  (150, ⟨.other, 1, 8, .nilFunc⟩),
  (151, ⟨.other, 1, 8, .nilFunc⟩),
  (152, ⟨.other, 1, 8, .nilFunc⟩),
  (153, ⟨.other, 1, 8, .nilFunc⟩),
  (155, ⟨.other, 1, 8, .nilFunc⟩),
  (156, ⟨.other, 1, 8, .nilFunc⟩),
  (158, ⟨.other, 1, 8, .nilFunc⟩),
  (160, ⟨.other, 1, 8, .nilFunc⟩),
  (161, ⟨.ptr 163, 1, 8, .pointer none⟩),
  (162, ⟨.struct [(161, 0, 1), (129, 1, 1)], 2, 32, .agg #[.pointer none, .slice none 0 0]⟩),
  (163, ⟨.struct [(161, 0, 1), (129, 1, 1)], 2, 32, .agg #[.pointer none, .slice none 0 0]⟩),
  (164, ⟨.other, 1, 8, .nilFunc⟩),
  (165, ⟨.other, 1, 16, .nilIface⟩),
  (166, ⟨.other, 1, 16, .nilIface⟩),
  (168, ⟨.other, 1, 8, .nilFunc⟩),
  (169, ⟨.slice 33, 1, 24, .slice none 0 0⟩),
  (170, ⟨.other, 1, 8, .nilFunc⟩),
  (171, ⟨.other, 1, 8, .nilFunc⟩),
  (172, ⟨.other, 1, 8, .nilFunc⟩),
  (173, ⟨.other, 1, 8, .nilFunc⟩),
  (174, ⟨.other, 1, 8, .nilFunc⟩),
  (176, ⟨.other, 1, 8, .nilFunc⟩),
  (178, ⟨.other, 1, 8, .nilFunc⟩),
  (179, ⟨.slice 112, 1, 24, .slice none 0 0⟩),
  (181, ⟨.other, 1, 8, .nilFunc⟩),
  (182, ⟨.ptr 5, 1, 8, .pointer none⟩),
  (183, ⟨.ptr 185, 1, 8, .pointer none⟩),
  (184, ⟨.struct [(3, 0, 1)], 1, 8, .agg #[.int .i64 0]⟩),
  (185, ⟨.struct [(3, 0, 1)], 1, 8, .agg #[.int .i64 0]⟩),
  (186, ⟨.other, 1, 8, .nilFunc⟩),
  (188, ⟨.other, 1, 8, .nilFunc⟩),
  (190, ⟨.other, 1, 8, .nilFunc⟩),
  (192, ⟨.other, 1, 8, .nilFunc⟩),
  (193, ⟨.other, 1, 8, .nilFunc⟩),
  (194, ⟨.other, 1, 8, .nilFunc⟩),
  (195, ⟨.other, 1, 8, .nilFunc⟩),
  (196, ⟨.other, 1, 8, .nilFunc⟩),
  (197, ⟨.other, 1, 8, .nilFunc⟩),
  (203, ⟨.other, 1, 8, .nilFunc⟩),
  (204, ⟨.int .u32, 1, 4, .int .u32 0⟩),
  (207, ⟨.other, 1, 8, .nilFunc⟩)]
theorem tyf1 : TD.fits Tryd.prog 1 (.other) := trivial
theorem tyi1 : (Tryd.prog.info? 1).map (fun i => (i.size, i.bytes, i.zero)) = some (1, 8, some (.nilFunc)) := by kernel_rfl
theorem tyf2 : Tryd.prog.underlying 2 = some (.int .i64) := by kernel_rfl
theorem tyi2 : (Tryd.prog.info? 2).map (fun i => (i.size, i.bytes, i.zero)) = some (1, 8, some (.int .i64 0)) := by kernel_rfl
theorem tyf3 : Tryd.prog.underlying 3 = some (.int .i64) := by kernel_rfl
theorem tyi3 : (Tryd.prog.info? 3).map (fun i => (i.size, i.bytes, i.zero)) = some (1, 8, some (.int .i64 0)) := by kernel_rfl
theorem tyf4 : Tryd.prog.underlying 4 = some .bool := by kernel_rfl
theorem tyi4 : (Tryd.prog.info? 4).map (fun i => (i.size, i.bytes, i.zero)) = some (1, 1, some (.bool false)) := by kernel_rfl
theorem tyf5 : Tryd.prog.underlying 5 = some (.int .u8) := by kernel_rfl
theorem tyi5 : (Tryd.prog.info? 5).map (fun i => (i.size, i.bytes, i.zero)) = some (1, 1, some (.int .u8 0)) := by kernel_rfl
theorem tyf9 : Tryd.prog.underlying 9 = some .string := by kernel_rfl
theorem tyi9 : (Tryd.prog.info? 9).map (fun i => (i.size, i.bytes, i.zero)) = some (1, 16, some (.string ⟨#[]⟩)) := by kernel_rfl
theorem tyf12 : Tryd.prog.underlying 12 = some (.int .u64) := by kernel_rfl
theorem tyi12 : (Tryd.prog.info? 12).map (fun i => (i.size, i.bytes, i.zero)) = some (1, 8, some (.int .u64 0)) := by kernel_rfl
theorem tyf13 : structOf Tryd.prog 13 = some [(9, 0, some 1), (12, 1, some 1)] := by kernel_rfl
theorem tyi13 : (Tryd.prog.info? 13).map (fun i => (i.size, i.bytes, i.zero)) = some (2, 24, some (.agg #[.string ⟨#[]⟩, .int .u64 0])) := by kernel_rfl
theorem tyf20 : TD.fits Tryd.prog 20 (.other) := trivial
theorem tyi20 : (Tryd.prog.info? 20).map (fun i => (i.size, i.bytes, i.zero)) = some (1, 16, some (.nilIface)) := by kernel_rfl
theorem tyf21 : Tryd.prog.underlying 21 = some (.int .i32) := by kernel_rfl
theorem tyi21 : (Tryd.prog.info? 21).map (fun i => (i.size, i.bytes, i.zero)) = some (1, 4, some (.int .i32 0)) := by kernel_rfl
theorem tyf22 : Tryd.prog.underlying 22 = some (.slice 3) := by kernel_rfl
theorem tyi22 : (Tryd.prog.info? 22).map (fun i => (i.size, i.bytes, i.zero)) = some (1, 24, some (.slice none 0 0)) := by kernel_rfl
theorem tyf23 : TD.fits Tryd.prog 23 (.other) := trivial
theorem tyi23 : (Tryd.prog.info? 23).map (fun i => (i.size, i.bytes, i.zero)) = some (1, 8, some (.nilFunc)) := by kernel_rfl
theorem tyf24 : Tryd.prog.underlying 24 = some (.pointer 79) := by kernel_rfl
theorem tyi24 : (Tryd.prog.info? 24).map (fun i => (i.size, i.bytes, i.zero)) = some (1, 8, some (.pointer none)) := by kernel_rfl
theorem tyf25 : TD.fits Tryd.prog 25 (.other) := trivial
theorem tyi25 : (Tryd.prog.info? 25).map (fun i => (i.size, i.bytes, i.zero)) = some (1, 8, some (.nilFunc)) := by kernel_rfl
theorem tyf26 : Tryd.prog.underlying 26 = some (.slice 51) := by kernel_rfl
theorem tyi26 : (Tryd.prog.info? 26).map (fun i => (i.size, i.bytes, i.zero)) = some (1, 24, some (.slice none 0 0)) := by kernel_rfl
theorem tyf28 : TD.fits Tryd.prog 28 (.other) := trivial
theorem tyi28 : (Tryd.prog.info? 28).map (fun i => (i.size, i.bytes, i.zero)) = some (1, 8, some (.nilFunc)) := by kernel_rfl
theorem tyf29 : Tryd.prog.underlying 29 = some (.int .u64) := by kernel_rfl
theorem tyi29 : (Tryd.prog.info? 29).map (fun i => (i.size, i.bytes, i.zero)) = some (1, 8, some (.int .u64 0)) := by kernel_rfl
theorem tyf30 : TD.fits Tryd.prog 30 (.other) := trivial
theorem tyi30 : (Tryd.prog.info? 30).map (fun i => (i.size, i.bytes, i.zero)) = some (1, 8, some (.nilFunc)) := by kernel_rfl
theorem tyf31 : TD.fits Tryd.prog 31 (.other) := trivial
theorem tyi31 : (Tryd.prog.info? 31).map (fun i => (i.size, i.bytes, i.zero)) = some (1, 8, some (.nilFunc)) := by kernel_rfl
theorem tyf32 : Tryd.prog.underlying 32 = some (.slice 38) := by kernel_rfl
theorem tyi32 : (Tryd.prog.info? 32).map (fun i => (i.size, i.bytes, i.zero)) = some (1, 24, some (.slice none 0 0)) := by kernel_rfl
theorem tyf33 : Tryd.prog.underlying 33 = some (.slice 38) := by kernel_rfl
theorem tyi33 : (Tryd.prog.info? 33).map (fun i => (i.size, i.bytes, i.zero)) = some (1, 24, some (.slice none 0 0)) := by kernel_rfl
theorem tyf34 : TD.fits Tryd.prog 34 (.other) := trivial
theorem tyi34 : (Tryd.prog.info? 34).map (fun i => (i.size, i.bytes, i.zero)) = some (1, 8, some (.nilFunc)) := by kernel_rfl
theorem tyf35 : TD.fits Tryd.prog 35 (.other) := trivial
theorem tyi35 : (Tryd.prog.info? 35).map (fun i => (i.size, i.bytes, i.zero)) = some (1, 8, some (.nilFunc)) := by kernel_rfl
theorem tyf36 : TD.fits Tryd.prog 36 (.other) := trivial
theorem tyi36 : (Tryd.prog.info? 36).map (fun i => (i.size, i.bytes, i.zero)) = some (1, 8, some (.nilFunc)) := by kernel_rfl
theorem tyf37 : Tryd.prog.underlying 37 = some (.slice 40) := by kernel_rfl
theorem tyi37 : (Tryd.prog.info? 37).map (fun i => (i.size, i.bytes, i.zero)) = some (1, 24, some (.slice none 0 0)) := by kernel_rfl
theorem tyf38 : Tryd.prog.underlying 38 = some (.slice 40) := by kernel_rfl
theorem tyi38 : (Tryd.prog.info? 38).map (fun i => (i.size, i.bytes, i.zero)) = some (1, 24, some (.slice none 0 0)) := by kernel_rfl
theorem tyf39 : structOf Tryd.prog 39 = some [(9, 0, some 1), (9, 1, some 1)] := by kernel_rfl
theorem tyi39 : (Tryd.prog.info? 39).map (fun i => (i.size, i.bytes, i.zero)) = some (2, 32, some (.agg #[.string ⟨#[]⟩, .string ⟨#[]⟩])) := by kernel_rfl
theorem tyf40 : structOf Tryd.prog 40 = some [(9, 0, some 1), (9, 1, some 1)] := by kernel_rfl
theorem tyi40 : (Tryd.prog.info? 40).map (fun i => (i.size, i.bytes, i.zero)) = some (2, 32, some (.agg #[.string ⟨#[]⟩, .string ⟨#[]⟩])) := by kernel_rfl
theorem tyf41 : TD.fits Tryd.prog 41 (.other) := trivial
theorem tyi41 : (Tryd.prog.info? 41).map (fun i => (i.size, i.bytes, i.zero)) = some (1, 8, some (.nilFunc)) := by kernel_rfl
theorem tyf42 : Tryd.prog.underlying 42 = some (.slice 148) := by kernel_rfl
theorem tyi42 : (Tryd.prog.info? 42).map (fun i => (i.size, i.bytes, i.zero)) = some (1, 24, some (.slice none 0 0)) := by kernel_rfl
theorem tyf43 : Tryd.prog.underlying 43 = some (.slice 45) := by kernel_rfl
theorem tyi43 : (Tryd.prog.info? 43).map (fun i => (i.size, i.bytes, i.zero)) = some (1, 24, some (.slice none 0 0)) := by kernel_rfl
theorem tyf44 : structOf Tryd.prog 44 = some [(3, 0, some 1), (9, 1, some 1), (9, 2, some 1), (42, 3, some 1), (43, 4, some 1)] := by kernel_rfl
theorem tyi44 : (Tryd.prog.info? 44).map (fun i => (i.size, i.bytes, i.zero)) = some (5, 88, some (.agg #[.int .i64 0, .string ⟨#[]⟩, .string ⟨#[]⟩, .slice none 0 0, .slice none 0 0])) := by kernel_rfl
theorem tyf45 : structOf Tryd.prog 45 = some [(3, 0, some 1), (9, 1, some 1), (9, 2, some 1), (42, 3, some 1), (43, 4, some 1)] := by kernel_rfl
theorem tyi45 : (Tryd.prog.info? 45).map (fun i => (i.size, i.bytes, i.zero)) = some (5, 88, some (.agg #[.int .i64 0, .string ⟨#[]⟩, .string ⟨#[]⟩, .slice none 0 0, .slice none 0 0])) := by kernel_rfl
theorem tyf46 : Tryd.prog.underlying 46 = some (.slice 9) := by kernel_rfl
theorem tyi46 : (Tryd.prog.info? 46).map (fun i => (i.size, i.bytes, i.zero)) = some (1, 24, some (.slice none 0 0)) := by kernel_rfl
theorem tyf47 : Tryd.prog.underlying 47 = some (.slice 83) := by kernel_rfl
theorem tyi47 : (Tryd.prog.info? 47).map (fun i => (i.size, i.bytes, i.zero)) = some (1, 24, some (.slice none 0 0)) := by kernel_rfl
theorem tyf48 : Tryd.prog.underlying 48 = some (.slice 85) := by kernel_rfl
theorem tyi48 : (Tryd.prog.info? 48).map (fun i => (i.size, i.bytes, i.zero)) = some (1, 24, some (.slice none 0 0)) := by kernel_rfl
theorem tyf49 : Tryd.prog.underlying 49 = some (.slice 95) := by kernel_rfl
theorem tyi49 : (Tryd.prog.info? 49).map (fun i => (i.size, i.bytes, i.zero)) = some (1, 24, some (.slice none 0 0)) := by kernel_rfl
theorem tyf50 : structOf Tryd.prog 50 = some [(3, 0, some 1), (3, 1, some 1), (9, 2, some 1), (3, 3, some 1), (4, 4, some 1), (9, 5, some 1), (9, 6, some 1), (3, 7, some 1), (3, 8, some 1), (3, 9, some 1), (3, 10, some 1), (4, 11, some 1), (45, 12, some 5), (46, 17, some 1), (47, 18, some 1), (48, 19, some 1), (9, 20, some 1), (4, 21, some 1), (4, 22, some 1), (9, 23, some 1), (9, 24, some 1), (3, 25, some 1), (9, 26, some 1), (4, 27, some 1), (9, 28, some 1), (3, 29, some 1), (9, 30, some 1), (49, 31, some 1)] := by kernel_rfl
theorem tyi50 : (Tryd.prog.info? 50).map (fun i => (i.size, i.bytes, i.zero)) = some (32, 432, some (.agg #[.int .i64 0, .int .i64 0, .string ⟨#[]⟩, .int .i64 0, .bool false, .string ⟨#[]⟩, .string ⟨#[]⟩, .int .i64 0, .int .i64 0, .int .i64 0, .int .i64 0, .bool false, .int .i64 0, .string ⟨#[]⟩, .string ⟨#[]⟩, .slice none 0 0, .slice none 0 0, .slice none 0 0, .slice none 0 0, .slice none 0 0, .string ⟨#[]⟩, .bool false, .bool false, .string ⟨#[]⟩, .string ⟨#[]⟩, .int .i64 0, .string ⟨#[]⟩, .bool false, .string ⟨#[]⟩, .int .i64 0, .string ⟨#[]⟩, .slice none 0 0])) := by kernel_rfl
theorem tyf51 : structOf Tryd.prog 51 = some [(3, 0, some 1), (3, 1, some 1), (9, 2, some 1), (3, 3, some 1), (4, 4, some 1), (9, 5, some 1), (9, 6, some 1), (3, 7, some 1), (3, 8, some 1), (3, 9, some 1), (3, 10, some 1), (4, 11, some 1), (45, 12, some 5), (46, 17, some 1), (47, 18, some 1), (48, 19, some 1), (9, 20, some 1), (4, 21, some 1), (4, 22, some 1), (9, 23, some 1), (9, 24, some 1), (3, 25, some 1), (9, 26, some 1), (4, 27, some 1), (9, 28, some 1), (3, 29, some 1), (9, 30, some 1), (49, 31, some 1)] := by kernel_rfl
theorem tyi51 : (Tryd.prog.info? 51).map (fun i => (i.size, i.bytes, i.zero)) = some (32, 432, some (.agg #[.int .i64 0, .int .i64 0, .string ⟨#[]⟩, .int .i64 0, .bool false, .string ⟨#[]⟩, .string ⟨#[]⟩, .int .i64 0, .int .i64 0, .int .i64 0, .int .i64 0, .bool false, .int .i64 0, .string ⟨#[]⟩, .string ⟨#[]⟩, .slice none 0 0, .slice none 0 0, .slice none 0 0, .slice none 0 0, .slice none 0 0, .string ⟨#[]⟩, .bool false, .bool false, .string ⟨#[]⟩, .string ⟨#[]⟩, .int .i64 0, .string ⟨#[]⟩, .bool false, .string ⟨#[]⟩, .int .i64 0, .string ⟨#[]⟩, .slice none 0 0])) := by kernel_rfl
theorem tyf52 : TD.fits Tryd.prog 52 (.other) := trivial
theorem tyi52 : (Tryd.prog.info? 52).map (fun i => (i.size, i.bytes, i.zero)) = some (1, 8, some (.nilFunc)) := by kernel_rfl
theorem tyf53 : Tryd.prog.underlying 53 = some (.int .i64) := by kernel_rfl
theorem tyi53 : (Tryd.prog.info? 53).map (fun i => (i.size, i.bytes, i.zero)) = some (1, 8, some (.int .i64 0)) := by kernel_rfl
theorem tyf55 : TD.fits Tryd.prog 55 (.other) := trivial
theorem tyi55 : (Tryd.prog.info? 55).map (fun i => (i.size, i.bytes, i.zero)) = some (1, 8, some (.nilFunc)) := by kernel_rfl
theorem tyf57 : TD.fits Tryd.prog 57 (.other) := trivial
theorem tyi57 : (Tryd.prog.info? 57).map (fun i => (i.size, i.bytes, i.zero)) = some (1, 8, some (.nilFunc)) := by kernel_rfl
theorem tyf58 : TD.fits Tryd.prog 58 (.other) := trivial
theorem tyi58 : (Tryd.prog.info? 58).map (fun i => (i.size, i.bytes, i.zero)) = some (1, 8, some (.nilFunc)) := by kernel_rfl
theorem tyf59 : TD.fits Tryd.prog 59 (.other) := trivial
theorem tyi59 : (Tryd.prog.info? 59).map (fun i => (i.size, i.bytes, i.zero)) = some (1, 8, some (.nilFunc)) := by kernel_rfl
theorem tyf61 : TD.fits Tryd.prog 61 (.other) := trivial
theorem tyi61 : (Tryd.prog.info? 61).map (fun i => (i.size, i.bytes, i.zero)) = some (1, 8, some (.nilFunc)) := by kernel_rfl
theorem tyf62 : Tryd.prog.underlying 62 = some (.pointer 125) := by kernel_rfl
theorem tyi62 : (Tryd.prog.info? 62).map (fun i => (i.size, i.bytes, i.zero)) = some (1, 8, some (.pointer none)) := by kernel_rfl
theorem tyf63 : TD.fits Tryd.prog 63 (.other) := trivial
theorem tyi63 : (Tryd.prog.info? 63).map (fun i => (i.size, i.bytes, i.zero)) = some (1, 8, some (.nilFunc)) := by kernel_rfl
theorem tyf64 : TD.fits Tryd.prog 64 (.other) := trivial
theorem tyi64 : (Tryd.prog.info? 64).map (fun i => (i.size, i.bytes, i.zero)) = some (1, 8, some (.nilFunc)) := by kernel_rfl
theorem tyf66 : TD.fits Tryd.prog 66 (.other) := trivial
theorem tyi66 : (Tryd.prog.info? 66).map (fun i => (i.size, i.bytes, i.zero)) = some (1, 8, some (.nilFunc)) := by kernel_rfl
theorem tyf67 : TD.fits Tryd.prog 67 (.other) := trivial
theorem tyi67 : (Tryd.prog.info? 67).map (fun i => (i.size, i.bytes, i.zero)) = some (1, 8, some (.nilFunc)) := by kernel_rfl
theorem tyf68 : TD.fits Tryd.prog 68 (.other) := trivial
theorem tyi68 : (Tryd.prog.info? 68).map (fun i => (i.size, i.bytes, i.zero)) = some (1, 8, some (.nilFunc)) := by kernel_rfl
theorem tyf69 : TD.fits Tryd.prog 69 (.other) := trivial
theorem tyi69 : (Tryd.prog.info? 69).map (fun i => (i.size, i.bytes, i.zero)) = some (1, 8, some (.nilFunc)) := by kernel_rfl
theorem tyf70 : TD.fits Tryd.prog 70 (.other) := trivial
theorem tyi70 : (Tryd.prog.info? 70).map (fun i => (i.size, i.bytes, i.zero)) = some (1, 8, some (.nilFunc)) := by kernel_rfl
theorem tyf71 : TD.fits Tryd.prog 71 (.other) := trivial
theorem tyi71 : (Tryd.prog.info? 71).map (fun i => (i.size, i.bytes, i.zero)) = some (1, 8, some (.nilFunc)) := by kernel_rfl
theorem tyf72 : TD.fits Tryd.prog 72 (.other) := trivial
theorem tyi72 : (Tryd.prog.info? 72).map (fun i => (i.size, i.bytes, i.zero)) = some (1, 8, some (.nilFunc)) := by kernel_rfl
theorem tyf73 : TD.fits Tryd.prog 73 (.other) := trivial
theorem tyi73 : (Tryd.prog.info? 73).map (fun i => (i.size, i.bytes, i.zero)) = some (1, 8, some (.nilFunc)) := by kernel_rfl
theorem tyf74 : TD.fits Tryd.prog 74 (.other) := trivial
theorem tyi74 : (Tryd.prog.info? 74).map (fun i => (i.size, i.bytes, i.zero)) = some (1, 8, some (.nilFunc)) := by kernel_rfl
theorem tyf75 : TD.fits Tryd.prog 75 (.other) := trivial
theorem tyi75 : (Tryd.prog.info? 75).map (fun i => (i.size, i.bytes, i.zero)) = some (1, 8, some (.nilFunc)) := by kernel_rfl
theorem tyf76 : structOf Tryd.prog 76 = some [(33, 0, some 1)] := by kernel_rfl
theorem tyi76 : (Tryd.prog.info? 76).map (fun i => (i.size, i.bytes, i.zero)) = some (1, 24, some (.agg #[.slice none 0 0])) := by kernel_rfl
theorem tyf77 : structOf Tryd.prog 77 = some [(33, 0, some 1)] := by kernel_rfl
theorem tyi77 : (Tryd.prog.info? 77).map (fun i => (i.size, i.bytes, i.zero)) = some (1, 24, some (.agg #[.slice none 0 0])) := by kernel_rfl
theorem tyf78 : structOf Tryd.prog 78 = some [(77, 0, some 1), (62, 1, some 1), (4, 2, some 1)] := by kernel_rfl
theorem tyi78 : (Tryd.prog.info? 78).map (fun i => (i.size, i.bytes, i.zero)) = some (3, 40, some (.agg #[.slice none 0 0, .pointer none, .bool false])) := by kernel_rfl
theorem tyf79 : structOf Tryd.prog 79 = some [(77, 0, some 1), (62, 1, some 1), (4, 2, some 1)] := by kernel_rfl
theorem tyi79 : (Tryd.prog.info? 79).map (fun i => (i.size, i.bytes, i.zero)) = some (3, 40, some (.agg #[.slice none 0 0, .pointer none, .bool false])) := by kernel_rfl
theorem tyf80 : TD.fits Tryd.prog 80 (.other) := trivial
theorem tyi80 : (Tryd.prog.info? 80).map (fun i => (i.size, i.bytes, i.zero)) = some (1, 8, some (.nilFunc)) := by kernel_rfl
theorem tyf81 : TD.fits Tryd.prog 81 (.other) := trivial
theorem tyi81 : (Tryd.prog.info? 81).map (fun i => (i.size, i.bytes, i.zero)) = some (1, 8, some (.nilFunc)) := by kernel_rfl
theorem tyf82 : structOf Tryd.prog 82 = some [(9, 0, some 1), (46, 1, some 1)] := by kernel_rfl
theorem tyi82 : (Tryd.prog.info? 82).map (fun i => (i.size, i.bytes, i.zero)) = some (2, 40, some (.agg #[.string ⟨#[]⟩, .slice none 0 0])) := by kernel_rfl
theorem tyf83 : structOf Tryd.prog 83 = some [(9, 0, some 1), (46, 1, some 1)] := by kernel_rfl
theorem tyi83 : (Tryd.prog.info? 83).map (fun i => (i.size, i.bytes, i.zero)) = some (2, 40, some (.agg #[.string ⟨#[]⟩, .slice none 0 0])) := by kernel_rfl
theorem tyf84 : structOf Tryd.prog 84 = some [(3, 0, some 1), (9, 1, some 1), (46, 2, some 1)] := by kernel_rfl
theorem tyi84 : (Tryd.prog.info? 84).map (fun i => (i.size, i.bytes, i.zero)) = some (3, 48, some (.agg #[.int .i64 0, .string ⟨#[]⟩, .slice none 0 0])) := by kernel_rfl
theorem tyf85 : structOf Tryd.prog 85 = some [(3, 0, some 1), (9, 1, some 1), (46, 2, some 1)] := by kernel_rfl
theorem tyi85 : (Tryd.prog.info? 85).map (fun i => (i.size, i.bytes, i.zero)) = some (3, 48, some (.agg #[.int .i64 0, .string ⟨#[]⟩, .slice none 0 0])) := by kernel_rfl
theorem tyf86 : TD.fits Tryd.prog 86 (.other) := trivial
theorem tyi86 : (Tryd.prog.info? 86).map (fun i => (i.size, i.bytes, i.zero)) = some (1, 8, some (.nilFunc)) := by kernel_rfl
theorem tyf87 : TD.fits Tryd.prog 87 (.other) := trivial
theorem tyi87 : (Tryd.prog.info? 87).map (fun i => (i.size, i.bytes, i.zero)) = some (1, 8, some (.nilFunc)) := by kernel_rfl
theorem tyf88 : Tryd.prog.underlying 88 = some (.slice 90) := by kernel_rfl
theorem tyi88 : (Tryd.prog.info? 88).map (fun i => (i.size, i.bytes, i.zero)) = some (1, 24, some (.slice none 0 0)) := by kernel_rfl
theorem tyf89 : structOf Tryd.prog 89 = some [(3, 0, some 1), (9, 1, some 1), (88, 2, some 1)] := by kernel_rfl
theorem tyi89 : (Tryd.prog.info? 89).map (fun i => (i.size, i.bytes, i.zero)) = some (3, 48, some (.agg #[.int .i64 0, .string ⟨#[]⟩, .slice none 0 0])) := by kernel_rfl
theorem tyf90 : structOf Tryd.prog 90 = some [(3, 0, some 1), (9, 1, some 1), (88, 2, some 1)] := by kernel_rfl
theorem tyi90 : (Tryd.prog.info? 90).map (fun i => (i.size, i.bytes, i.zero)) = some (3, 48, some (.agg #[.int .i64 0, .string ⟨#[]⟩, .slice none 0 0])) := by kernel_rfl
theorem tyf92 : TD.fits Tryd.prog 92 (.other) := trivial
theorem tyi92 : (Tryd.prog.info? 92).map (fun i => (i.size, i.bytes, i.zero)) = some (1, 8, some (.nilFunc)) := by kernel_rfl
theorem tyf93 : TD.fits Tryd.prog 93 (.other) := trivial
theorem tyi93 : (Tryd.prog.info? 93).map (fun i => (i.size, i.bytes, i.zero)) = some (1, 8, some (.nilFunc)) := by kernel_rfl
theorem tyf94 : structOf Tryd.prog 94 = some [(9, 0, some 1), (4, 1, some 1), (4, 2, some 1), (9, 3, some 1)] := by kernel_rfl
theorem tyi94 : (Tryd.prog.info? 94).map (fun i => (i.size, i.bytes, i.zero)) = some (4, 40, some (.agg #[.string ⟨#[]⟩, .bool false, .bool false, .string ⟨#[]⟩])) := by kernel_rfl
theorem tyf95 : structOf Tryd.prog 95 = some [(9, 0, some 1), (4, 1, some 1), (4, 2, some 1), (9, 3, some 1)] := by kernel_rfl
theorem tyi95 : (Tryd.prog.info? 95).map (fun i => (i.size, i.bytes, i.zero)) = some (4, 40, some (.agg #[.string ⟨#[]⟩, .bool false, .bool false, .string ⟨#[]⟩])) := by kernel_rfl
theorem tyf96 : TD.fits Tryd.prog 96 (.other) := trivial
theorem tyi96 : (Tryd.prog.info? 96).map (fun i => (i.size, i.bytes, i.zero)) = some (1, 8, some (.nilFunc)) := by kernel_rfl
theorem tyf97 : TD.fits Tryd.prog 97 (.other) := trivial
theorem tyi97 : (Tryd.prog.info? 97).map (fun i => (i.size, i.bytes, i.zero)) = some (1, 8, some (.nilFunc)) := by kernel_rfl
theorem tyf98 : TD.fits Tryd.prog 98 (.other) := trivial
theorem tyi98 : (Tryd.prog.info? 98).map (fun i => (i.size, i.bytes, i.zero)) = some (1, 8, some (.nilFunc)) := by kernel_rfl
theorem tyf99 : TD.fits Tryd.prog 99 (.other) := trivial
theorem tyi99 : (Tryd.prog.info? 99).map (fun i => (i.size, i.bytes, i.zero)) = some (1, 8, some (.nilFunc)) := by kernel_rfl
theorem tyf100 : TD.fits Tryd.prog 100 (.other) := trivial
theorem tyi100 : (Tryd.prog.info? 100).map (fun i => (i.size, i.bytes, i.zero)) = some (1, 8, some (.nilFunc)) := by kernel_rfl
theorem tyf101 : Tryd.prog.underlying 101 = some (.pointer 103) := by kernel_rfl
theorem tyi101 : (Tryd.prog.info? 101).map (fun i => (i.size, i.bytes, i.zero)) = some (1, 8, some (.pointer none)) := by kernel_rfl
theorem tyf102 : structOf Tryd.prog 102 = some [(88, 0, some 1), (4, 1, some 1)] := by kernel_rfl
theorem tyi102 : (Tryd.prog.info? 102).map (fun i => (i.size, i.bytes, i.zero)) = some (2, 32, some (.agg #[.slice none 0 0, .bool false])) := by kernel_rfl
theorem tyf103 : structOf Tryd.prog 103 = some [(88, 0, some 1), (4, 1, some 1)] := by kernel_rfl
theorem tyi103 : (Tryd.prog.info? 103).map (fun i => (i.size, i.bytes, i.zero)) = some (2, 32, some (.agg #[.slice none 0 0, .bool false])) := by kernel_rfl
theorem tyf104 : TD.fits Tryd.prog 104 (.other) := trivial
theorem tyi104 : (Tryd.prog.info? 104).map (fun i => (i.size, i.bytes, i.zero)) = some (1, 8, some (.nilFunc)) := by kernel_rfl
theorem tyf105 : TD.fits Tryd.prog 105 (.other) := trivial
theorem tyi105 : (Tryd.prog.info? 105).map (fun i => (i.size, i.bytes, i.zero)) = some (1, 8, some (.nilFunc)) := by kernel_rfl
theorem tyf106 : TD.fits Tryd.prog 106 (.other) := trivial
theorem tyi106 : (Tryd.prog.info? 106).map (fun i => (i.size, i.bytes, i.zero)) = some (1, 8, some (.nilFunc)) := by kernel_rfl
theorem tyf107 : TD.fits Tryd.prog 107 (.other) := trivial
theorem tyi107 : (Tryd.prog.info? 107).map (fun i => (i.size, i.bytes, i.zero)) = some (1, 8, some (.nilFunc)) := by kernel_rfl
theorem tyf108 : TD.fits Tryd.prog 108 (.other) := trivial
theorem tyi108 : (Tryd.prog.info? 108).map (fun i => (i.size, i.bytes, i.zero)) = some (1, 8, some (.nilFunc)) := by kernel_rfl
theorem tyf109 : TD.fits Tryd.prog 109 (.other) := trivial
theorem tyi109 : (Tryd.prog.info? 109).map (fun i => (i.size, i.bytes, i.zero)) = some (1, 8, some (.nilFunc)) := by kernel_rfl
theorem tyf111 : TD.fits Tryd.prog 111 (.other) := trivial
theorem tyi111 : (Tryd.prog.info? 111).map (fun i => (i.size, i.bytes, i.zero)) = some (1, 8, some (.nilFunc)) := by kernel_rfl
theorem tyf112 : Tryd.prog.underlying 112 = some (.pointer 114) := by kernel_rfl
theorem tyi112 : (Tryd.prog.info? 112).map (fun i => (i.size, i.bytes, i.zero)) = some (1, 8, some (.pointer none)) := by kernel_rfl
theorem tyf113 : structOf Tryd.prog 113 = some [(88, 0, some 1), (4, 1, some 1)] := by kernel_rfl
theorem tyi113 : (Tryd.prog.info? 113).map (fun i => (i.size, i.bytes, i.zero)) = some (2, 32, some (.agg #[.slice none 0 0, .bool false])) := by kernel_rfl
theorem tyf114 : structOf Tryd.prog 114 = some [(88, 0, some 1), (4, 1, some 1)] := by kernel_rfl
theorem tyi114 : (Tryd.prog.info? 114).map (fun i => (i.size, i.bytes, i.zero)) = some (2, 32, some (.agg #[.slice none 0 0, .bool false])) := by kernel_rfl
theorem tyf115 : TD.fits Tryd.prog 115 (.other) := trivial
theorem tyi115 : (Tryd.prog.info? 115).map (fun i => (i.size, i.bytes, i.zero)) = some (1, 8, some (.nilFunc)) := by kernel_rfl
theorem tyf116 : TD.fits Tryd.prog 116 (.other) := trivial
theorem tyi116 : (Tryd.prog.info? 116).map (fun i => (i.size, i.bytes, i.zero)) = some (1, 8, some (.nilFunc)) := by kernel_rfl
theorem tyf117 : structOf Tryd.prog 117 = some [(3, 0, some 1), (3, 1, some 1)] := by kernel_rfl
theorem tyi117 : (Tryd.prog.info? 117).map (fun i => (i.size, i.bytes, i.zero)) = some (2, 16, some (.agg #[.int .i64 0, .int .i64 0])) := by kernel_rfl
theorem tyf118 : structOf Tryd.prog 118 = some [(3, 0, some 1), (3, 1, some 1)] := by kernel_rfl
theorem tyi118 : (Tryd.prog.info? 118).map (fun i => (i.size, i.bytes, i.zero)) = some (2, 16, some (.agg #[.int .i64 0, .int .i64 0])) := by kernel_rfl
theorem tyf119 : Tryd.prog.underlying 119 = some (.array 19 118) := by kernel_rfl
theorem tyi119 : (Tryd.prog.info? 119).map (fun i => (i.size, i.bytes, i.zero)) = some (38, 304, some (.agg #[.int .i64 0, .int .i64 0, .int .i64 0, .int .i64 0, .int .i64 0, .int .i64 0, .int .i64 0, .int .i64 0, .int .i64 0, .int .i64 0, .int .i64 0, .int .i64 0, .int .i64 0, .int .i64 0, .int .i64 0, .int .i64 0, .int .i64 0, .int .i64 0, .int .i64 0, .int .i64 0, .int .i64 0, .int .i64 0, .int .i64 0, .int .i64 0, .int .i64 0, .int .i64 0, .int .i64 0, .int .i64 0, .int .i64 0, .int .i64 0, .int .i64 0, .int .i64 0, .int .i64 0, .int .i64 0, .int .i64 0, .int .i64 0, .int .i64 0, .int .i64 0])) := by kernel_rfl
theorem tyf120 : TD.fits Tryd.prog 120 (.other) := trivial
theorem tyi120 : (Tryd.prog.info? 120).map (fun i => (i.size, i.bytes, i.zero)) = some (1, 8, some (.nilFunc)) := by kernel_rfl
theorem tyf121 : Tryd.prog.underlying 121 = some (.pointer 51) := by kernel_rfl
theorem tyi121 : (Tryd.prog.info? 121).map (fun i => (i.size, i.bytes, i.zero)) = some (1, 8, some (.pointer none)) := by kernel_rfl
theorem tyf123 : TD.fits Tryd.prog 123 (.other) := trivial
theorem tyi123 : (Tryd.prog.info? 123).map (fun i => (i.size, i.bytes, i.zero)) = some (1, 8, some (.nilFunc)) := by kernel_rfl
theorem tyf124 : structOf Tryd.prog 124 = some [(9, 0, some 1), (53, 1, some 1)] := by kernel_rfl
theorem tyi124 : (Tryd.prog.info? 124).map (fun i => (i.size, i.bytes, i.zero)) = some (2, 24, some (.agg #[.string ⟨#[]⟩, .int .i64 0])) := by kernel_rfl
theorem tyf125 : structOf Tryd.prog 125 = some [(9, 0, some 1), (53, 1, some 1)] := by kernel_rfl
theorem tyi125 : (Tryd.prog.info? 125).map (fun i => (i.size, i.bytes, i.zero)) = some (2, 24, some (.agg #[.string ⟨#[]⟩, .int .i64 0])) := by kernel_rfl
theorem tyf127 : TD.fits Tryd.prog 127 (.other) := trivial
theorem tyi127 : (Tryd.prog.info? 127).map (fun i => (i.size, i.bytes, i.zero)) = some (1, 8, some (.nilFunc)) := by kernel_rfl
theorem tyf128 : TD.fits Tryd.prog 128 (.other) := trivial
theorem tyi128 : (Tryd.prog.info? 128).map (fun i => (i.size, i.bytes, i.zero)) = some (1, 8, some (.nilFunc)) := by kernel_rfl
theorem tyf129 : Tryd.prog.underlying 129 = some (.slice 5) := by kernel_rfl
theorem tyi129 : (Tryd.prog.info? 129).map (fun i => (i.size, i.bytes, i.zero)) = some (1, 24, some (.slice none 0 0)) := by kernel_rfl
theorem tyf130 : TD.fits Tryd.prog 130 (.other) := trivial
theorem tyi130 : (Tryd.prog.info? 130).map (fun i => (i.size, i.bytes, i.zero)) = some (1, 8, some (.nilFunc)) := by kernel_rfl
theorem tyf131 : TD.fits Tryd.prog 131 (.other) := trivial
theorem tyi131 : (Tryd.prog.info? 131).map (fun i => (i.size, i.bytes, i.zero)) = some (1, 8, some (.nilFunc)) := by kernel_rfl
theorem tyf132 : TD.fits Tryd.prog 132 (.other) := trivial
theorem tyi132 : (Tryd.prog.info? 132).map (fun i => (i.size, i.bytes, i.zero)) = some (1, 8, some (.nilFunc)) := by kernel_rfl
theorem tyf133 : Tryd.prog.underlying 133 = some (.pointer 3) := by kernel_rfl
theorem tyi133 : (Tryd.prog.info? 133).map (fun i => (i.size, i.bytes, i.zero)) = some (1, 8, some (.pointer none)) := by kernel_rfl
theorem tyf134 : TD.fits Tryd.prog 134 (.other) := trivial
theorem tyi134 : (Tryd.prog.info? 134).map (fun i => (i.size, i.bytes, i.zero)) = some (1, 8, some (.nilFunc)) := by kernel_rfl
theorem tyf135 : TD.fits Tryd.prog 135 (.other) := trivial
theorem tyi135 : (Tryd.prog.info? 135).map (fun i => (i.size, i.bytes, i.zero)) = some (1, 8, some (.nilFunc)) := by kernel_rfl
theorem tyf136 : TD.fits Tryd.prog 136 (.other) := trivial
theorem tyi136 : (Tryd.prog.info? 136).map (fun i => (i.size, i.bytes, i.zero)) = some (1, 8, some (.nilFunc)) := by kernel_rfl
theorem tyf137 : TD.fits Tryd.prog 137 (.other) := trivial
theorem tyi137 : (Tryd.prog.info? 137).map (fun i => (i.size, i.bytes, i.zero)) = some (1, 8, some (.nilFunc)) := by kernel_rfl
theorem tyf138 : TD.fits Tryd.prog 138 (.other) := trivial
theorem tyi138 : (Tryd.prog.info? 138).map (fun i => (i.size, i.bytes, i.zero)) = some (1, 8, some (.nilFunc)) := by kernel_rfl
theorem tyf139 : TD.fits Tryd.prog 139 (.other) := trivial
theorem tyi139 : (Tryd.prog.info? 139).map (fun i => (i.size, i.bytes, i.zero)) = some (1, 8, some (.nilFunc)) := by kernel_rfl
theorem tyf141 : TD.fits Tryd.prog 141 (.other) := trivial
theorem tyi141 : (Tryd.prog.info? 141).map (fun i => (i.size, i.bytes, i.zero)) = some (1, 8, some (.nilFunc)) := by kernel_rfl
theorem tyf142 : TD.fits Tryd.prog 142 (.other) := trivial
theorem tyi142 : (Tryd.prog.info? 142).map (fun i => (i.size, i.bytes, i.zero)) = some (1, 8, some (.nilFunc)) := by kernel_rfl
theorem tyf143 : TD.fits Tryd.prog 143 (.other) := trivial
theorem tyi143 : (Tryd.prog.info? 143).map (fun i => (i.size, i.bytes, i.zero)) = some (1, 8, some (.nilFunc)) := by kernel_rfl
theorem tyf144 : Tryd.prog.underlying 144 = some (.int .u64) := by kernel_rfl
theorem tyi144 : (Tryd.prog.info? 144).map (fun i => (i.size, i.bytes, i.zero)) = some (1, 8, some (.int .u64 0)) := by kernel_rfl
theorem tyf145 : TD.fits Tryd.prog 145 (.other) := trivial
theorem tyi145 : (Tryd.prog.info? 145).map (fun i => (i.size, i.bytes, i.zero)) = some (1, 8, some (.nilFunc)) := by kernel_rfl
theorem tyf146 : TD.fits Tryd.prog 146 (.other) := trivial
theorem tyi146 : (Tryd.prog.info? 146).map (fun i => (i.size, i.bytes, i.zero)) = some (1, 8, some (.nilFunc)) := by kernel_rfl
theorem tyf147 : structOf Tryd.prog 147 = some [(3, 0, some 1), (9, 1, some 1)] := by kernel_rfl
theorem tyi147 : (Tryd.prog.info? 147).map (fun i => (i.size, i.bytes, i.zero)) = some (2, 24, some (.agg #[.int .i64 0, .string ⟨#[]⟩])) := by kernel_rfl
theorem tyf148 : structOf Tryd.prog 148 = some [(3, 0, some 1), (9, 1, some 1)] := by kernel_rfl
theorem tyi148 : (Tryd.prog.info? 148).map (fun i => (i.size, i.bytes, i.zero)) = some (2, 24, some (.agg #[.int .i64 0, .string ⟨#[]⟩])) := by kernel_rfl
theorem tyf150 : TD.fits Tryd.prog 150 (.other) := trivial
theorem tyi150 : (Tryd.prog.info? 150).map (fun i => (i.size, i.bytes, i.zero)) = some (1, 8, some (.nilFunc)) := by kernel_rfl
theorem tyf151 : TD.fits Tryd.prog 151 (.other) := trivial
theorem tyi151 : (Tryd.prog.info? 151).map (fun i => (i.size, i.bytes, i.zero)) = some (1, 8, some (.nilFunc)) := by kernel_rfl
theorem tyf152 : TD.fits Tryd.prog 152 (.other) := trivial
theorem tyi152 : (Tryd.prog.info? 152).map (fun i => (i.size, i.bytes, i.zero)) = some (1, 8, some (.nilFunc)) := by kernel_rfl
theorem tyf153 : TD.fits Tryd.prog 153 (.other) := trivial
theorem tyi153 : (Tryd.prog.info? 153).map (fun i => (i.size, i.bytes, i.zero)) = some (1, 8, some (.nilFunc)) := by kernel_rfl
theorem tyf155 : TD.fits Tryd.prog 155 (.other) := trivial
theorem tyi155 : (Tryd.prog.info? 155).map (fun i => (i.size, i.bytes, i.zero)) = some (1, 8, some (.nilFunc)) := by kernel_rfl
theorem tyf156 : TD.fits Tryd.prog 156 (.other) := trivial
theorem tyi156 : (Tryd.prog.info? 156).map (fun i => (i.size, i.bytes, i.zero)) = some (1, 8, some (.nilFunc)) := by kernel_rfl
theorem tyf158 : TD.fits Tryd.prog 158 (.other) := trivial
theorem tyi158 : (Tryd.prog.info? 158).map (fun i => (i.size, i.bytes, i.zero)) = some (1, 8, some (.nilFunc)) := by kernel_rfl
theorem tyf160 : TD.fits Tryd.prog 160 (.other) := trivial
theorem tyi160 : (Tryd.prog.info? 160).map (fun i => (i.size, i.bytes, i.zero)) = some (1, 8, some (.nilFunc)) := by kernel_rfl
theorem tyf161 : Tryd.prog.underlying 161 = some (.pointer 163) := by kernel_rfl
theorem tyi161 : (Tryd.prog.info? 161).map (fun i => (i.size, i.bytes, i.zero)) = some (1, 8, some (.pointer none)) := by kernel_rfl
theorem tyf162 : structOf Tryd.prog 162 = some [(161, 0, some 1), (129, 1, some 1)] := by kernel_rfl
theorem tyi162 : (Tryd.prog.info? 162).map (fun i => (i.size, i.bytes, i.zero)) = some (2, 32, some (.agg #[.pointer none, .slice none 0 0])) := by kernel_rfl
theorem tyf163 : structOf Tryd.prog 163 = some [(161, 0, some 1), (129, 1, some 1)] := by kernel_rfl
theorem tyi163 : (Tryd.prog.info? 163).map (fun i => (i.size, i.bytes, i.zero)) = some (2, 32, some (.agg #[.pointer none, .slice none 0 0])) := by kernel_rfl
theorem tyf164 : TD.fits Tryd.prog 164 (.other) := trivial
theorem tyi164 : (Tryd.prog.info? 164).map (fun i => (i.size, i.bytes, i.zero)) = some (1, 8, some (.nilFunc)) := by kernel_rfl
theorem tyf165 : TD.fits Tryd.prog 165 (.other) := trivial
theorem tyi165 : (Tryd.prog.info? 165).map (fun i => (i.size, i.bytes, i.zero)) = some (1, 16, some (.nilIface)) := by kernel_rfl
theorem tyf166 : TD.fits Tryd.prog 166 (.other) := trivial
theorem tyi166 : (Tryd.prog.info? 166).map (fun i => (i.size, i.bytes, i.zero)) = some (1, 16, some (.nilIface)) := by kernel_rfl
theorem tyf168 : TD.fits Tryd.prog 168 (.other) := trivial
theorem tyi168 : (Tryd.prog.info? 168).map (fun i => (i.size, i.bytes, i.zero)) = some (1, 8, some (.nilFunc)) := by kernel_rfl
theorem tyf169 : Tryd.prog.underlying 169 = some (.slice 33) := by kernel_rfl
theorem tyi169 : (Tryd.prog.info? 169).map (fun i => (i.size, i.bytes, i.zero)) = some (1, 24, some (.slice none 0 0)) := by kernel_rfl
theorem tyf170 : TD.fits Tryd.prog 170 (.other) := trivial
theorem tyi170 : (Tryd.prog.info? 170).map (fun i => (i.size, i.bytes, i.zero)) = some (1, 8, some (.nilFunc)) := by kernel_rfl
theorem tyf171 : TD.fits Tryd.prog 171 (.other) := trivial
theorem tyi171 : (Tryd.prog.info? 171).map (fun i => (i.size, i.bytes, i.zero)) = some (1, 8, some (.nilFunc)) := by kernel_rfl
theorem tyf172 : TD.fits Tryd.prog 172 (.other) := trivial
theorem tyi172 : (Tryd.prog.info? 172).map (fun i => (i.size, i.bytes, i.zero)) = some (1, 8, some (.nilFunc)) := by kernel_rfl
theorem tyf173 : TD.fits Tryd.prog 173 (.other) := trivial
theorem tyi173 : (Tryd.prog.info? 173).map (fun i => (i.size, i.bytes, i.zero)) = some (1, 8, some (.nilFunc)) := by kernel_rfl
theorem tyf174 : TD.fits Tryd.prog 174 (.other) := trivial
theorem tyi174 : (Tryd.prog.info? 174).map (fun i => (i.size, i.bytes, i.zero)) = some (1, 8, some (.nilFunc)) := by kernel_rfl
theorem tyf176 : TD.fits Tryd.prog 176 (.other) := trivial
theorem tyi176 : (Tryd.prog.info? 176).map (fun i => (i.size, i.bytes, i.zero)) = some (1, 8, some (.nilFunc)) := by kernel_rfl
theorem tyf178 : TD.fits Tryd.prog 178 (.other) := trivial
theorem tyi178 : (Tryd.prog.info? 178).map (fun i => (i.size, i.bytes, i.zero)) = some (1, 8, some (.nilFunc)) := by kernel_rfl
theorem tyf179 : Tryd.prog.underlying 179 = some (.slice 112) := by kernel_rfl
theorem tyi179 : (Tryd.prog.info? 179).map (fun i => (i.size, i.bytes, i.zero)) = some (1, 24, some (.slice none 0 0)) := by kernel_rfl
theorem tyf181 : TD.fits Tryd.prog 181 (.other) := trivial
theorem tyi181 : (Tryd.prog.info? 181).map (fun i => (i.size, i.bytes, i.zero)) = some (1, 8, some (.nilFunc)) := by kernel_rfl
theorem tyf182 : Tryd.prog.underlying 182 = some (.pointer 5) := by kernel_rfl
theorem tyi182 : (Tryd.prog.info? 182).map (fun i => (i.size, i.bytes, i.zero)) = some (1, 8, some (.pointer none)) := by kernel_rfl
theorem tyf183 : Tryd.prog.underlying 183 = some (.pointer 185) := by kernel_rfl
theorem tyi183 : (Tryd.prog.info? 183).map (fun i => (i.size, i.bytes, i.zero)) = some (1, 8, some (.pointer none)) := by kernel_rfl
theorem tyf184 : structOf Tryd.prog 184 = some [(3, 0, some 1)] := by kernel_rfl
theorem tyi184 : (Tryd.prog.info? 184).map (fun i => (i.size, i.bytes, i.zero)) = some (1, 8, some (.agg #[.int .i64 0])) := by kernel_rfl
theorem tyf185 : structOf Tryd.prog 185 = some [(3, 0, some 1)] := by kernel_rfl
theorem tyi185 : (Tryd.prog.info? 185).map (fun i => (i.size, i.bytes, i.zero)) = some (1, 8, some (.agg #[.int .i64 0])) := by kernel_rfl
theorem tyf186 : TD.fits Tryd.prog 186 (.other) := trivial
theorem tyi186 : (Tryd.prog.info? 186).map (fun i => (i.size, i.bytes, i.zero)) = some (1, 8, some (.nilFunc)) := by kernel_rfl
theorem tyf188 : TD.fits Tryd.prog 188 (.other) := trivial
theorem tyi188 : (Tryd.prog.info? 188).map (fun i => (i.size, i.bytes, i.zero)) = some (1, 8, some (.nilFunc)) := by kernel_rfl
theorem tyf190 : TD.fits Tryd.prog 190 (.other) := trivial
theorem tyi190 : (Tryd.prog.info? 190).map (fun i => (i.size, i.bytes, i.zero)) = some (1, 8, some (.nilFunc)) := by kernel_rfl
theorem tyf192 : TD.fits Tryd.prog 192 (.other) := trivial
theorem tyi192 : (Tryd.prog.info? 192).map (fun i => (i.size, i.bytes, i.zero)) = some (1, 8, some (.nilFunc)) := by kernel_rfl
theorem tyf193 : TD.fits Tryd.prog 193 (.other) := trivial
theorem tyi193 : (Tryd.prog.info? 193).map (fun i => (i.size, i.bytes, i.zero)) = some (1, 8, some (.nilFunc)) := by kernel_rfl
theorem tyf194 : TD.fits Tryd.prog 194 (.other) := trivial
theorem tyi194 : (Tryd.prog.info? 194).map (fun i => (i.size, i.bytes, i.zero)) = some (1, 8, some (.nilFunc)) := by kernel_rfl
theorem tyf195 : TD.fits Tryd.prog 195 (.other) := trivial
theorem tyi195 : (Tryd.prog.info? 195).map (fun i => (i.size, i.bytes, i.zero)) = some (1, 8, some (.nilFunc)) := by kernel_rfl
theorem tyf196 : TD.fits Tryd.prog 196 (.other) := trivial
theorem tyi196 : (Tryd.prog.info? 196).map (fun i => (i.size, i.bytes, i.zero)) = some (1, 8, some (.nilFunc)) := by kernel_rfl
theorem tyf197 : TD.fits Tryd.prog 197 (.other) := trivial
theorem tyi197 : (Tryd.prog.info? 197).map (fun i => (i.size, i.bytes, i.zero)) = some (1, 8, some (.nilFunc)) := by kernel_rfl
theorem tyf203 : TD.fits Tryd.prog 203 (.other) := trivial
theorem tyi203 : (Tryd.prog.info? 203).map (fun i => (i.size, i.bytes, i.zero)) = some (1, 8, some (.nilFunc)) := by kernel_rfl
theorem tyf204 : Tryd.prog.underlying 204 = some (.int .u32) := by kernel_rfl
theorem tyi204 : (Tryd.prog.info? 204).map (fun i => (i.size, i.bytes, i.zero)) = some (1, 4, some (.int .u32 0)) := by kernel_rfl
theorem tyf207 : TD.fits Tryd.prog 207 (.other) := trivial
theorem tyi207 : (Tryd.prog.info? 207).map (fun i => (i.size, i.bytes, i.zero)) = some (1, 8, some (.nilFunc)) := by kernel_rfl
set_option maxRecDepth 20000 in
theorem tyOk : allOk Tryd.prog tyTab :=
  ⟨tyf1, tyi1,
  tyf2, tyi2,
  tyf3, tyi3,
  tyf4, tyi4,
  tyf5, tyi5,
  tyf9, tyi9,
  tyf12, tyi12,
  tyf13, tyi13,
  tyf20, tyi20,
  tyf21, tyi21,
  tyf22, tyi22,
  tyf23, tyi23,
  tyf24, tyi24,
  tyf25, tyi25,
  tyf26, tyi26,
  tyf28, tyi28,
  tyf29, tyi29,
  tyf30, tyi30,
  tyf31, tyi31,
  tyf32, tyi32,
  tyf33, tyi33,
  tyf34, tyi34,
  tyf35, tyi35,
  tyf36, tyi36,
  tyf37, tyi37,
  tyf38, tyi38,
  tyf39, tyi39,
  tyf40, tyi40,
  tyf41, tyi41,
  tyf42, tyi42,
  tyf43, tyi43,
  tyf44, tyi44,
  tyf45, tyi45,
  tyf46, tyi46,
  tyf47, tyi47,
  tyf48, tyi48,
  tyf49, tyi49,
  tyf50, tyi50,
  tyf51, tyi51,
  tyf52, tyi52,
  tyf53, tyi53,
  tyf55, tyi55,
  tyf57, tyi57,
  tyf58, tyi58,
  tyf59, tyi59,
  tyf61, tyi61,
  tyf62, tyi62,
  tyf63, tyi63,
  tyf64, tyi64,
  tyf66, tyi66,
  tyf67, tyi67,
  tyf68, tyi68,
  tyf69, tyi69,
  tyf70, tyi70,
  tyf71, tyi71,
  tyf72, tyi72,
  tyf73, tyi73,
  tyf74, tyi74,
  tyf75, tyi75,
  tyf76, tyi76,
  tyf77, tyi77,
  tyf78, tyi78,
  tyf79, tyi79,
  tyf80, tyi80,
  tyf81, tyi81,
  tyf82, tyi82,
  tyf83, tyi83,
  tyf84, tyi84,
  tyf85, tyi85,
  tyf86, tyi86,
  tyf87, tyi87,
  tyf88, tyi88,
  tyf89, tyi89,
  tyf90, tyi90,
  tyf92, tyi92,
  tyf93, tyi93,
  tyf94, tyi94,
  tyf95, tyi95,
  tyf96, tyi96,
  tyf97, tyi97,
  tyf98, tyi98,
  tyf99, tyi99,
  tyf100, tyi100,
  tyf101, tyi101,
  tyf102, tyi102,
  tyf103, tyi103,
  tyf104, tyi104,
  tyf105, tyi105,
  tyf106, tyi106,
  tyf107, tyi107,
  tyf108, tyi108,
  tyf109, tyi109,
  tyf111, tyi111,
  tyf112, tyi112,
  tyf113, tyi113,
  tyf114, tyi114,
  tyf115, tyi115,
  tyf116, tyi116,
  tyf117, tyi117,
  tyf118, tyi118,
  tyf119, tyi119,
  tyf120, tyi120,
  tyf121, tyi121,
  tyf123, tyi123,
  tyf124, tyi124,
  tyf125, tyi125,
  tyf127, tyi127,
  tyf128, tyi128,
  tyf129, tyi129,
  tyf130, tyi130,
  tyf131, tyi131,
  tyf132, tyi132,
  tyf133, tyi133,
  tyf134, tyi134,
  tyf135, tyi135,
  tyf136, tyi136,
  tyf137, tyi137,
  tyf138, tyi138,
  tyf139, tyi139,
  tyf141, tyi141,
  tyf142, tyi142,
  tyf143, tyi143,
  tyf144, tyi144,
  tyf145, tyi145,
  tyf146, tyi146,
  tyf147, tyi147,
  tyf148, tyi148,
  tyf150, tyi150,
  tyf151, tyi151,
  tyf152, tyi152,
  tyf153, tyi153,
  tyf155, tyi155,
  tyf156, tyi156,
  tyf158, tyi158,
  tyf160, tyi160,
  tyf161, tyi161,
  tyf162, tyi162,
  tyf163, tyi163,
  tyf164, tyi164,
  tyf165, tyi165,
  tyf166, tyi166,
  tyf168, tyi168,
  tyf169, tyi169,
  tyf170, tyi170,
  tyf171, tyi171,
  tyf172, tyi172,
  tyf173, tyi173,
  tyf174, tyi174,
  tyf176, tyi176,
  tyf178, tyi178,
  tyf179, tyi179,
  tyf181, tyi181,
  tyf182, tyi182,
  tyf183, tyi183,
  tyf184, tyi184,
  tyf185, tyi185,
  tyf186, tyi186,
  tyf188, tyi188,
  tyf190, tyi190,
  tyf192, tyi192,
  tyf193, tyi193,
  tyf194, tyi194,
  tyf195, tyi195,
  tyf196, tyi196,
  tyf197, tyi197,
  tyf203, tyi203,
  tyf204, tyi204,
  tyf207, tyi207, trivial⟩
/-- A type's row, by looking. -/
theorem tyy {t : Nat} {d : TD} {sz by_ : Nat} {z : Value} (h : tlook tyTab t = some ⟨d, sz, by_, z⟩) : Ty Tryd.prog t d sz by_ z := tlook_ok tyOk h
def slB (t : Nat) : Bool := match tlook tyTab t with
  | some ⟨.slice _, _, _, _⟩ => true
  | _ => false
theorem mixedOk : Tryd.prog.follows .mixedOrders = true := by kernel_rfl
end Go.Proofs.YtibkffoeioidlaaDoor
