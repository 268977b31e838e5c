/- The table of types of this seat's program, printed by tyenv.py. -/
import Derived.Test.YtmbpjgjajedonaaGreatDoorLtC
import Derived.Test.YtmbpjgjajedonaaGreatDoorProg
import Derived.KernelRfl
namespace Go.Proofs.YtmbpjgjajedonaaGreatDoor

set_option linter.all false
def tyTab : List (Nat × TRow) := [(1, ⟨.other, 1, 8, .nilFunc⟩),
  (2, ⟨.int .i64, 1, 8, .int .i64 0⟩),
  (3, ⟨.int .i64, 1, 8, .int .i64 0⟩),
  (4, ⟨.bool, 1, 1, .bool false⟩),
  (5, ⟨.int .u8, 1, 1, .int .u8 0⟩),
  (9, ⟨.str, 1, 16, .string ⟨#[]⟩⟩),
  (12, ⟨.int .u64, 1, 8, .int .u64 0⟩),
  (13, ⟨.struct [(9, 0, 1), (12, 1, 1)], 2, 24, .agg #[.string ⟨#[]⟩, .int .u64 0]⟩),
  (20, ⟨.other, 1, 16, .nilIface⟩),
  (21, ⟨.int .i32, 1, 4, .int .i32 0⟩),
  (22, ⟨.slice 9, 1, 24, .slice none 0 0⟩),
  (23, ⟨.slice 34, 1, 24, .slice none 0 0⟩),
  (24, ⟨.other, 1, 8, .nilFunc⟩),
  (25, ⟨.ptr 65, 1, 8, .pointer none⟩),
  (26, ⟨.other, 1, 8, .nilFunc⟩),
  (27, ⟨.ptr 68, 1, 8, .pointer none⟩),
  (28, ⟨.other, 1, 8, .nilFunc⟩),
  (29, ⟨.other, 1, 8, .nilFunc⟩),
  (30, ⟨.int .u64, 1, 8, .int .u64 0⟩),
  (31, ⟨.struct [(30, 0, 1), (3, 1, 1), (3, 2, 1)], 3, 24, .agg #[.int .u64 0, .int .i64 0, .int .i64 0]⟩),
  (32, ⟨.struct [(30, 0, 1), (3, 1, 1), (3, 2, 1)], 3, 24, .agg #[.int .u64 0, .int .i64 0, .int .i64 0]⟩),
  (33, ⟨.struct [(3, 0, 1), (32, 1, 3)], 4, 32, .agg #[.int .i64 0, .int .u64 0, .int .i64 0, .int .i64 0]⟩),
  (34, ⟨.struct [(3, 0, 1), (32, 1, 3)], 4, 32, .agg #[.int .i64 0, .int .u64 0, .int .i64 0, .int .i64 0]⟩),
  (35, ⟨.ptr 73, 1, 8, .pointer none⟩),
  (36, ⟨.int .i64, 1, 8, .int .i64 0⟩),
  (38, ⟨.other, 1, 8, .nilFunc⟩),
  (39, ⟨.ptr 82, 1, 8, .pointer none⟩),
  (41, ⟨.other, 1, 8, .nilFunc⟩),
  (42, ⟨.other, 1, 8, .nilFunc⟩),
  (43, ⟨.other, 1, 8, .nilFunc⟩),
  (44, ⟨.other, 1, 8, .nilFunc⟩),
  (45, ⟨.other, 1, 8, .nilFunc⟩),
  (46, ⟨.other, 1, 8, .nilFunc⟩),
  (47, ⟨.other, 1, 8, .nilFunc⟩),
  (48, ⟨.other, 1, 8, .nilFunc⟩),
  (49, ⟨.other, 1, 8, .nilFunc⟩),
  (50, ⟨.other, 1, 8, .nilFunc⟩),
  (51, ⟨.other, 1, 8, .nilFunc⟩),
  (52, ⟨.other, 1, 8, .nilFunc⟩),
  (53, ⟨.slice 58, 1, 24, .slice none 0 0⟩),
  (54, ⟨.other, 1, 8, .nilFunc⟩),
  (55, ⟨.other, 1, 8, .nilFunc⟩),
  (56, ⟨.other, 1, 8, .nilFunc⟩),
  (57, ⟨.struct [(3, 0, 1), (3, 1, 1), (9, 2, 1), (22, 3, 1), (32, 4, 3)], 7, 80, .agg #[.int .i64 0, .int .i64 0, .string ⟨#[]⟩, .slice none 0 0, .int .u64 0, .int .i64 0, .int .i64 0]⟩),
  (58, ⟨.struct [(3, 0, 1), (3, 1, 1), (9, 2, 1), (22, 3, 1), (32, 4, 3)], 7, 80, .agg #[.int .i64 0, .int .i64 0, .string ⟨#[]⟩, .slice none 0 0, .int .u64 0, .int .i64 0, .int .i64 0]⟩),
  (59, ⟨.other, 1, 8, .nilFunc⟩),
  (60, ⟨.other, 1, 8, .nilFunc⟩),
  (61, ⟨.other, 1, 8, .nilFunc⟩),
  (62, ⟨.other, 1, 8, .nilFunc⟩),
  (63, ⟨.map 3 9, 1, 8, .map none⟩),
  (64, ⟨.struct [(22, 0, 1), (63, 1, 1), (3, 2, 1), (4, 3, 1), (3, 4, 1), (32, 5, 3)], 8, 80, .agg #[.slice none 0 0, .map none, .int .i64 0, .bool false, .int .i64 0, .int .u64 0, .int .i64 0, .int .i64 0]⟩),
  (65, ⟨.struct [(22, 0, 1), (63, 1, 1), (3, 2, 1), (4, 3, 1), (3, 4, 1), (32, 5, 3)], 8, 80, .agg #[.slice none 0 0, .map none, .int .i64 0, .bool false, .int .i64 0, .int .u64 0, .int .i64 0, .int .i64 0]⟩),
  (66, ⟨.slice 91, 1, 24, .slice none 0 0⟩),
  (67, ⟨.struct [(22, 0, 1), (22, 1, 1), (4, 2, 1), (3, 3, 1), (4, 4, 1), (3, 5, 1), (32, 6, 3), (66, 9, 1)], 10, 128, .agg #[.slice none 0 0, .slice none 0 0, .bool false, .int .i64 0, .bool false, .int .i64 0, .int .u64 0, .int .i64 0, .int .i64 0, .slice none 0 0]⟩),
  (68, ⟨.struct [(22, 0, 1), (22, 1, 1), (4, 2, 1), (3, 3, 1), (4, 4, 1), (3, 5, 1), (32, 6, 3), (66, 9, 1)], 10, 128, .agg #[.slice none 0 0, .slice none 0 0, .bool false, .int .i64 0, .bool false, .int .i64 0, .int .u64 0, .int .i64 0, .int .i64 0, .slice none 0 0]⟩),
  (69, ⟨.other, 1, 8, .nilFunc⟩),
  (71, ⟨.other, 1, 8, .nilFunc⟩),
  (72, ⟨.struct [(25, 0, 1), (3, 1, 1), (3, 2, 1), (3, 3, 1), (3, 4, 1), (3, 5, 1), (4, 6, 1), (4, 7, 1)], 8, 56, .agg #[.pointer none, .int .i64 0, .int .i64 0, .int .i64 0, .int .i64 0, .int .i64 0, .bool false, .bool false]⟩),
  (73, ⟨.struct [(25, 0, 1), (3, 1, 1), (3, 2, 1), (3, 3, 1), (3, 4, 1), (3, 5, 1), (4, 6, 1), (4, 7, 1)], 8, 56, .agg #[.pointer none, .int .i64 0, .int .i64 0, .int .i64 0, .int .i64 0, .int .i64 0, .bool false, .bool false]⟩),
  (75, ⟨.other, 1, 8, .nilFunc⟩),
  (76, ⟨.struct [(30, 0, 1), (30, 1, 1), (30, 2, 1), (30, 3, 1), (9, 4, 1)], 5, 48, .agg #[.int .u64 0, .int .u64 0, .int .u64 0, .int .u64 0, .string ⟨#[]⟩]⟩),
  (77, ⟨.struct [(30, 0, 1), (30, 1, 1), (30, 2, 1), (30, 3, 1), (9, 4, 1)], 5, 48, .agg #[.int .u64 0, .int .u64 0, .int .u64 0, .int .u64 0, .string ⟨#[]⟩]⟩),
  (79, ⟨.other, 1, 8, .nilFunc⟩),
  (80, ⟨.other, 1, 8, .nilFunc⟩),
  (81, ⟨.struct [(27, 0, 1), (3, 1, 1), (3, 2, 1), (3, 3, 1), (3, 4, 1), (3, 5, 1), (4, 6, 1)], 7, 56, .agg #[.pointer none, .int .i64 0, .int .i64 0, .int .i64 0, .int .i64 0, .int .i64 0, .bool false]⟩),
  (82, ⟨.struct [(27, 0, 1), (3, 1, 1), (3, 2, 1), (3, 3, 1), (3, 4, 1), (3, 5, 1), (4, 6, 1)], 7, 56, .agg #[.pointer none, .int .i64 0, .int .i64 0, .int .i64 0, .int .i64 0, .int .i64 0, .bool false]⟩),
  (84, ⟨.other, 1, 8, .nilFunc⟩),
  (85, ⟨.struct [(3, 0, 1), (3, 1, 1), (3, 2, 1), (3, 3, 1), (9, 4, 1)], 5, 48, .agg #[.int .i64 0, .int .i64 0, .int .i64 0, .int .i64 0, .string ⟨#[]⟩]⟩),
  (86, ⟨.struct [(3, 0, 1), (3, 1, 1), (3, 2, 1), (3, 3, 1), (9, 4, 1)], 5, 48, .agg #[.int .i64 0, .int .i64 0, .int .i64 0, .int .i64 0, .string ⟨#[]⟩]⟩),
  (88, ⟨.other, 1, 8, .nilFunc⟩),
  (89, ⟨.other, 1, 8, .nilFunc⟩),
  (90, ⟨.struct [(9, 0, 1), (9, 1, 1), (9, 2, 1)], 3, 48, .agg #[.string ⟨#[]⟩, .string ⟨#[]⟩, .string ⟨#[]⟩]⟩),
  (91, ⟨.struct [(9, 0, 1), (9, 1, 1), (9, 2, 1)], 3, 48, .agg #[.string ⟨#[]⟩, .string ⟨#[]⟩, .string ⟨#[]⟩]⟩),
  (92, ⟨.other, 1, 8, .nilFunc⟩),
  (93, ⟨.other, 1, 8, .nilFunc⟩),
  (94, ⟨.other, 1, 8, .nilFunc⟩),
  (95, ⟨.other, 1, 8, .nilFunc⟩),
  (96, ⟨.other, 1, 8, .nilFunc⟩),
  (97, ⟨.other, 1, 8, .nilFunc⟩),
  (98, ⟨.slice 5, 1, 24, .slice none 0 0⟩),
  (99, ⟨.other, 1, 8, .nilFunc⟩),
  (100, ⟨.other, 1, 8, .nilFunc⟩),
  (102, ⟨.other, 1, 8, .nilFunc⟩),
  (104, ⟨.other, 1, 8, .nilFunc⟩),
  (105, ⟨.other, 1, 8, .nilFunc⟩),
  (106, ⟨.ptr 30, 1, 8, .pointer none⟩),
  (107, ⟨.struct [(106, 0, 1), (3, 1, 1), (3, 2, 1)], 3, 24, .agg #[.pointer none, .int .i64 0, .int .i64 0]⟩),
  (108, ⟨.slice 107, 1, 24, .slice none 0 0⟩),
  (109, ⟨.other, 1, 8, .nilFunc⟩),
  (110, ⟨.other, 1, 8, .nilFunc⟩),
  (111, ⟨.other, 1, 8, .nilFunc⟩),
  (112, ⟨.other, 1, 8, .nilFunc⟩),
  (113, ⟨.other, 1, 8, .nilFunc⟩),
  (114, ⟨.int .u32, 1, 4, .int .u32 0⟩),
  (115, ⟨.other, 1, 8, .nilFunc⟩),
  (116, ⟨.int .u64, 1, 8, .int .u64 0⟩),
  (117, ⟨.ptr 119, 1, 8, .pointer none⟩),
  (118, ⟨.struct [(117, 0, 1), (98, 1, 1)], 2, 32, .agg #[.pointer none, .slice none 0 0]⟩),
  (119, ⟨.struct [(117, 0, 1), (98, 1, 1)], 2, 32, .agg #[.pointer none, .slice none 0 0]⟩),
  (120, ⟨.other, 1, 16, .nilIface⟩),
  (121, ⟨.other, 1, 16, .nilIface⟩),
  (123, ⟨.other, 1, 8, .nilFunc⟩),
  (124, ⟨.other, 1, 8, .nilFunc⟩),
  (128, ⟨.other, 1, 8, .nilFunc⟩),
  (129, ⟨.other, 1, 8, .nilFunc⟩),
  (130, ⟨.ptr 126, 1, 8, .pointer none⟩),
  (132, ⟨.other, 1, 8, .nilFunc⟩),
  (133, ⟨.other, 1, 8, .nilFunc⟩),
  (134, ⟨.other, 1, 8, .nilFunc⟩),
  (135, ⟨.other, 1, 8, .nilFunc⟩),
  (136, ⟨.ptr 5, 1, 8, .pointer none⟩),
  (137, ⟨.other, 1, 8, .nilFunc⟩),
  (139, ⟨.other, 1, 8, .nilFunc⟩),
  (140, ⟨.other, 1, 8, .nilFunc⟩),
  (142, ⟨.other, 1, 8, .nilFunc⟩),
  (144, ⟨.other, 1, 8, .nilFunc⟩),
  (145, ⟨.other, 1, 8, .nilFunc⟩),
  (147, ⟨.other, 1, 8, .nilFunc⟩),
  (148, ⟨.other, 1, 8, .nilFunc⟩),
  (149, ⟨.other, 1, 8, .nilFunc⟩),
  (151, ⟨.struct [(5, 0, 1), (5, 1, 1)], 2, 2, .agg #[.int .u8 0, .int .u8 0]⟩),
  (152, ⟨.struct [(5, 0, 1), (5, 1, 1)], 2, 2, .agg #[.int .u8 0, .int .u8 0]⟩),
  (153, ⟨.array 16 152, 32, 32, .agg #[.int .u8 0, .int .u8 0, .int .u8 0, .int .u8 0, .int .u8 0, .int .u8 0, .int .u8 0, .int .u8 0, .int .u8 0, .int .u8 0, .int .u8 0, .int .u8 0, .int .u8 0, .int .u8 0, .int .u8 0, .int .u8 0, .int .u8 0, .int .u8 0, .int .u8 0, .int .u8 0, .int .u8 0, .int .u8 0, .int .u8 0, .int .u8 0, .int .u8 0, .int .u8 0, .int .u8 0, .int .u8 0, .int .u8 0, .int .u8 0, .int .u8 0, .int .u8 0]⟩),
  (154, ⟨.other, 1, 8, .nilFunc⟩),
  (155, ⟨.other, 1, 8, .nilFunc⟩),
  (156, ⟨.other, 1, 8, .nilFunc⟩),
  (164, ⟨.other, 1, 8, .nilFunc⟩)]
theorem tyf1 : TD.fits Tryz.prog 1 (.other) := trivial
theorem tyi1 : (Tryz.prog.info? 1).map (fun i => (i.size, i.bytes, i.zero)) = some (1, 8, some (.nilFunc)) := by kernel_rfl
theorem tyf2 : Tryz.prog.underlying 2 = some (.int .i64) := by kernel_rfl
theorem tyi2 : (Tryz.prog.info? 2).map (fun i => (i.size, i.bytes, i.zero)) = some (1, 8, some (.int .i64 0)) := by kernel_rfl
theorem tyf3 : Tryz.prog.underlying 3 = some (.int .i64) := by kernel_rfl
theorem tyi3 : (Tryz.prog.info? 3).map (fun i => (i.size, i.bytes, i.zero)) = some (1, 8, some (.int .i64 0)) := by kernel_rfl
theorem tyf4 : Tryz.prog.underlying 4 = some .bool := by kernel_rfl
theorem tyi4 : (Tryz.prog.info? 4).map (fun i => (i.size, i.bytes, i.zero)) = some (1, 1, some (.bool false)) := by kernel_rfl
theorem tyf5 : Tryz.prog.underlying 5 = some (.int .u8) := by kernel_rfl
theorem tyi5 : (Tryz.prog.info? 5).map (fun i => (i.size, i.bytes, i.zero)) = some (1, 1, some (.int .u8 0)) := by kernel_rfl
theorem tyf9 : Tryz.prog.underlying 9 = some .string := by kernel_rfl
theorem tyi9 : (Tryz.prog.info? 9).map (fun i => (i.size, i.bytes, i.zero)) = some (1, 16, some (.string ⟨#[]⟩)) := by kernel_rfl
theorem tyf12 : Tryz.prog.underlying 12 = some (.int .u64) := by kernel_rfl
theorem tyi12 : (Tryz.prog.info? 12).map (fun i => (i.size, i.bytes, i.zero)) = some (1, 8, some (.int .u64 0)) := by kernel_rfl
theorem tyf13 : structOf Tryz.prog 13 = some [(9, 0, some 1), (12, 1, some 1)] := by kernel_rfl
theorem tyi13 : (Tryz.prog.info? 13).map (fun i => (i.size, i.bytes, i.zero)) = some (2, 24, some (.agg #[.string ⟨#[]⟩, .int .u64 0])) := by kernel_rfl
theorem tyf20 : TD.fits Tryz.prog 20 (.other) := trivial
theorem tyi20 : (Tryz.prog.info? 20).map (fun i => (i.size, i.bytes, i.zero)) = some (1, 16, some (.nilIface)) := by kernel_rfl
theorem tyf21 : Tryz.prog.underlying 21 = some (.int .i32) := by kernel_rfl
theorem tyi21 : (Tryz.prog.info? 21).map (fun i => (i.size, i.bytes, i.zero)) = some (1, 4, some (.int .i32 0)) := by kernel_rfl
theorem tyf22 : Tryz.prog.underlying 22 = some (.slice 9) := by kernel_rfl
theorem tyi22 : (Tryz.prog.info? 22).map (fun i => (i.size, i.bytes, i.zero)) = some (1, 24, some (.slice none 0 0)) := by kernel_rfl
theorem tyf23 : Tryz.prog.underlying 23 = some (.slice 34) := by kernel_rfl
theorem tyi23 : (Tryz.prog.info? 23).map (fun i => (i.size, i.bytes, i.zero)) = some (1, 24, some (.slice none 0 0)) := by kernel_rfl
theorem tyf24 : TD.fits Tryz.prog 24 (.other) := trivial
theorem tyi24 : (Tryz.prog.info? 24).map (fun i => (i.size, i.bytes, i.zero)) = some (1, 8, some (.nilFunc)) := by kernel_rfl
theorem tyf25 : Tryz.prog.underlying 25 = some (.pointer 65) := by kernel_rfl
theorem tyi25 : (Tryz.prog.info? 25).map (fun i => (i.size, i.bytes, i.zero)) = some (1, 8, some (.pointer none)) := by kernel_rfl
theorem tyf26 : TD.fits Tryz.prog 26 (.other) := trivial
theorem tyi26 : (Tryz.prog.info? 26).map (fun i => (i.size, i.bytes, i.zero)) = some (1, 8, some (.nilFunc)) := by kernel_rfl
theorem tyf27 : Tryz.prog.underlying 27 = some (.pointer 68) := by kernel_rfl
theorem tyi27 : (Tryz.prog.info? 27).map (fun i => (i.size, i.bytes, i.zero)) = some (1, 8, some (.pointer none)) := by kernel_rfl
theorem tyf28 : TD.fits Tryz.prog 28 (.other) := trivial
theorem tyi28 : (Tryz.prog.info? 28).map (fun i => (i.size, i.bytes, i.zero)) = some (1, 8, some (.nilFunc)) := by kernel_rfl
theorem tyf29 : TD.fits Tryz.prog 29 (.other) := trivial
theorem tyi29 : (Tryz.prog.info? 29).map (fun i => (i.size, i.bytes, i.zero)) = some (1, 8, some (.nilFunc)) := by kernel_rfl
theorem tyf30 : Tryz.prog.underlying 30 = some (.int .u64) := by kernel_rfl
theorem tyi30 : (Tryz.prog.info? 30).map (fun i => (i.size, i.bytes, i.zero)) = some (1, 8, some (.int .u64 0)) := by kernel_rfl
theorem tyf31 : structOf Tryz.prog 31 = some [(30, 0, some 1), (3, 1, some 1), (3, 2, some 1)] := by kernel_rfl
theorem tyi31 : (Tryz.prog.info? 31).map (fun i => (i.size, i.bytes, i.zero)) = some (3, 24, some (.agg #[.int .u64 0, .int .i64 0, .int .i64 0])) := by kernel_rfl
theorem tyf32 : structOf Tryz.prog 32 = some [(30, 0, some 1), (3, 1, some 1), (3, 2, some 1)] := by kernel_rfl
theorem tyi32 : (Tryz.prog.info? 32).map (fun i => (i.size, i.bytes, i.zero)) = some (3, 24, some (.agg #[.int .u64 0, .int .i64 0, .int .i64 0])) := by kernel_rfl
theorem tyf33 : structOf Tryz.prog 33 = some [(3, 0, some 1), (32, 1, some 3)] := by kernel_rfl
theorem tyi33 : (Tryz.prog.info? 33).map (fun i => (i.size, i.bytes, i.zero)) = some (4, 32, some (.agg #[.int .i64 0, .int .u64 0, .int .i64 0, .int .i64 0])) := by kernel_rfl
theorem tyf34 : structOf Tryz.prog 34 = some [(3, 0, some 1), (32, 1, some 3)] := by kernel_rfl
theorem tyi34 : (Tryz.prog.info? 34).map (fun i => (i.size, i.bytes, i.zero)) = some (4, 32, some (.agg #[.int .i64 0, .int .u64 0, .int .i64 0, .int .i64 0])) := by kernel_rfl
theorem tyf35 : Tryz.prog.underlying 35 = some (.pointer 73) := by kernel_rfl
theorem tyi35 : (Tryz.prog.info? 35).map (fun i => (i.size, i.bytes, i.zero)) = some (1, 8, some (.pointer none)) := by kernel_rfl
theorem tyf36 : Tryz.prog.underlying 36 = some (.int .i64) := by kernel_rfl
theorem tyi36 : (Tryz.prog.info? 36).map (fun i => (i.size, i.bytes, i.zero)) = some (1, 8, some (.int .i64 0)) := by kernel_rfl
theorem tyf38 : TD.fits Tryz.prog 38 (.other) := trivial
theorem tyi38 : (Tryz.prog.info? 38).map (fun i => (i.size, i.bytes, i.zero)) = some (1, 8, some (.nilFunc)) := by kernel_rfl
theorem tyf39 : Tryz.prog.underlying 39 = some (.pointer 82) := by kernel_rfl
theorem tyi39 : (Tryz.prog.info? 39).map (fun i => (i.size, i.bytes, i.zero)) = some (1, 8, some (.pointer none)) := by kernel_rfl
theorem tyf41 : TD.fits Tryz.prog 41 (.other) := trivial
theorem tyi41 : (Tryz.prog.info? 41).map (fun i => (i.size, i.bytes, i.zero)) = some (1, 8, some (.nilFunc)) := by kernel_rfl
theorem tyf42 : TD.fits Tryz.prog 42 (.other) := trivial
theorem tyi42 : (Tryz.prog.info? 42).map (fun i => (i.size, i.bytes, i.zero)) = some (1, 8, some (.nilFunc)) := by kernel_rfl
theorem tyf43 : TD.fits Tryz.prog 43 (.other) := trivial
theorem tyi43 : (Tryz.prog.info? 43).map (fun i => (i.size, i.bytes, i.zero)) = some (1, 8, some (.nilFunc)) := by kernel_rfl
theorem tyf44 : TD.fits Tryz.prog 44 (.other) := trivial
theorem tyi44 : (Tryz.prog.info? 44).map (fun i => (i.size, i.bytes, i.zero)) = some (1, 8, some (.nilFunc)) := by kernel_rfl
theorem tyf45 : TD.fits Tryz.prog 45 (.other) := trivial
theorem tyi45 : (Tryz.prog.info? 45).map (fun i => (i.size, i.bytes, i.zero)) = some (1, 8, some (.nilFunc)) := by kernel_rfl
theorem tyf46 : TD.fits Tryz.prog 46 (.other) := trivial
theorem tyi46 : (Tryz.prog.info? 46).map (fun i => (i.size, i.bytes, i.zero)) = some (1, 8, some (.nilFunc)) := by kernel_rfl
theorem tyf47 : TD.fits Tryz.prog 47 (.other) := trivial
theorem tyi47 : (Tryz.prog.info? 47).map (fun i => (i.size, i.bytes, i.zero)) = some (1, 8, some (.nilFunc)) := by kernel_rfl
theorem tyf48 : TD.fits Tryz.prog 48 (.other) := trivial
theorem tyi48 : (Tryz.prog.info? 48).map (fun i => (i.size, i.bytes, i.zero)) = some (1, 8, some (.nilFunc)) := by kernel_rfl
theorem tyf49 : TD.fits Tryz.prog 49 (.other) := trivial
theorem tyi49 : (Tryz.prog.info? 49).map (fun i => (i.size, i.bytes, i.zero)) = some (1, 8, some (.nilFunc)) := by kernel_rfl
theorem tyf50 : TD.fits Tryz.prog 50 (.other) := trivial
theorem tyi50 : (Tryz.prog.info? 50).map (fun i => (i.size, i.bytes, i.zero)) = some (1, 8, some (.nilFunc)) := by kernel_rfl
theorem tyf51 : TD.fits Tryz.prog 51 (.other) := trivial
theorem tyi51 : (Tryz.prog.info? 51).map (fun i => (i.size, i.bytes, i.zero)) = some (1, 8, some (.nilFunc)) := by kernel_rfl
theorem tyf52 : TD.fits Tryz.prog 52 (.other) := trivial
theorem tyi52 : (Tryz.prog.info? 52).map (fun i => (i.size, i.bytes, i.zero)) = some (1, 8, some (.nilFunc)) := by kernel_rfl
theorem tyf53 : Tryz.prog.underlying 53 = some (.slice 58) := by kernel_rfl
theorem tyi53 : (Tryz.prog.info? 53).map (fun i => (i.size, i.bytes, i.zero)) = some (1, 24, some (.slice none 0 0)) := by kernel_rfl
theorem tyf54 : TD.fits Tryz.prog 54 (.other) := trivial
theorem tyi54 : (Tryz.prog.info? 54).map (fun i => (i.size, i.bytes, i.zero)) = some (1, 8, some (.nilFunc)) := by kernel_rfl
theorem tyf55 : TD.fits Tryz.prog 55 (.other) := trivial
theorem tyi55 : (Tryz.prog.info? 55).map (fun i => (i.size, i.bytes, i.zero)) = some (1, 8, some (.nilFunc)) := by kernel_rfl
theorem tyf56 : TD.fits Tryz.prog 56 (.other) := trivial
theorem tyi56 : (Tryz.prog.info? 56).map (fun i => (i.size, i.bytes, i.zero)) = some (1, 8, some (.nilFunc)) := by kernel_rfl
theorem tyf57 : structOf Tryz.prog 57 = some [(3, 0, some 1), (3, 1, some 1), (9, 2, some 1), (22, 3, some 1), (32, 4, some 3)] := by kernel_rfl
theorem tyi57 : (Tryz.prog.info? 57).map (fun i => (i.size, i.bytes, i.zero)) = some (7, 80, some (.agg #[.int .i64 0, .int .i64 0, .string ⟨#[]⟩, .slice none 0 0, .int .u64 0, .int .i64 0, .int .i64 0])) := by kernel_rfl
theorem tyf58 : structOf Tryz.prog 58 = some [(3, 0, some 1), (3, 1, some 1), (9, 2, some 1), (22, 3, some 1), (32, 4, some 3)] := by kernel_rfl
theorem tyi58 : (Tryz.prog.info? 58).map (fun i => (i.size, i.bytes, i.zero)) = some (7, 80, some (.agg #[.int .i64 0, .int .i64 0, .string ⟨#[]⟩, .slice none 0 0, .int .u64 0, .int .i64 0, .int .i64 0])) := by kernel_rfl
theorem tyf59 : TD.fits Tryz.prog 59 (.other) := trivial
theorem tyi59 : (Tryz.prog.info? 59).map (fun i => (i.size, i.bytes, i.zero)) = some (1, 8, some (.nilFunc)) := by kernel_rfl
theorem tyf60 : TD.fits Tryz.prog 60 (.other) := trivial
theorem tyi60 : (Tryz.prog.info? 60).map (fun i => (i.size, i.bytes, i.zero)) = some (1, 8, some (.nilFunc)) := by kernel_rfl
theorem tyf61 : TD.fits Tryz.prog 61 (.other) := trivial
theorem tyi61 : (Tryz.prog.info? 61).map (fun i => (i.size, i.bytes, i.zero)) = some (1, 8, some (.nilFunc)) := by kernel_rfl
theorem tyf62 : TD.fits Tryz.prog 62 (.other) := trivial
theorem tyi62 : (Tryz.prog.info? 62).map (fun i => (i.size, i.bytes, i.zero)) = some (1, 8, some (.nilFunc)) := by kernel_rfl
theorem tyf63 : Tryz.prog.underlying 63 = some (.map 3 9) := by kernel_rfl
theorem tyi63 : (Tryz.prog.info? 63).map (fun i => (i.size, i.bytes, i.zero)) = some (1, 8, some (.map none)) := by kernel_rfl
theorem tyf64 : structOf Tryz.prog 64 = some [(22, 0, some 1), (63, 1, some 1), (3, 2, some 1), (4, 3, some 1), (3, 4, some 1), (32, 5, some 3)] := by kernel_rfl
theorem tyi64 : (Tryz.prog.info? 64).map (fun i => (i.size, i.bytes, i.zero)) = some (8, 80, some (.agg #[.slice none 0 0, .map none, .int .i64 0, .bool false, .int .i64 0, .int .u64 0, .int .i64 0, .int .i64 0])) := by kernel_rfl
theorem tyf65 : structOf Tryz.prog 65 = some [(22, 0, some 1), (63, 1, some 1), (3, 2, some 1), (4, 3, some 1), (3, 4, some 1), (32, 5, some 3)] := by kernel_rfl
theorem tyi65 : (Tryz.prog.info? 65).map (fun i => (i.size, i.bytes, i.zero)) = some (8, 80, some (.agg #[.slice none 0 0, .map none, .int .i64 0, .bool false, .int .i64 0, .int .u64 0, .int .i64 0, .int .i64 0])) := by kernel_rfl
theorem tyf66 : Tryz.prog.underlying 66 = some (.slice 91) := by kernel_rfl
theorem tyi66 : (Tryz.prog.info? 66).map (fun i => (i.size, i.bytes, i.zero)) = some (1, 24, some (.slice none 0 0)) := by kernel_rfl
theorem tyf67 : structOf Tryz.prog 67 = some [(22, 0, some 1), (22, 1, some 1), (4, 2, some 1), (3, 3, some 1), (4, 4, some 1), (3, 5, some 1), (32, 6, some 3), (66, 9, some 1)] := by kernel_rfl
theorem tyi67 : (Tryz.prog.info? 67).map (fun i => (i.size, i.bytes, i.zero)) = some (10, 128, some (.agg #[.slice none 0 0, .slice none 0 0, .bool false, .int .i64 0, .bool false, .int .i64 0, .int .u64 0, .int .i64 0, .int .i64 0, .slice none 0 0])) := by kernel_rfl
theorem tyf68 : structOf Tryz.prog 68 = some [(22, 0, some 1), (22, 1, some 1), (4, 2, some 1), (3, 3, some 1), (4, 4, some 1), (3, 5, some 1), (32, 6, some 3), (66, 9, some 1)] := by kernel_rfl
theorem tyi68 : (Tryz.prog.info? 68).map (fun i => (i.size, i.bytes, i.zero)) = some (10, 128, some (.agg #[.slice none 0 0, .slice none 0 0, .bool false, .int .i64 0, .bool false, .int .i64 0, .int .u64 0, .int .i64 0, .int .i64 0, .slice none 0 0])) := by kernel_rfl
theorem tyf69 : TD.fits Tryz.prog 69 (.other) := trivial
theorem tyi69 : (Tryz.prog.info? 69).map (fun i => (i.size, i.bytes, i.zero)) = some (1, 8, some (.nilFunc)) := by kernel_rfl
theorem tyf71 : TD.fits Tryz.prog 71 (.other) := trivial
theorem tyi71 : (Tryz.prog.info? 71).map (fun i => (i.size, i.bytes, i.zero)) = some (1, 8, some (.nilFunc)) := by kernel_rfl
theorem tyf72 : structOf Tryz.prog 72 = some [(25, 0, some 1), (3, 1, some 1), (3, 2, some 1), (3, 3, some 1), (3, 4, some 1), (3, 5, some 1), (4, 6, some 1), (4, 7, some 1)] := by kernel_rfl
theorem tyi72 : (Tryz.prog.info? 72).map (fun i => (i.size, i.bytes, i.zero)) = some (8, 56, some (.agg #[.pointer none, .int .i64 0, .int .i64 0, .int .i64 0, .int .i64 0, .int .i64 0, .bool false, .bool false])) := by kernel_rfl
theorem tyf73 : structOf Tryz.prog 73 = some [(25, 0, some 1), (3, 1, some 1), (3, 2, some 1), (3, 3, some 1), (3, 4, some 1), (3, 5, some 1), (4, 6, some 1), (4, 7, some 1)] := by kernel_rfl
theorem tyi73 : (Tryz.prog.info? 73).map (fun i => (i.size, i.bytes, i.zero)) = some (8, 56, some (.agg #[.pointer none, .int .i64 0, .int .i64 0, .int .i64 0, .int .i64 0, .int .i64 0, .bool false, .bool false])) := by kernel_rfl
theorem tyf75 : TD.fits Tryz.prog 75 (.other) := trivial
theorem tyi75 : (Tryz.prog.info? 75).map (fun i => (i.size, i.bytes, i.zero)) = some (1, 8, some (.nilFunc)) := by kernel_rfl
theorem tyf76 : structOf Tryz.prog 76 = some [(30, 0, some 1), (30, 1, some 1), (30, 2, some 1), (30, 3, some 1), (9, 4, some 1)] := by kernel_rfl
theorem tyi76 : (Tryz.prog.info? 76).map (fun i => (i.size, i.bytes, i.zero)) = some (5, 48, some (.agg #[.int .u64 0, .int .u64 0, .int .u64 0, .int .u64 0, .string ⟨#[]⟩])) := by kernel_rfl
theorem tyf77 : structOf Tryz.prog 77 = some [(30, 0, some 1), (30, 1, some 1), (30, 2, some 1), (30, 3, some 1), (9, 4, some 1)] := by kernel_rfl
theorem tyi77 : (Tryz.prog.info? 77).map (fun i => (i.size, i.bytes, i.zero)) = some (5, 48, some (.agg #[.int .u64 0, .int .u64 0, .int .u64 0, .int .u64 0, .string ⟨#[]⟩])) := by kernel_rfl
theorem tyf79 : TD.fits Tryz.prog 79 (.other) := trivial
theorem tyi79 : (Tryz.prog.info? 79).map (fun i => (i.size, i.bytes, i.zero)) = some (1, 8, some (.nilFunc)) := by kernel_rfl
theorem tyf80 : TD.fits Tryz.prog 80 (.other) := trivial
theorem tyi80 : (Tryz.prog.info? 80).map (fun i => (i.size, i.bytes, i.zero)) = some (1, 8, some (.nilFunc)) := by kernel_rfl
theorem tyf81 : structOf Tryz.prog 81 = some [(27, 0, some 1), (3, 1, some 1), (3, 2, some 1), (3, 3, some 1), (3, 4, some 1), (3, 5, some 1), (4, 6, some 1)] := by kernel_rfl
theorem tyi81 : (Tryz.prog.info? 81).map (fun i => (i.size, i.bytes, i.zero)) = some (7, 56, some (.agg #[.pointer none, .int .i64 0, .int .i64 0, .int .i64 0, .int .i64 0, .int .i64 0, .bool false])) := by kernel_rfl
theorem tyf82 : structOf Tryz.prog 82 = some [(27, 0, some 1), (3, 1, some 1), (3, 2, some 1), (3, 3, some 1), (3, 4, some 1), (3, 5, some 1), (4, 6, some 1)] := by kernel_rfl
theorem tyi82 : (Tryz.prog.info? 82).map (fun i => (i.size, i.bytes, i.zero)) = some (7, 56, some (.agg #[.pointer none, .int .i64 0, .int .i64 0, .int .i64 0, .int .i64 0, .int .i64 0, .bool false])) := by kernel_rfl
theorem tyf84 : TD.fits Tryz.prog 84 (.other) := trivial
theorem tyi84 : (Tryz.prog.info? 84).map (fun i => (i.size, i.bytes, i.zero)) = some (1, 8, some (.nilFunc)) := by kernel_rfl
theorem tyf85 : structOf Tryz.prog 85 = some [(3, 0, some 1), (3, 1, some 1), (3, 2, some 1), (3, 3, some 1), (9, 4, some 1)] := by kernel_rfl
theorem tyi85 : (Tryz.prog.info? 85).map (fun i => (i.size, i.bytes, i.zero)) = some (5, 48, some (.agg #[.int .i64 0, .int .i64 0, .int .i64 0, .int .i64 0, .string ⟨#[]⟩])) := by kernel_rfl
theorem tyf86 : structOf Tryz.prog 86 = some [(3, 0, some 1), (3, 1, some 1), (3, 2, some 1), (3, 3, some 1), (9, 4, some 1)] := by kernel_rfl
theorem tyi86 : (Tryz.prog.info? 86).map (fun i => (i.size, i.bytes, i.zero)) = some (5, 48, some (.agg #[.int .i64 0, .int .i64 0, .int .i64 0, .int .i64 0, .string ⟨#[]⟩])) := by kernel_rfl
theorem tyf88 : TD.fits Tryz.prog 88 (.other) := trivial
theorem tyi88 : (Tryz.prog.info? 88).map (fun i => (i.size, i.bytes, i.zero)) = some (1, 8, some (.nilFunc)) := by kernel_rfl
theorem tyf89 : TD.fits Tryz.prog 89 (.other) := trivial
theorem tyi89 : (Tryz.prog.info? 89).map (fun i => (i.size, i.bytes, i.zero)) = some (1, 8, some (.nilFunc)) := by kernel_rfl
theorem tyf90 : structOf Tryz.prog 90 = some [(9, 0, some 1), (9, 1, some 1), (9, 2, some 1)] := by kernel_rfl
theorem tyi90 : (Tryz.prog.info? 90).map (fun i => (i.size, i.bytes, i.zero)) = some (3, 48, some (.agg #[.string ⟨#[]⟩, .string ⟨#[]⟩, .string ⟨#[]⟩])) := by kernel_rfl
theorem tyf91 : structOf Tryz.prog 91 = some [(9, 0, some 1), (9, 1, some 1), (9, 2, some 1)] := by kernel_rfl
theorem tyi91 : (Tryz.prog.info? 91).map (fun i => (i.size, i.bytes, i.zero)) = some (3, 48, some (.agg #[.string ⟨#[]⟩, .string ⟨#[]⟩, .string ⟨#[]⟩])) := by kernel_rfl
theorem tyf92 : TD.fits Tryz.prog 92 (.other) := trivial
theorem tyi92 : (Tryz.prog.info? 92).map (fun i => (i.size, i.bytes, i.zero)) = some (1, 8, some (.nilFunc)) := by kernel_rfl
theorem tyf93 : TD.fits Tryz.prog 93 (.other) := trivial
theorem tyi93 : (Tryz.prog.info? 93).map (fun i => (i.size, i.bytes, i.zero)) = some (1, 8, some (.nilFunc)) := by kernel_rfl
theorem tyf94 : TD.fits Tryz.prog 94 (.other) := trivial
theorem tyi94 : (Tryz.prog.info? 94).map (fun i => (i.size, i.bytes, i.zero)) = some (1, 8, some (.nilFunc)) := by kernel_rfl
theorem tyf95 : TD.fits Tryz.prog 95 (.other) := trivial
theorem tyi95 : (Tryz.prog.info? 95).map (fun i => (i.size, i.bytes, i.zero)) = some (1, 8, some (.nilFunc)) := by kernel_rfl
theorem tyf96 : TD.fits Tryz.prog 96 (.other) := trivial
theorem tyi96 : (Tryz.prog.info? 96).map (fun i => (i.size, i.bytes, i.zero)) = some (1, 8, some (.nilFunc)) := by kernel_rfl
theorem tyf97 : TD.fits Tryz.prog 97 (.other) := trivial
theorem tyi97 : (Tryz.prog.info? 97).map (fun i => (i.size, i.bytes, i.zero)) = some (1, 8, some (.nilFunc)) := by kernel_rfl
theorem tyf98 : Tryz.prog.underlying 98 = some (.slice 5) := by kernel_rfl
theorem tyi98 : (Tryz.prog.info? 98).map (fun i => (i.size, i.bytes, i.zero)) = some (1, 24, some (.slice none 0 0)) := by kernel_rfl
theorem tyf99 : TD.fits Tryz.prog 99 (.other) := trivial
theorem tyi99 : (Tryz.prog.info? 99).map (fun i => (i.size, i.bytes, i.zero)) = some (1, 8, some (.nilFunc)) := by kernel_rfl
theorem tyf100 : TD.fits Tryz.prog 100 (.other) := trivial
theorem tyi100 : (Tryz.prog.info? 100).map (fun i => (i.size, i.bytes, i.zero)) = some (1, 8, some (.nilFunc)) := by kernel_rfl
theorem tyf102 : TD.fits Tryz.prog 102 (.other) := trivial
theorem tyi102 : (Tryz.prog.info? 102).map (fun i => (i.size, i.bytes, i.zero)) = some (1, 8, some (.nilFunc)) := by kernel_rfl
theorem tyf104 : TD.fits Tryz.prog 104 (.other) := trivial
theorem tyi104 : (Tryz.prog.info? 104).map (fun i => (i.size, i.bytes, i.zero)) = some (1, 8, some (.nilFunc)) := by kernel_rfl
theorem tyf105 : TD.fits Tryz.prog 105 (.other) := trivial
theorem tyi105 : (Tryz.prog.info? 105).map (fun i => (i.size, i.bytes, i.zero)) = some (1, 8, some (.nilFunc)) := by kernel_rfl
theorem tyf106 : Tryz.prog.underlying 106 = some (.pointer 30) := by kernel_rfl
theorem tyi106 : (Tryz.prog.info? 106).map (fun i => (i.size, i.bytes, i.zero)) = some (1, 8, some (.pointer none)) := by kernel_rfl
theorem tyf107 : structOf Tryz.prog 107 = some [(106, 0, some 1), (3, 1, some 1), (3, 2, some 1)] := by kernel_rfl
theorem tyi107 : (Tryz.prog.info? 107).map (fun i => (i.size, i.bytes, i.zero)) = some (3, 24, some (.agg #[.pointer none, .int .i64 0, .int .i64 0])) := by kernel_rfl
theorem tyf108 : Tryz.prog.underlying 108 = some (.slice 107) := by kernel_rfl
theorem tyi108 : (Tryz.prog.info? 108).map (fun i => (i.size, i.bytes, i.zero)) = some (1, 24, some (.slice none 0 0)) := by kernel_rfl
theorem tyf109 : TD.fits Tryz.prog 109 (.other) := trivial
theorem tyi109 : (Tryz.prog.info? 109).map (fun i => (i.size, i.bytes, i.zero)) = some (1, 8, some (.nilFunc)) := by kernel_rfl
theorem tyf110 : TD.fits Tryz.prog 110 (.other) := trivial
theorem tyi110 : (Tryz.prog.info? 110).map (fun i => (i.size, i.bytes, i.zero)) = some (1, 8, some (.nilFunc)) := by kernel_rfl
theorem tyf111 : TD.fits Tryz.prog 111 (.other) := trivial
theorem tyi111 : (Tryz.prog.info? 111).map (fun i => (i.size, i.bytes, i.zero)) = some (1, 8, some (.nilFunc)) := by kernel_rfl
theorem tyf112 : TD.fits Tryz.prog 112 (.other) := trivial
theorem tyi112 : (Tryz.prog.info? 112).map (fun i => (i.size, i.bytes, i.zero)) = some (1, 8, some (.nilFunc)) := by kernel_rfl
theorem tyf113 : TD.fits Tryz.prog 113 (.other) := trivial
theorem tyi113 : (Tryz.prog.info? 113).map (fun i => (i.size, i.bytes, i.zero)) = some (1, 8, some (.nilFunc)) := by kernel_rfl
theorem tyf114 : Tryz.prog.underlying 114 = some (.int .u32) := by kernel_rfl
theorem tyi114 : (Tryz.prog.info? 114).map (fun i => (i.size, i.bytes, i.zero)) = some (1, 4, some (.int .u32 0)) := by kernel_rfl
theorem tyf115 : TD.fits Tryz.prog 115 (.other) := trivial
theorem tyi115 : (Tryz.prog.info? 115).map (fun i => (i.size, i.bytes, i.zero)) = some (1, 8, some (.nilFunc)) := by kernel_rfl
theorem tyf116 : Tryz.prog.underlying 116 = some (.int .u64) := by kernel_rfl
theorem tyi116 : (Tryz.prog.info? 116).map (fun i => (i.size, i.bytes, i.zero)) = some (1, 8, some (.int .u64 0)) := by kernel_rfl
theorem tyf117 : Tryz.prog.underlying 117 = some (.pointer 119) := by kernel_rfl
theorem tyi117 : (Tryz.prog.info? 117).map (fun i => (i.size, i.bytes, i.zero)) = some (1, 8, some (.pointer none)) := by kernel_rfl
theorem tyf118 : structOf Tryz.prog 118 = some [(117, 0, some 1), (98, 1, some 1)] := by kernel_rfl
theorem tyi118 : (Tryz.prog.info? 118).map (fun i => (i.size, i.bytes, i.zero)) = some (2, 32, some (.agg #[.pointer none, .slice none 0 0])) := by kernel_rfl
theorem tyf119 : structOf Tryz.prog 119 = some [(117, 0, some 1), (98, 1, some 1)] := by kernel_rfl
theorem tyi119 : (Tryz.prog.info? 119).map (fun i => (i.size, i.bytes, i.zero)) = some (2, 32, some (.agg #[.pointer none, .slice none 0 0])) := by kernel_rfl
theorem tyf120 : TD.fits Tryz.prog 120 (.other) := trivial
theorem tyi120 : (Tryz.prog.info? 120).map (fun i => (i.size, i.bytes, i.zero)) = some (1, 16, some (.nilIface)) := by kernel_rfl
theorem tyf121 : TD.fits Tryz.prog 121 (.other) := trivial
theorem tyi121 : (Tryz.prog.info? 121).map (fun i => (i.size, i.bytes, i.zero)) = some (1, 16, some (.nilIface)) := by kernel_rfl
theorem tyf123 : TD.fits Tryz.prog 123 (.other) := trivial
theorem tyi123 : (Tryz.prog.info? 123).map (fun i => (i.size, i.bytes, i.zero)) = some (1, 8, some (.nilFunc)) := by kernel_rfl
theorem tyf124 : TD.fits Tryz.prog 124 (.other) := trivial
theorem tyi124 : (Tryz.prog.info? 124).map (fun i => (i.size, i.bytes, i.zero)) = some (1, 8, some (.nilFunc)) := by kernel_rfl
theorem tyf128 : TD.fits Tryz.prog 128 (.other) := trivial
theorem tyi128 : (Tryz.prog.info? 128).map (fun i => (i.size, i.bytes, i.zero)) = some (1, 8, some (.nilFunc)) := by kernel_rfl
theorem tyf129 : TD.fits Tryz.prog 129 (.other) := trivial
theorem tyi129 : (Tryz.prog.info? 129).map (fun i => (i.size, i.bytes, i.zero)) = some (1, 8, some (.nilFunc)) := by kernel_rfl
theorem tyf130 : Tryz.prog.underlying 130 = some (.pointer 126) := by kernel_rfl
theorem tyi130 : (Tryz.prog.info? 130).map (fun i => (i.size, i.bytes, i.zero)) = some (1, 8, some (.pointer none)) := by kernel_rfl
theorem tyf132 : TD.fits Tryz.prog 132 (.other) := trivial
theorem tyi132 : (Tryz.prog.info? 132).map (fun i => (i.size, i.bytes, i.zero)) = some (1, 8, some (.nilFunc)) := by kernel_rfl
theorem tyf133 : TD.fits Tryz.prog 133 (.other) := trivial
theorem tyi133 : (Tryz.prog.info? 133).map (fun i => (i.size, i.bytes, i.zero)) = some (1, 8, some (.nilFunc)) := by kernel_rfl
theorem tyf134 : TD.fits Tryz.prog 134 (.other) := trivial
theorem tyi134 : (Tryz.prog.info? 134).map (fun i => (i.size, i.bytes, i.zero)) = some (1, 8, some (.nilFunc)) := by kernel_rfl
theorem tyf135 : TD.fits Tryz.prog 135 (.other) := trivial
theorem tyi135 : (Tryz.prog.info? 135).map (fun i => (i.size, i.bytes, i.zero)) = some (1, 8, some (.nilFunc)) := by kernel_rfl
theorem tyf136 : Tryz.prog.underlying 136 = some (.pointer 5) := by kernel_rfl
theorem tyi136 : (Tryz.prog.info? 136).map (fun i => (i.size, i.bytes, i.zero)) = some (1, 8, some (.pointer none)) := by kernel_rfl
theorem tyf137 : TD.fits Tryz.prog 137 (.other) := trivial
theorem tyi137 : (Tryz.prog.info? 137).map (fun i => (i.size, i.bytes, i.zero)) = some (1, 8, some (.nilFunc)) := by kernel_rfl
theorem tyf139 : TD.fits Tryz.prog 139 (.other) := trivial
theorem tyi139 : (Tryz.prog.info? 139).map (fun i => (i.size, i.bytes, i.zero)) = some (1, 8, some (.nilFunc)) := by kernel_rfl
theorem tyf140 : TD.fits Tryz.prog 140 (.other) := trivial
theorem tyi140 : (Tryz.prog.info? 140).map (fun i => (i.size, i.bytes, i.zero)) = some (1, 8, some (.nilFunc)) := by kernel_rfl
theorem tyf142 : TD.fits Tryz.prog 142 (.other) := trivial
theorem tyi142 : (Tryz.prog.info? 142).map (fun i => (i.size, i.bytes, i.zero)) = some (1, 8, some (.nilFunc)) := by kernel_rfl
theorem tyf144 : TD.fits Tryz.prog 144 (.other) := trivial
theorem tyi144 : (Tryz.prog.info? 144).map (fun i => (i.size, i.bytes, i.zero)) = some (1, 8, some (.nilFunc)) := by kernel_rfl
theorem tyf145 : TD.fits Tryz.prog 145 (.other) := trivial
theorem tyi145 : (Tryz.prog.info? 145).map (fun i => (i.size, i.bytes, i.zero)) = some (1, 8, some (.nilFunc)) := by kernel_rfl
theorem tyf147 : TD.fits Tryz.prog 147 (.other) := trivial
theorem tyi147 : (Tryz.prog.info? 147).map (fun i => (i.size, i.bytes, i.zero)) = some (1, 8, some (.nilFunc)) := by kernel_rfl
theorem tyf148 : TD.fits Tryz.prog 148 (.other) := trivial
theorem tyi148 : (Tryz.prog.info? 148).map (fun i => (i.size, i.bytes, i.zero)) = some (1, 8, some (.nilFunc)) := by kernel_rfl
theorem tyf149 : TD.fits Tryz.prog 149 (.other) := trivial
theorem tyi149 : (Tryz.prog.info? 149).map (fun i => (i.size, i.bytes, i.zero)) = some (1, 8, some (.nilFunc)) := by kernel_rfl
theorem tyf151 : structOf Tryz.prog 151 = some [(5, 0, some 1), (5, 1, some 1)] := by kernel_rfl
theorem tyi151 : (Tryz.prog.info? 151).map (fun i => (i.size, i.bytes, i.zero)) = some (2, 2, some (.agg #[.int .u8 0, .int .u8 0])) := by kernel_rfl
theorem tyf152 : structOf Tryz.prog 152 = some [(5, 0, some 1), (5, 1, some 1)] := by kernel_rfl
theorem tyi152 : (Tryz.prog.info? 152).map (fun i => (i.size, i.bytes, i.zero)) = some (2, 2, some (.agg #[.int .u8 0, .int .u8 0])) := by kernel_rfl
theorem tyf153 : Tryz.prog.underlying 153 = some (.array 16 152) := by kernel_rfl
theorem tyi153 : (Tryz.prog.info? 153).map (fun i => (i.size, i.bytes, i.zero)) = some (32, 32, some (.agg #[.int .u8 0, .int .u8 0, .int .u8 0, .int .u8 0, .int .u8 0, .int .u8 0, .int .u8 0, .int .u8 0, .int .u8 0, .int .u8 0, .int .u8 0, .int .u8 0, .int .u8 0, .int .u8 0, .int .u8 0, .int .u8 0, .int .u8 0, .int .u8 0, .int .u8 0, .int .u8 0, .int .u8 0, .int .u8 0, .int .u8 0, .int .u8 0, .int .u8 0, .int .u8 0, .int .u8 0, .int .u8 0, .int .u8 0, .int .u8 0, .int .u8 0, .int .u8 0])) := by kernel_rfl
theorem tyf154 : TD.fits Tryz.prog 154 (.other) := trivial
theorem tyi154 : (Tryz.prog.info? 154).map (fun i => (i.size, i.bytes, i.zero)) = some (1, 8, some (.nilFunc)) := by kernel_rfl
theorem tyf155 : TD.fits Tryz.prog 155 (.other) := trivial
theorem tyi155 : (Tryz.prog.info? 155).map (fun i => (i.size, i.bytes, i.zero)) = some (1, 8, some (.nilFunc)) := by kernel_rfl
theorem tyf156 : TD.fits Tryz.prog 156 (.other) := trivial
theorem tyi156 : (Tryz.prog.info? 156).map (fun i => (i.size, i.bytes, i.zero)) = some (1, 8, some (.nilFunc)) := by kernel_rfl
theorem tyf164 : TD.fits Tryz.prog 164 (.other) := trivial
theorem tyi164 : (Tryz.prog.info? 164).map (fun i => (i.size, i.bytes, i.zero)) = some (1, 8, some (.nilFunc)) := by kernel_rfl
set_option maxRecDepth 20000 in
theorem tyOk : allOk Tryz.prog tyTab :=
  ⟨tyf1, tyi1,
  tyf2, tyi2,
  tyf3, tyi3,
  tyf4, tyi4,
  tyf5, tyi5,
  tyf9, tyi9,
  tyf12, tyi12,
  tyf13, tyi13,
  tyf20, tyi20,
  tyf21, tyi21,
  tyf22, tyi22,
  tyf23, tyi23,
  tyf24, tyi24,
  tyf25, tyi25,
  tyf26, tyi26,
  tyf27, tyi27,
  tyf28, tyi28,
  tyf29, tyi29,
  tyf30, tyi30,
  tyf31, tyi31,
  tyf32, tyi32,
  tyf33, tyi33,
  tyf34, tyi34,
  tyf35, tyi35,
  tyf36, tyi36,
  tyf38, tyi38,
  tyf39, tyi39,
  tyf41, tyi41,
  tyf42, tyi42,
  tyf43, tyi43,
  tyf44, tyi44,
  tyf45, tyi45,
  tyf46, tyi46,
  tyf47, tyi47,
  tyf48, tyi48,
  tyf49, tyi49,
  tyf50, tyi50,
  tyf51, tyi51,
  tyf52, tyi52,
  tyf53, tyi53,
  tyf54, tyi54,
  tyf55, tyi55,
  tyf56, tyi56,
  tyf57, tyi57,
  tyf58, tyi58,
  tyf59, tyi59,
  tyf60, tyi60,
  tyf61, tyi61,
  tyf62, tyi62,
  tyf63, tyi63,
  tyf64, tyi64,
  tyf65, tyi65,
  tyf66, tyi66,
  tyf67, tyi67,
  tyf68, tyi68,
  tyf69, tyi69,
  tyf71, tyi71,
  tyf72, tyi72,
  tyf73, tyi73,
  tyf75, tyi75,
  tyf76, tyi76,
  tyf77, tyi77,
  tyf79, tyi79,
  tyf80, tyi80,
  tyf81, tyi81,
  tyf82, tyi82,
  tyf84, tyi84,
  tyf85, tyi85,
  tyf86, tyi86,
  tyf88, tyi88,
  tyf89, tyi89,
  tyf90, tyi90,
  tyf91, tyi91,
  tyf92, tyi92,
  tyf93, tyi93,
  tyf94, tyi94,
  tyf95, tyi95,
  tyf96, tyi96,
  tyf97, tyi97,
  tyf98, tyi98,
  tyf99, tyi99,
  tyf100, tyi100,
  tyf102, tyi102,
  tyf104, tyi104,
  tyf105, tyi105,
  tyf106, tyi106,
  tyf107, tyi107,
  tyf108, tyi108,
  tyf109, tyi109,
  tyf110, tyi110,
  tyf111, tyi111,
  tyf112, tyi112,
  tyf113, tyi113,
  tyf114, tyi114,
  tyf115, tyi115,
  tyf116, tyi116,
  tyf117, tyi117,
  tyf118, tyi118,
  tyf119, tyi119,
  tyf120, tyi120,
  tyf121, tyi121,
  tyf123, tyi123,
  tyf124, tyi124,
  tyf128, tyi128,
  tyf129, tyi129,
  tyf130, tyi130,
  tyf132, tyi132,
  tyf133, tyi133,
  tyf134, tyi134,
  tyf135, tyi135,
  tyf136, tyi136,
  tyf137, tyi137,
  tyf139, tyi139,
  tyf140, tyi140,
  tyf142, tyi142,
  tyf144, tyi144,
  tyf145, tyi145,
  tyf147, tyi147,
  tyf148, tyi148,
  tyf149, tyi149,
  tyf151, tyi151,
  tyf152, tyi152,
  tyf153, tyi153,
  tyf154, tyi154,
  tyf155, tyi155,
  tyf156, tyi156,
  tyf164, tyi164, trivial⟩
/-- A type's row, by looking. -/
theorem tyy {t : Nat} {d : TD} {sz by_ : Nat} {z : Value} (h : tlook tyTab t = some ⟨d, sz, by_, z⟩) : Ty Tryz.prog t d sz by_ z := tlook_ok tyOk h
def slB (t : Nat) : Bool := match tlook tyTab t with
  | some ⟨.slice _, _, _, _⟩ => true
  | _ => false
theorem mixedOk : Tryz.prog.follows .mixedOrders = true := by kernel_rfl
end Go.Proofs.YtmbpjgjajedonaaGreatDoor
