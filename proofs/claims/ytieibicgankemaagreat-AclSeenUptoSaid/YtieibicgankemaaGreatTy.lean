/- The table of types of this seat's program, printed by tyenv.py. -/
import Derived.Test.YtieibicgankemaaGreatLtC
import Derived.Test.YtieibicgankemaaGreatProg
import Derived.KernelRfl
namespace Go.Proofs.YtieibicgankemaaGreat

set_option linter.all false
def tyTab : List (Nat × TRow) := [(1, ⟨.other, 1, 8, .nilFunc⟩),
  (2, ⟨.int .i64, 1, 8, .int .i64 0⟩),
  (3, ⟨.int .i64, 1, 8, .int .i64 0⟩),
  (4, ⟨.bool, 1, 1, .bool false⟩),
  (5, ⟨.int .u8, 1, 1, .int .u8 0⟩),
  (9, ⟨.str, 1, 16, .string ⟨#[]⟩⟩),
  (12, ⟨.int .u64, 1, 8, .int .u64 0⟩),
  (13, ⟨.struct [(9, 0, 1), (12, 1, 1)], 2, 24, .agg #[.string ⟨#[]⟩, .int .u64 0]⟩),
  (20, ⟨.other, 1, 16, .nilIface⟩),
  (21, ⟨.int .i32, 1, 4, .int .i32 0⟩),
  (22, ⟨.slice 79, 1, 24, .slice none 0 0⟩),
  (23, ⟨.slice 79, 1, 24, .slice none 0 0⟩),
  (24, ⟨.slice 56, 1, 24, .slice none 0 0⟩),
  (25, ⟨.struct [(23, 0, 1), (23, 1, 1), (23, 2, 1), (24, 3, 1), (9, 4, 1), (3, 5, 1)], 6, 120, .agg #[.slice none 0 0, .slice none 0 0, .slice none 0 0, .slice none 0 0, .string ⟨#[]⟩, .int .i64 0]⟩),
  (26, ⟨.struct [(23, 0, 1), (23, 1, 1), (23, 2, 1), (24, 3, 1), (9, 4, 1), (3, 5, 1)], 6, 120, .agg #[.slice none 0 0, .slice none 0 0, .slice none 0 0, .slice none 0 0, .string ⟨#[]⟩, .int .i64 0]⟩),
  (27, ⟨.slice 45, 1, 24, .slice none 0 0⟩),
  (28, ⟨.ptr 54, 1, 8, .pointer none⟩),
  (29, ⟨.int .i64, 1, 8, .int .i64 0⟩),
  (31, ⟨.other, 1, 8, .nilFunc⟩),
  (32, ⟨.slice 60, 1, 24, .slice none 0 0⟩),
  (33, ⟨.slice 67, 1, 24, .slice none 0 0⟩),
  (34, ⟨.struct [(32, 0, 1), (33, 1, 1)], 2, 48, .agg #[.slice none 0 0, .slice none 0 0]⟩),
  (35, ⟨.struct [(32, 0, 1), (33, 1, 1)], 2, 48, .agg #[.slice none 0 0, .slice none 0 0]⟩),
  (36, ⟨.other, 1, 8, .nilFunc⟩),
  (37, ⟨.other, 1, 8, .nilFunc⟩),
  (38, ⟨.other, 1, 8, .nilFunc⟩),
  (39, ⟨.other, 1, 8, .nilFunc⟩),
  (40, ⟨.other, 1, 8, .nilFunc⟩),
  (41, ⟨.other, 1, 8, .nilFunc⟩),
  (42, ⟨.other, 1, 8, .nilFunc⟩),
  (43, ⟨.slice 9, 1, 24, .slice none 0 0⟩),
  (44, ⟨.struct [(9, 0, 1), (43, 1, 1)], 2, 40, .agg #[.string ⟨#[]⟩, .slice none 0 0]⟩),
  (45, ⟨.struct [(9, 0, 1), (43, 1, 1)], 2, 40, .agg #[.string ⟨#[]⟩, .slice none 0 0]⟩),
  (46, ⟨.other, 1, 8, .nilFunc⟩),
  (47, ⟨.other, 1, 8, .nilFunc⟩),
  (48, ⟨.other, 1, 8, .nilFunc⟩),
  (50, ⟨.other, 1, 8, .nilFunc⟩),
  (51, ⟨.other, 1, 8, .nilFunc⟩),
  (52, ⟨.slice 64, 1, 24, .slice none 0 0⟩),
  (53, ⟨.struct [(23, 0, 1), (52, 1, 1)], 2, 48, .agg #[.slice none 0 0, .slice none 0 0]⟩),
  (54, ⟨.struct [(23, 0, 1), (52, 1, 1)], 2, 48, .agg #[.slice none 0 0, .slice none 0 0]⟩),
  (55, ⟨.struct [(3, 0, 1), (9, 1, 1), (9, 2, 1), (9, 3, 1), (3, 4, 1), (4, 5, 1)], 6, 72, .agg #[.int .i64 0, .string ⟨#[]⟩, .string ⟨#[]⟩, .string ⟨#[]⟩, .int .i64 0, .bool false]⟩),
  (56, ⟨.struct [(3, 0, 1), (9, 1, 1), (9, 2, 1), (9, 3, 1), (3, 4, 1), (4, 5, 1)], 6, 72, .agg #[.int .i64 0, .string ⟨#[]⟩, .string ⟨#[]⟩, .string ⟨#[]⟩, .int .i64 0, .bool false]⟩),
  (58, ⟨.other, 1, 8, .nilFunc⟩),
  (59, ⟨.struct [(9, 0, 1), (3, 1, 1), (4, 2, 1), (4, 3, 1)], 4, 32, .agg #[.string ⟨#[]⟩, .int .i64 0, .bool false, .bool false]⟩),
  (60, ⟨.struct [(9, 0, 1), (3, 1, 1), (4, 2, 1), (4, 3, 1)], 4, 32, .agg #[.string ⟨#[]⟩, .int .i64 0, .bool false, .bool false]⟩),
  (62, ⟨.other, 1, 8, .nilFunc⟩),
  (63, ⟨.struct [(56, 0, 6), (23, 6, 1), (23, 7, 1)], 8, 120, .agg #[.int .i64 0, .string ⟨#[]⟩, .string ⟨#[]⟩, .string ⟨#[]⟩, .int .i64 0, .bool false, .slice none 0 0, .slice none 0 0]⟩),
  (64, ⟨.struct [(56, 0, 6), (23, 6, 1), (23, 7, 1)], 8, 120, .agg #[.int .i64 0, .string ⟨#[]⟩, .string ⟨#[]⟩, .string ⟨#[]⟩, .int .i64 0, .bool false, .slice none 0 0, .slice none 0 0]⟩),
  (65, ⟨.other, 1, 8, .nilFunc⟩),
  (66, ⟨.struct [(9, 0, 1), (9, 1, 1), (3, 2, 1), (43, 3, 1), (43, 4, 1)], 5, 88, .agg #[.string ⟨#[]⟩, .string ⟨#[]⟩, .int .i64 0, .slice none 0 0, .slice none 0 0]⟩),
  (67, ⟨.struct [(9, 0, 1), (9, 1, 1), (3, 2, 1), (43, 3, 1), (43, 4, 1)], 5, 88, .agg #[.string ⟨#[]⟩, .string ⟨#[]⟩, .int .i64 0, .slice none 0 0, .slice none 0 0]⟩),
  (68, ⟨.other, 1, 8, .nilFunc⟩),
  (69, ⟨.struct [(3, 0, 1), (23, 1, 1), (23, 2, 1), (27, 3, 1)], 4, 80, .agg #[.int .i64 0, .slice none 0 0, .slice none 0 0, .slice none 0 0]⟩),
  (70, ⟨.struct [(3, 0, 1), (23, 1, 1), (23, 2, 1), (27, 3, 1)], 4, 80, .agg #[.int .i64 0, .slice none 0 0, .slice none 0 0, .slice none 0 0]⟩),
  (71, ⟨.other, 1, 8, .nilFunc⟩),
  (72, ⟨.other, 1, 8, .nilFunc⟩),
  (74, ⟨.other, 1, 8, .nilFunc⟩),
  (75, ⟨.other, 1, 8, .nilFunc⟩),
  (76, ⟨.other, 1, 8, .nilFunc⟩),
  (77, ⟨.other, 1, 8, .nilFunc⟩),
  (78, ⟨.slice 81, 1, 24, .slice none 0 0⟩),
  (79, ⟨.slice 81, 1, 24, .slice none 0 0⟩),
  (80, ⟨.struct [(9, 0, 1), (9, 1, 1)], 2, 32, .agg #[.string ⟨#[]⟩, .string ⟨#[]⟩]⟩),
  (81, ⟨.struct [(9, 0, 1), (9, 1, 1)], 2, 32, .agg #[.string ⟨#[]⟩, .string ⟨#[]⟩]⟩),
  (82, ⟨.other, 1, 8, .nilFunc⟩),
  (83, ⟨.other, 1, 8, .nilFunc⟩),
  (85, ⟨.other, 1, 8, .nilFunc⟩),
  (86, ⟨.other, 1, 8, .nilFunc⟩),
  (87, ⟨.other, 1, 8, .nilFunc⟩),
  (88, ⟨.other, 1, 8, .nilFunc⟩),
  (89, ⟨.struct [(35, 0, 2)], 2, 48, .agg #[.slice none 0 0, .slice none 0 0]⟩),
  (90, ⟨.struct [(35, 0, 2)], 2, 48, .agg #[.slice none 0 0, .slice none 0 0]⟩),
  (91, ⟨.other, 1, 8, .nilFunc⟩),
  (92, ⟨.slice 23, 1, 24, .slice none 0 0⟩),
  (93, ⟨.other, 1, 8, .nilFunc⟩),
  (94, ⟨.other, 1, 8, .nilFunc⟩),
  (96, ⟨.other, 1, 8, .nilFunc⟩),
  (97, ⟨.other, 1, 8, .nilFunc⟩),
  (98, ⟨.other, 1, 8, .nilFunc⟩),
  (99, ⟨.other, 1, 8, .nilFunc⟩),
  (100, ⟨.other, 1, 8, .nilFunc⟩),
  (101, ⟨.other, 1, 8, .nilFunc⟩),
  (102, ⟨.other, 1, 8, .nilFunc⟩),
  (103, ⟨.slice 5, 1, 24, .slice none 0 0⟩),
  (104, ⟨.other, 1, 8, .nilFunc⟩),
  (106, ⟨.other, 1, 8, .nilFunc⟩),
  (107, ⟨.other, 1, 8, .nilFunc⟩),
  (108, ⟨.other, 1, 8, .nilFunc⟩),
  (109, ⟨.other, 1, 8, .nilFunc⟩),
  (110, ⟨.other, 1, 8, .nilFunc⟩),
  (111, ⟨.other, 1, 8, .nilFunc⟩),
  (113, ⟨.other, 1, 8, .nilFunc⟩),
  (114, ⟨.other, 1, 8, .nilFunc⟩),
  (115, ⟨.other, 1, 8, .nilFunc⟩),
  (116, ⟨.int .u64, 1, 8, .int .u64 0⟩),
  (117, ⟨.ptr 119, 1, 8, .pointer none⟩),
  (118, ⟨.struct [(117, 0, 1), (103, 1, 1)], 2, 32, .agg #[.pointer none, .slice none 0 0]⟩),
  (119, ⟨.struct [(117, 0, 1), (103, 1, 1)], 2, 32, .agg #[.pointer none, .slice none 0 0]⟩),
  (120, ⟨.other, 1, 8, .nilFunc⟩),
  (121, ⟨.other, 1, 16, .nilIface⟩),
  (122, ⟨.other, 1, 16, .nilIface⟩),
  (124, ⟨.other, 1, 8, .nilFunc⟩),
  (125, ⟨.other, 1, 8, .nilFunc⟩),
  (126, ⟨.other, 1, 8, .nilFunc⟩),
  (127, ⟨.other, 1, 8, .nilFunc⟩),
  (129, ⟨.other, 1, 8, .nilFunc⟩),
  (130, ⟨.other, 1, 8, .nilFunc⟩),
  (131, ⟨.int .i64, 1, 8, .int .i64 0⟩),
  (133, ⟨.other, 1, 8, .nilFunc⟩),
  (134, ⟨.other, 1, 8, .nilFunc⟩),
  (135, ⟨.other, 1, 8, .nilFunc⟩),
  (137, ⟨.other, 1, 8, .nilFunc⟩),
  (138, ⟨.other, 1, 8, .nilFunc⟩),
  (139, ⟨.int .u32, 1, 4, .int .u32 0⟩),
  (140, ⟨.other, 1, 8, .nilFunc⟩),
  (141, ⟨.int .u64, 1, 8, .int .u64 0⟩),
  (142, ⟨.ptr 5, 1, 8, .pointer none⟩),
  (143, ⟨.other, 1, 8, .nilFunc⟩),
  (144, ⟨.other, 1, 8, .nilFunc⟩),
  (145, ⟨.int .u64, 1, 8, .int .u64 0⟩),
  (146, ⟨.other, 1, 8, .nilFunc⟩),
  (147, ⟨.other, 1, 8, .nilFunc⟩),
  (148, ⟨.other, 1, 8, .nilFunc⟩),
  (149, ⟨.ptr 3, 1, 8, .pointer none⟩),
  (150, ⟨.other, 1, 8, .nilFunc⟩),
  (152, ⟨.other, 1, 8, .nilFunc⟩),
  (153, ⟨.other, 1, 8, .nilFunc⟩),
  (155, ⟨.other, 1, 8, .nilFunc⟩),
  (156, ⟨.ptr 145, 1, 8, .pointer none⟩),
  (158, ⟨.other, 1, 8, .nilFunc⟩),
  (164, ⟨.other, 1, 8, .nilFunc⟩),
  (167, ⟨.other, 1, 8, .nilFunc⟩),
  (172, ⟨.other, 1, 8, .nilFunc⟩)]
theorem tyf1 : TD.fits Tryz.prog 1 (.other) := trivial
theorem tyi1 : (Tryz.prog.info? 1).map (fun i => (i.size, i.bytes, i.zero)) = some (1, 8, some (.nilFunc)) := by kernel_rfl
theorem tyf2 : Tryz.prog.underlying 2 = some (.int .i64) := by kernel_rfl
theorem tyi2 : (Tryz.prog.info? 2).map (fun i => (i.size, i.bytes, i.zero)) = some (1, 8, some (.int .i64 0)) := by kernel_rfl
theorem tyf3 : Tryz.prog.underlying 3 = some (.int .i64) := by kernel_rfl
theorem tyi3 : (Tryz.prog.info? 3).map (fun i => (i.size, i.bytes, i.zero)) = some (1, 8, some (.int .i64 0)) := by kernel_rfl
theorem tyf4 : Tryz.prog.underlying 4 = some .bool := by kernel_rfl
theorem tyi4 : (Tryz.prog.info? 4).map (fun i => (i.size, i.bytes, i.zero)) = some (1, 1, some (.bool false)) := by kernel_rfl
theorem tyf5 : Tryz.prog.underlying 5 = some (.int .u8) := by kernel_rfl
theorem tyi5 : (Tryz.prog.info? 5).map (fun i => (i.size, i.bytes, i.zero)) = some (1, 1, some (.int .u8 0)) := by kernel_rfl
theorem tyf9 : Tryz.prog.underlying 9 = some .string := by kernel_rfl
theorem tyi9 : (Tryz.prog.info? 9).map (fun i => (i.size, i.bytes, i.zero)) = some (1, 16, some (.string ⟨#[]⟩)) := by kernel_rfl
theorem tyf12 : Tryz.prog.underlying 12 = some (.int .u64) := by kernel_rfl
theorem tyi12 : (Tryz.prog.info? 12).map (fun i => (i.size, i.bytes, i.zero)) = some (1, 8, some (.int .u64 0)) := by kernel_rfl
theorem tyf13 : structOf Tryz.prog 13 = some [(9, 0, some 1), (12, 1, some 1)] := by kernel_rfl
theorem tyi13 : (Tryz.prog.info? 13).map (fun i => (i.size, i.bytes, i.zero)) = some (2, 24, some (.agg #[.string ⟨#[]⟩, .int .u64 0])) := by kernel_rfl
theorem tyf20 : TD.fits Tryz.prog 20 (.other) := trivial
theorem tyi20 : (Tryz.prog.info? 20).map (fun i => (i.size, i.bytes, i.zero)) = some (1, 16, some (.nilIface)) := by kernel_rfl
theorem tyf21 : Tryz.prog.underlying 21 = some (.int .i32) := by kernel_rfl
theorem tyi21 : (Tryz.prog.info? 21).map (fun i => (i.size, i.bytes, i.zero)) = some (1, 4, some (.int .i32 0)) := by kernel_rfl
theorem tyf22 : Tryz.prog.underlying 22 = some (.slice 79) := by kernel_rfl
theorem tyi22 : (Tryz.prog.info? 22).map (fun i => (i.size, i.bytes, i.zero)) = some (1, 24, some (.slice none 0 0)) := by kernel_rfl
theorem tyf23 : Tryz.prog.underlying 23 = some (.slice 79) := by kernel_rfl
theorem tyi23 : (Tryz.prog.info? 23).map (fun i => (i.size, i.bytes, i.zero)) = some (1, 24, some (.slice none 0 0)) := by kernel_rfl
theorem tyf24 : Tryz.prog.underlying 24 = some (.slice 56) := by kernel_rfl
theorem tyi24 : (Tryz.prog.info? 24).map (fun i => (i.size, i.bytes, i.zero)) = some (1, 24, some (.slice none 0 0)) := by kernel_rfl
theorem tyf25 : structOf Tryz.prog 25 = some [(23, 0, some 1), (23, 1, some 1), (23, 2, some 1), (24, 3, some 1), (9, 4, some 1), (3, 5, some 1)] := by kernel_rfl
theorem tyi25 : (Tryz.prog.info? 25).map (fun i => (i.size, i.bytes, i.zero)) = some (6, 120, some (.agg #[.slice none 0 0, .slice none 0 0, .slice none 0 0, .slice none 0 0, .string ⟨#[]⟩, .int .i64 0])) := by kernel_rfl
theorem tyf26 : structOf Tryz.prog 26 = some [(23, 0, some 1), (23, 1, some 1), (23, 2, some 1), (24, 3, some 1), (9, 4, some 1), (3, 5, some 1)] := by kernel_rfl
theorem tyi26 : (Tryz.prog.info? 26).map (fun i => (i.size, i.bytes, i.zero)) = some (6, 120, some (.agg #[.slice none 0 0, .slice none 0 0, .slice none 0 0, .slice none 0 0, .string ⟨#[]⟩, .int .i64 0])) := by kernel_rfl
theorem tyf27 : Tryz.prog.underlying 27 = some (.slice 45) := by kernel_rfl
theorem tyi27 : (Tryz.prog.info? 27).map (fun i => (i.size, i.bytes, i.zero)) = some (1, 24, some (.slice none 0 0)) := by kernel_rfl
theorem tyf28 : Tryz.prog.underlying 28 = some (.pointer 54) := by kernel_rfl
theorem tyi28 : (Tryz.prog.info? 28).map (fun i => (i.size, i.bytes, i.zero)) = some (1, 8, some (.pointer none)) := by kernel_rfl
theorem tyf29 : Tryz.prog.underlying 29 = some (.int .i64) := by kernel_rfl
theorem tyi29 : (Tryz.prog.info? 29).map (fun i => (i.size, i.bytes, i.zero)) = some (1, 8, some (.int .i64 0)) := by kernel_rfl
theorem tyf31 : TD.fits Tryz.prog 31 (.other) := trivial
theorem tyi31 : (Tryz.prog.info? 31).map (fun i => (i.size, i.bytes, i.zero)) = some (1, 8, some (.nilFunc)) := by kernel_rfl
theorem tyf32 : Tryz.prog.underlying 32 = some (.slice 60) := by kernel_rfl
theorem tyi32 : (Tryz.prog.info? 32).map (fun i => (i.size, i.bytes, i.zero)) = some (1, 24, some (.slice none 0 0)) := by kernel_rfl
theorem tyf33 : Tryz.prog.underlying 33 = some (.slice 67) := by kernel_rfl
theorem tyi33 : (Tryz.prog.info? 33).map (fun i => (i.size, i.bytes, i.zero)) = some (1, 24, some (.slice none 0 0)) := by kernel_rfl
theorem tyf34 : structOf Tryz.prog 34 = some [(32, 0, some 1), (33, 1, some 1)] := by kernel_rfl
theorem tyi34 : (Tryz.prog.info? 34).map (fun i => (i.size, i.bytes, i.zero)) = some (2, 48, some (.agg #[.slice none 0 0, .slice none 0 0])) := by kernel_rfl
theorem tyf35 : structOf Tryz.prog 35 = some [(32, 0, some 1), (33, 1, some 1)] := by kernel_rfl
theorem tyi35 : (Tryz.prog.info? 35).map (fun i => (i.size, i.bytes, i.zero)) = some (2, 48, some (.agg #[.slice none 0 0, .slice none 0 0])) := by kernel_rfl
theorem tyf36 : TD.fits Tryz.prog 36 (.other) := trivial
theorem tyi36 : (Tryz.prog.info? 36).map (fun i => (i.size, i.bytes, i.zero)) = some (1, 8, some (.nilFunc)) := by kernel_rfl
theorem tyf37 : TD.fits Tryz.prog 37 (.other) := trivial
theorem tyi37 : (Tryz.prog.info? 37).map (fun i => (i.size, i.bytes, i.zero)) = some (1, 8, some (.nilFunc)) := by kernel_rfl
theorem tyf38 : TD.fits Tryz.prog 38 (.other) := trivial
theorem tyi38 : (Tryz.prog.info? 38).map (fun i => (i.size, i.bytes, i.zero)) = some (1, 8, some (.nilFunc)) := by kernel_rfl
theorem tyf39 : TD.fits Tryz.prog 39 (.other) := trivial
theorem tyi39 : (Tryz.prog.info? 39).map (fun i => (i.size, i.bytes, i.zero)) = some (1, 8, some (.nilFunc)) := by kernel_rfl
theorem tyf40 : TD.fits Tryz.prog 40 (.other) := trivial
theorem tyi40 : (Tryz.prog.info? 40).map (fun i => (i.size, i.bytes, i.zero)) = some (1, 8, some (.nilFunc)) := by kernel_rfl
theorem tyf41 : TD.fits Tryz.prog 41 (.other) := trivial
theorem tyi41 : (Tryz.prog.info? 41).map (fun i => (i.size, i.bytes, i.zero)) = some (1, 8, some (.nilFunc)) := by kernel_rfl
theorem tyf42 : TD.fits Tryz.prog 42 (.other) := trivial
theorem tyi42 : (Tryz.prog.info? 42).map (fun i => (i.size, i.bytes, i.zero)) = some (1, 8, some (.nilFunc)) := by kernel_rfl
theorem tyf43 : Tryz.prog.underlying 43 = some (.slice 9) := by kernel_rfl
theorem tyi43 : (Tryz.prog.info? 43).map (fun i => (i.size, i.bytes, i.zero)) = some (1, 24, some (.slice none 0 0)) := by kernel_rfl
theorem tyf44 : structOf Tryz.prog 44 = some [(9, 0, some 1), (43, 1, some 1)] := by kernel_rfl
theorem tyi44 : (Tryz.prog.info? 44).map (fun i => (i.size, i.bytes, i.zero)) = some (2, 40, some (.agg #[.string ⟨#[]⟩, .slice none 0 0])) := by kernel_rfl
theorem tyf45 : structOf Tryz.prog 45 = some [(9, 0, some 1), (43, 1, some 1)] := by kernel_rfl
theorem tyi45 : (Tryz.prog.info? 45).map (fun i => (i.size, i.bytes, i.zero)) = some (2, 40, some (.agg #[.string ⟨#[]⟩, .slice none 0 0])) := by kernel_rfl
theorem tyf46 : TD.fits Tryz.prog 46 (.other) := trivial
theorem tyi46 : (Tryz.prog.info? 46).map (fun i => (i.size, i.bytes, i.zero)) = some (1, 8, some (.nilFunc)) := by kernel_rfl
theorem tyf47 : TD.fits Tryz.prog 47 (.other) := trivial
theorem tyi47 : (Tryz.prog.info? 47).map (fun i => (i.size, i.bytes, i.zero)) = some (1, 8, some (.nilFunc)) := by kernel_rfl
theorem tyf48 : TD.fits Tryz.prog 48 (.other) := trivial
theorem tyi48 : (Tryz.prog.info? 48).map (fun i => (i.size, i.bytes, i.zero)) = some (1, 8, some (.nilFunc)) := by kernel_rfl
theorem tyf50 : TD.fits Tryz.prog 50 (.other) := trivial
theorem tyi50 : (Tryz.prog.info? 50).map (fun i => (i.size, i.bytes, i.zero)) = some (1, 8, some (.nilFunc)) := by kernel_rfl
theorem tyf51 : TD.fits Tryz.prog 51 (.other) := trivial
theorem tyi51 : (Tryz.prog.info? 51).map (fun i => (i.size, i.bytes, i.zero)) = some (1, 8, some (.nilFunc)) := by kernel_rfl
theorem tyf52 : Tryz.prog.underlying 52 = some (.slice 64) := by kernel_rfl
theorem tyi52 : (Tryz.prog.info? 52).map (fun i => (i.size, i.bytes, i.zero)) = some (1, 24, some (.slice none 0 0)) := by kernel_rfl
theorem tyf53 : structOf Tryz.prog 53 = some [(23, 0, some 1), (52, 1, some 1)] := by kernel_rfl
theorem tyi53 : (Tryz.prog.info? 53).map (fun i => (i.size, i.bytes, i.zero)) = some (2, 48, some (.agg #[.slice none 0 0, .slice none 0 0])) := by kernel_rfl
theorem tyf54 : structOf Tryz.prog 54 = some [(23, 0, some 1), (52, 1, some 1)] := by kernel_rfl
theorem tyi54 : (Tryz.prog.info? 54).map (fun i => (i.size, i.bytes, i.zero)) = some (2, 48, some (.agg #[.slice none 0 0, .slice none 0 0])) := by kernel_rfl
theorem tyf55 : structOf Tryz.prog 55 = some [(3, 0, some 1), (9, 1, some 1), (9, 2, some 1), (9, 3, some 1), (3, 4, some 1), (4, 5, some 1)] := by kernel_rfl
theorem tyi55 : (Tryz.prog.info? 55).map (fun i => (i.size, i.bytes, i.zero)) = some (6, 72, some (.agg #[.int .i64 0, .string ⟨#[]⟩, .string ⟨#[]⟩, .string ⟨#[]⟩, .int .i64 0, .bool false])) := by kernel_rfl
theorem tyf56 : structOf Tryz.prog 56 = some [(3, 0, some 1), (9, 1, some 1), (9, 2, some 1), (9, 3, some 1), (3, 4, some 1), (4, 5, some 1)] := by kernel_rfl
theorem tyi56 : (Tryz.prog.info? 56).map (fun i => (i.size, i.bytes, i.zero)) = some (6, 72, some (.agg #[.int .i64 0, .string ⟨#[]⟩, .string ⟨#[]⟩, .string ⟨#[]⟩, .int .i64 0, .bool false])) := by kernel_rfl
theorem tyf58 : TD.fits Tryz.prog 58 (.other) := trivial
theorem tyi58 : (Tryz.prog.info? 58).map (fun i => (i.size, i.bytes, i.zero)) = some (1, 8, some (.nilFunc)) := by kernel_rfl
theorem tyf59 : structOf Tryz.prog 59 = some [(9, 0, some 1), (3, 1, some 1), (4, 2, some 1), (4, 3, some 1)] := by kernel_rfl
theorem tyi59 : (Tryz.prog.info? 59).map (fun i => (i.size, i.bytes, i.zero)) = some (4, 32, some (.agg #[.string ⟨#[]⟩, .int .i64 0, .bool false, .bool false])) := by kernel_rfl
theorem tyf60 : structOf Tryz.prog 60 = some [(9, 0, some 1), (3, 1, some 1), (4, 2, some 1), (4, 3, some 1)] := by kernel_rfl
theorem tyi60 : (Tryz.prog.info? 60).map (fun i => (i.size, i.bytes, i.zero)) = some (4, 32, some (.agg #[.string ⟨#[]⟩, .int .i64 0, .bool false, .bool false])) := by kernel_rfl
theorem tyf62 : TD.fits Tryz.prog 62 (.other) := trivial
theorem tyi62 : (Tryz.prog.info? 62).map (fun i => (i.size, i.bytes, i.zero)) = some (1, 8, some (.nilFunc)) := by kernel_rfl
theorem tyf63 : structOf Tryz.prog 63 = some [(56, 0, some 6), (23, 6, some 1), (23, 7, some 1)] := by kernel_rfl
theorem tyi63 : (Tryz.prog.info? 63).map (fun i => (i.size, i.bytes, i.zero)) = some (8, 120, some (.agg #[.int .i64 0, .string ⟨#[]⟩, .string ⟨#[]⟩, .string ⟨#[]⟩, .int .i64 0, .bool false, .slice none 0 0, .slice none 0 0])) := by kernel_rfl
theorem tyf64 : structOf Tryz.prog 64 = some [(56, 0, some 6), (23, 6, some 1), (23, 7, some 1)] := by kernel_rfl
theorem tyi64 : (Tryz.prog.info? 64).map (fun i => (i.size, i.bytes, i.zero)) = some (8, 120, some (.agg #[.int .i64 0, .string ⟨#[]⟩, .string ⟨#[]⟩, .string ⟨#[]⟩, .int .i64 0, .bool false, .slice none 0 0, .slice none 0 0])) := by kernel_rfl
theorem tyf65 : TD.fits Tryz.prog 65 (.other) := trivial
theorem tyi65 : (Tryz.prog.info? 65).map (fun i => (i.size, i.bytes, i.zero)) = some (1, 8, some (.nilFunc)) := by kernel_rfl
theorem tyf66 : structOf Tryz.prog 66 = some [(9, 0, some 1), (9, 1, some 1), (3, 2, some 1), (43, 3, some 1), (43, 4, some 1)] := by kernel_rfl
theorem tyi66 : (Tryz.prog.info? 66).map (fun i => (i.size, i.bytes, i.zero)) = some (5, 88, some (.agg #[.string ⟨#[]⟩, .string ⟨#[]⟩, .int .i64 0, .slice none 0 0, .slice none 0 0])) := by kernel_rfl
theorem tyf67 : structOf Tryz.prog 67 = some [(9, 0, some 1), (9, 1, some 1), (3, 2, some 1), (43, 3, some 1), (43, 4, some 1)] := by kernel_rfl
theorem tyi67 : (Tryz.prog.info? 67).map (fun i => (i.size, i.bytes, i.zero)) = some (5, 88, some (.agg #[.string ⟨#[]⟩, .string ⟨#[]⟩, .int .i64 0, .slice none 0 0, .slice none 0 0])) := by kernel_rfl
theorem tyf68 : TD.fits Tryz.prog 68 (.other) := trivial
theorem tyi68 : (Tryz.prog.info? 68).map (fun i => (i.size, i.bytes, i.zero)) = some (1, 8, some (.nilFunc)) := by kernel_rfl
theorem tyf69 : structOf Tryz.prog 69 = some [(3, 0, some 1), (23, 1, some 1), (23, 2, some 1), (27, 3, some 1)] := by kernel_rfl
theorem tyi69 : (Tryz.prog.info? 69).map (fun i => (i.size, i.bytes, i.zero)) = some (4, 80, some (.agg #[.int .i64 0, .slice none 0 0, .slice none 0 0, .slice none 0 0])) := by kernel_rfl
theorem tyf70 : structOf Tryz.prog 70 = some [(3, 0, some 1), (23, 1, some 1), (23, 2, some 1), (27, 3, some 1)] := by kernel_rfl
theorem tyi70 : (Tryz.prog.info? 70).map (fun i => (i.size, i.bytes, i.zero)) = some (4, 80, some (.agg #[.int .i64 0, .slice none 0 0, .slice none 0 0, .slice none 0 0])) := by kernel_rfl
theorem tyf71 : TD.fits Tryz.prog 71 (.other) := trivial
theorem tyi71 : (Tryz.prog.info? 71).map (fun i => (i.size, i.bytes, i.zero)) = some (1, 8, some (.nilFunc)) := by kernel_rfl
theorem tyf72 : TD.fits Tryz.prog 72 (.other) := trivial
theorem tyi72 : (Tryz.prog.info? 72).map (fun i => (i.size, i.bytes, i.zero)) = some (1, 8, some (.nilFunc)) := by kernel_rfl
theorem tyf74 : TD.fits Tryz.prog 74 (.other) := trivial
theorem tyi74 : (Tryz.prog.info? 74).map (fun i => (i.size, i.bytes, i.zero)) = some (1, 8, some (.nilFunc)) := by kernel_rfl
theorem tyf75 : TD.fits Tryz.prog 75 (.other) := trivial
theorem tyi75 : (Tryz.prog.info? 75).map (fun i => (i.size, i.bytes, i.zero)) = some (1, 8, some (.nilFunc)) := by kernel_rfl
theorem tyf76 : TD.fits Tryz.prog 76 (.other) := trivial
theorem tyi76 : (Tryz.prog.info? 76).map (fun i => (i.size, i.bytes, i.zero)) = some (1, 8, some (.nilFunc)) := by kernel_rfl
theorem tyf77 : TD.fits Tryz.prog 77 (.other) := trivial
theorem tyi77 : (Tryz.prog.info? 77).map (fun i => (i.size, i.bytes, i.zero)) = some (1, 8, some (.nilFunc)) := by kernel_rfl
theorem tyf78 : Tryz.prog.underlying 78 = some (.slice 81) := by kernel_rfl
theorem tyi78 : (Tryz.prog.info? 78).map (fun i => (i.size, i.bytes, i.zero)) = some (1, 24, some (.slice none 0 0)) := by kernel_rfl
theorem tyf79 : Tryz.prog.underlying 79 = some (.slice 81) := by kernel_rfl
theorem tyi79 : (Tryz.prog.info? 79).map (fun i => (i.size, i.bytes, i.zero)) = some (1, 24, some (.slice none 0 0)) := by kernel_rfl
theorem tyf80 : structOf Tryz.prog 80 = some [(9, 0, some 1), (9, 1, some 1)] := by kernel_rfl
theorem tyi80 : (Tryz.prog.info? 80).map (fun i => (i.size, i.bytes, i.zero)) = some (2, 32, some (.agg #[.string ⟨#[]⟩, .string ⟨#[]⟩])) := by kernel_rfl
theorem tyf81 : structOf Tryz.prog 81 = some [(9, 0, some 1), (9, 1, some 1)] := by kernel_rfl
theorem tyi81 : (Tryz.prog.info? 81).map (fun i => (i.size, i.bytes, i.zero)) = some (2, 32, some (.agg #[.string ⟨#[]⟩, .string ⟨#[]⟩])) := by kernel_rfl
theorem tyf82 : TD.fits Tryz.prog 82 (.other) := trivial
theorem tyi82 : (Tryz.prog.info? 82).map (fun i => (i.size, i.bytes, i.zero)) = some (1, 8, some (.nilFunc)) := by kernel_rfl
theorem tyf83 : TD.fits Tryz.prog 83 (.other) := trivial
theorem tyi83 : (Tryz.prog.info? 83).map (fun i => (i.size, i.bytes, i.zero)) = some (1, 8, some (.nilFunc)) := by kernel_rfl
theorem tyf85 : TD.fits Tryz.prog 85 (.other) := trivial
theorem tyi85 : (Tryz.prog.info? 85).map (fun i => (i.size, i.bytes, i.zero)) = some (1, 8, some (.nilFunc)) := by kernel_rfl
theorem tyf86 : TD.fits Tryz.prog 86 (.other) := trivial
theorem tyi86 : (Tryz.prog.info? 86).map (fun i => (i.size, i.bytes, i.zero)) = some (1, 8, some (.nilFunc)) := by kernel_rfl
theorem tyf87 : TD.fits Tryz.prog 87 (.other) := trivial
theorem tyi87 : (Tryz.prog.info? 87).map (fun i => (i.size, i.bytes, i.zero)) = some (1, 8, some (.nilFunc)) := by kernel_rfl
theorem tyf88 : TD.fits Tryz.prog 88 (.other) := trivial
theorem tyi88 : (Tryz.prog.info? 88).map (fun i => (i.size, i.bytes, i.zero)) = some (1, 8, some (.nilFunc)) := by kernel_rfl
theorem tyf89 : structOf Tryz.prog 89 = some [(35, 0, some 2)] := by kernel_rfl
theorem tyi89 : (Tryz.prog.info? 89).map (fun i => (i.size, i.bytes, i.zero)) = some (2, 48, some (.agg #[.slice none 0 0, .slice none 0 0])) := by kernel_rfl
theorem tyf90 : structOf Tryz.prog 90 = some [(35, 0, some 2)] := by kernel_rfl
theorem tyi90 : (Tryz.prog.info? 90).map (fun i => (i.size, i.bytes, i.zero)) = some (2, 48, some (.agg #[.slice none 0 0, .slice none 0 0])) := by kernel_rfl
theorem tyf91 : TD.fits Tryz.prog 91 (.other) := trivial
theorem tyi91 : (Tryz.prog.info? 91).map (fun i => (i.size, i.bytes, i.zero)) = some (1, 8, some (.nilFunc)) := by kernel_rfl
theorem tyf92 : Tryz.prog.underlying 92 = some (.slice 23) := by kernel_rfl
theorem tyi92 : (Tryz.prog.info? 92).map (fun i => (i.size, i.bytes, i.zero)) = some (1, 24, some (.slice none 0 0)) := by kernel_rfl
theorem tyf93 : TD.fits Tryz.prog 93 (.other) := trivial
theorem tyi93 : (Tryz.prog.info? 93).map (fun i => (i.size, i.bytes, i.zero)) = some (1, 8, some (.nilFunc)) := by kernel_rfl
theorem tyf94 : TD.fits Tryz.prog 94 (.other) := trivial
theorem tyi94 : (Tryz.prog.info? 94).map (fun i => (i.size, i.bytes, i.zero)) = some (1, 8, some (.nilFunc)) := by kernel_rfl
theorem tyf96 : TD.fits Tryz.prog 96 (.other) := trivial
theorem tyi96 : (Tryz.prog.info? 96).map (fun i => (i.size, i.bytes, i.zero)) = some (1, 8, some (.nilFunc)) := by kernel_rfl
theorem tyf97 : TD.fits Tryz.prog 97 (.other) := trivial
theorem tyi97 : (Tryz.prog.info? 97).map (fun i => (i.size, i.bytes, i.zero)) = some (1, 8, some (.nilFunc)) := by kernel_rfl
theorem tyf98 : TD.fits Tryz.prog 98 (.other) := trivial
theorem tyi98 : (Tryz.prog.info? 98).map (fun i => (i.size, i.bytes, i.zero)) = some (1, 8, some (.nilFunc)) := by kernel_rfl
theorem tyf99 : TD.fits Tryz.prog 99 (.other) := trivial
theorem tyi99 : (Tryz.prog.info? 99).map (fun i => (i.size, i.bytes, i.zero)) = some (1, 8, some (.nilFunc)) := by kernel_rfl
theorem tyf100 : TD.fits Tryz.prog 100 (.other) := trivial
theorem tyi100 : (Tryz.prog.info? 100).map (fun i => (i.size, i.bytes, i.zero)) = some (1, 8, some (.nilFunc)) := by kernel_rfl
theorem tyf101 : TD.fits Tryz.prog 101 (.other) := trivial
theorem tyi101 : (Tryz.prog.info? 101).map (fun i => (i.size, i.bytes, i.zero)) = some (1, 8, some (.nilFunc)) := by kernel_rfl
theorem tyf102 : TD.fits Tryz.prog 102 (.other) := trivial
theorem tyi102 : (Tryz.prog.info? 102).map (fun i => (i.size, i.bytes, i.zero)) = some (1, 8, some (.nilFunc)) := by kernel_rfl
theorem tyf103 : Tryz.prog.underlying 103 = some (.slice 5) := by kernel_rfl
theorem tyi103 : (Tryz.prog.info? 103).map (fun i => (i.size, i.bytes, i.zero)) = some (1, 24, some (.slice none 0 0)) := by kernel_rfl
theorem tyf104 : TD.fits Tryz.prog 104 (.other) := trivial
theorem tyi104 : (Tryz.prog.info? 104).map (fun i => (i.size, i.bytes, i.zero)) = some (1, 8, some (.nilFunc)) := by kernel_rfl
theorem tyf106 : TD.fits Tryz.prog 106 (.other) := trivial
theorem tyi106 : (Tryz.prog.info? 106).map (fun i => (i.size, i.bytes, i.zero)) = some (1, 8, some (.nilFunc)) := by kernel_rfl
theorem tyf107 : TD.fits Tryz.prog 107 (.other) := trivial
theorem tyi107 : (Tryz.prog.info? 107).map (fun i => (i.size, i.bytes, i.zero)) = some (1, 8, some (.nilFunc)) := by kernel_rfl
theorem tyf108 : TD.fits Tryz.prog 108 (.other) := trivial
theorem tyi108 : (Tryz.prog.info? 108).map (fun i => (i.size, i.bytes, i.zero)) = some (1, 8, some (.nilFunc)) := by kernel_rfl
theorem tyf109 : TD.fits Tryz.prog 109 (.other) := trivial
theorem tyi109 : (Tryz.prog.info? 109).map (fun i => (i.size, i.bytes, i.zero)) = some (1, 8, some (.nilFunc)) := by kernel_rfl
theorem tyf110 : TD.fits Tryz.prog 110 (.other) := trivial
theorem tyi110 : (Tryz.prog.info? 110).map (fun i => (i.size, i.bytes, i.zero)) = some (1, 8, some (.nilFunc)) := by kernel_rfl
theorem tyf111 : TD.fits Tryz.prog 111 (.other) := trivial
theorem tyi111 : (Tryz.prog.info? 111).map (fun i => (i.size, i.bytes, i.zero)) = some (1, 8, some (.nilFunc)) := by kernel_rfl
theorem tyf113 : TD.fits Tryz.prog 113 (.other) := trivial
theorem tyi113 : (Tryz.prog.info? 113).map (fun i => (i.size, i.bytes, i.zero)) = some (1, 8, some (.nilFunc)) := by kernel_rfl
theorem tyf114 : TD.fits Tryz.prog 114 (.other) := trivial
theorem tyi114 : (Tryz.prog.info? 114).map (fun i => (i.size, i.bytes, i.zero)) = some (1, 8, some (.nilFunc)) := by kernel_rfl
theorem tyf115 : TD.fits Tryz.prog 115 (.other) := trivial
theorem tyi115 : (Tryz.prog.info? 115).map (fun i => (i.size, i.bytes, i.zero)) = some (1, 8, some (.nilFunc)) := by kernel_rfl
theorem tyf116 : Tryz.prog.underlying 116 = some (.int .u64) := by kernel_rfl
theorem tyi116 : (Tryz.prog.info? 116).map (fun i => (i.size, i.bytes, i.zero)) = some (1, 8, some (.int .u64 0)) := by kernel_rfl
theorem tyf117 : Tryz.prog.underlying 117 = some (.pointer 119) := by kernel_rfl
theorem tyi117 : (Tryz.prog.info? 117).map (fun i => (i.size, i.bytes, i.zero)) = some (1, 8, some (.pointer none)) := by kernel_rfl
theorem tyf118 : structOf Tryz.prog 118 = some [(117, 0, some 1), (103, 1, some 1)] := by kernel_rfl
theorem tyi118 : (Tryz.prog.info? 118).map (fun i => (i.size, i.bytes, i.zero)) = some (2, 32, some (.agg #[.pointer none, .slice none 0 0])) := by kernel_rfl
theorem tyf119 : structOf Tryz.prog 119 = some [(117, 0, some 1), (103, 1, some 1)] := by kernel_rfl
theorem tyi119 : (Tryz.prog.info? 119).map (fun i => (i.size, i.bytes, i.zero)) = some (2, 32, some (.agg #[.pointer none, .slice none 0 0])) := by kernel_rfl
theorem tyf120 : TD.fits Tryz.prog 120 (.other) := trivial
theorem tyi120 : (Tryz.prog.info? 120).map (fun i => (i.size, i.bytes, i.zero)) = some (1, 8, some (.nilFunc)) := by kernel_rfl
theorem tyf121 : TD.fits Tryz.prog 121 (.other) := trivial
theorem tyi121 : (Tryz.prog.info? 121).map (fun i => (i.size, i.bytes, i.zero)) = some (1, 16, some (.nilIface)) := by kernel_rfl
theorem tyf122 : TD.fits Tryz.prog 122 (.other) := trivial
theorem tyi122 : (Tryz.prog.info? 122).map (fun i => (i.size, i.bytes, i.zero)) = some (1, 16, some (.nilIface)) := by kernel_rfl
theorem tyf124 : TD.fits Tryz.prog 124 (.other) := trivial
theorem tyi124 : (Tryz.prog.info? 124).map (fun i => (i.size, i.bytes, i.zero)) = some (1, 8, some (.nilFunc)) := by kernel_rfl
theorem tyf125 : TD.fits Tryz.prog 125 (.other) := trivial
theorem tyi125 : (Tryz.prog.info? 125).map (fun i => (i.size, i.bytes, i.zero)) = some (1, 8, some (.nilFunc)) := by kernel_rfl
theorem tyf126 : TD.fits Tryz.prog 126 (.other) := trivial
theorem tyi126 : (Tryz.prog.info? 126).map (fun i => (i.size, i.bytes, i.zero)) = some (1, 8, some (.nilFunc)) := by kernel_rfl
theorem tyf127 : TD.fits Tryz.prog 127 (.other) := trivial
theorem tyi127 : (Tryz.prog.info? 127).map (fun i => (i.size, i.bytes, i.zero)) = some (1, 8, some (.nilFunc)) := by kernel_rfl
theorem tyf129 : TD.fits Tryz.prog 129 (.other) := trivial
theorem tyi129 : (Tryz.prog.info? 129).map (fun i => (i.size, i.bytes, i.zero)) = some (1, 8, some (.nilFunc)) := by kernel_rfl
theorem tyf130 : TD.fits Tryz.prog 130 (.other) := trivial
theorem tyi130 : (Tryz.prog.info? 130).map (fun i => (i.size, i.bytes, i.zero)) = some (1, 8, some (.nilFunc)) := by kernel_rfl
theorem tyf131 : Tryz.prog.underlying 131 = some (.int .i64) := by kernel_rfl
theorem tyi131 : (Tryz.prog.info? 131).map (fun i => (i.size, i.bytes, i.zero)) = some (1, 8, some (.int .i64 0)) := by kernel_rfl
theorem tyf133 : TD.fits Tryz.prog 133 (.other) := trivial
theorem tyi133 : (Tryz.prog.info? 133).map (fun i => (i.size, i.bytes, i.zero)) = some (1, 8, some (.nilFunc)) := by kernel_rfl
theorem tyf134 : TD.fits Tryz.prog 134 (.other) := trivial
theorem tyi134 : (Tryz.prog.info? 134).map (fun i => (i.size, i.bytes, i.zero)) = some (1, 8, some (.nilFunc)) := by kernel_rfl
theorem tyf135 : TD.fits Tryz.prog 135 (.other) := trivial
theorem tyi135 : (Tryz.prog.info? 135).map (fun i => (i.size, i.bytes, i.zero)) = some (1, 8, some (.nilFunc)) := by kernel_rfl
theorem tyf137 : TD.fits Tryz.prog 137 (.other) := trivial
theorem tyi137 : (Tryz.prog.info? 137).map (fun i => (i.size, i.bytes, i.zero)) = some (1, 8, some (.nilFunc)) := by kernel_rfl
theorem tyf138 : TD.fits Tryz.prog 138 (.other) := trivial
theorem tyi138 : (Tryz.prog.info? 138).map (fun i => (i.size, i.bytes, i.zero)) = some (1, 8, some (.nilFunc)) := by kernel_rfl
theorem tyf139 : Tryz.prog.underlying 139 = some (.int .u32) := by kernel_rfl
theorem tyi139 : (Tryz.prog.info? 139).map (fun i => (i.size, i.bytes, i.zero)) = some (1, 4, some (.int .u32 0)) := by kernel_rfl
theorem tyf140 : TD.fits Tryz.prog 140 (.other) := trivial
theorem tyi140 : (Tryz.prog.info? 140).map (fun i => (i.size, i.bytes, i.zero)) = some (1, 8, some (.nilFunc)) := by kernel_rfl
theorem tyf141 : Tryz.prog.underlying 141 = some (.int .u64) := by kernel_rfl
theorem tyi141 : (Tryz.prog.info? 141).map (fun i => (i.size, i.bytes, i.zero)) = some (1, 8, some (.int .u64 0)) := by kernel_rfl
theorem tyf142 : Tryz.prog.underlying 142 = some (.pointer 5) := by kernel_rfl
theorem tyi142 : (Tryz.prog.info? 142).map (fun i => (i.size, i.bytes, i.zero)) = some (1, 8, some (.pointer none)) := by kernel_rfl
theorem tyf143 : TD.fits Tryz.prog 143 (.other) := trivial
theorem tyi143 : (Tryz.prog.info? 143).map (fun i => (i.size, i.bytes, i.zero)) = some (1, 8, some (.nilFunc)) := by kernel_rfl
theorem tyf144 : TD.fits Tryz.prog 144 (.other) := trivial
theorem tyi144 : (Tryz.prog.info? 144).map (fun i => (i.size, i.bytes, i.zero)) = some (1, 8, some (.nilFunc)) := by kernel_rfl
theorem tyf145 : Tryz.prog.underlying 145 = some (.int .u64) := by kernel_rfl
theorem tyi145 : (Tryz.prog.info? 145).map (fun i => (i.size, i.bytes, i.zero)) = some (1, 8, some (.int .u64 0)) := by kernel_rfl
theorem tyf146 : TD.fits Tryz.prog 146 (.other) := trivial
theorem tyi146 : (Tryz.prog.info? 146).map (fun i => (i.size, i.bytes, i.zero)) = some (1, 8, some (.nilFunc)) := by kernel_rfl
theorem tyf147 : TD.fits Tryz.prog 147 (.other) := trivial
theorem tyi147 : (Tryz.prog.info? 147).map (fun i => (i.size, i.bytes, i.zero)) = some (1, 8, some (.nilFunc)) := by kernel_rfl
theorem tyf148 : TD.fits Tryz.prog 148 (.other) := trivial
theorem tyi148 : (Tryz.prog.info? 148).map (fun i => (i.size, i.bytes, i.zero)) = some (1, 8, some (.nilFunc)) := by kernel_rfl
theorem tyf149 : Tryz.prog.underlying 149 = some (.pointer 3) := by kernel_rfl
theorem tyi149 : (Tryz.prog.info? 149).map (fun i => (i.size, i.bytes, i.zero)) = some (1, 8, some (.pointer none)) := by kernel_rfl
theorem tyf150 : TD.fits Tryz.prog 150 (.other) := trivial
theorem tyi150 : (Tryz.prog.info? 150).map (fun i => (i.size, i.bytes, i.zero)) = some (1, 8, some (.nilFunc)) := by kernel_rfl
theorem tyf152 : TD.fits Tryz.prog 152 (.other) := trivial
theorem tyi152 : (Tryz.prog.info? 152).map (fun i => (i.size, i.bytes, i.zero)) = some (1, 8, some (.nilFunc)) := by kernel_rfl
theorem tyf153 : TD.fits Tryz.prog 153 (.other) := trivial
theorem tyi153 : (Tryz.prog.info? 153).map (fun i => (i.size, i.bytes, i.zero)) = some (1, 8, some (.nilFunc)) := by kernel_rfl
theorem tyf155 : TD.fits Tryz.prog 155 (.other) := trivial
theorem tyi155 : (Tryz.prog.info? 155).map (fun i => (i.size, i.bytes, i.zero)) = some (1, 8, some (.nilFunc)) := by kernel_rfl
theorem tyf156 : Tryz.prog.underlying 156 = some (.pointer 145) := by kernel_rfl
theorem tyi156 : (Tryz.prog.info? 156).map (fun i => (i.size, i.bytes, i.zero)) = some (1, 8, some (.pointer none)) := by kernel_rfl
theorem tyf158 : TD.fits Tryz.prog 158 (.other) := trivial
theorem tyi158 : (Tryz.prog.info? 158).map (fun i => (i.size, i.bytes, i.zero)) = some (1, 8, some (.nilFunc)) := by kernel_rfl
theorem tyf164 : TD.fits Tryz.prog 164 (.other) := trivial
theorem tyi164 : (Tryz.prog.info? 164).map (fun i => (i.size, i.bytes, i.zero)) = some (1, 8, some (.nilFunc)) := by kernel_rfl
theorem tyf167 : TD.fits Tryz.prog 167 (.other) := trivial
theorem tyi167 : (Tryz.prog.info? 167).map (fun i => (i.size, i.bytes, i.zero)) = some (1, 8, some (.nilFunc)) := by kernel_rfl
theorem tyf172 : TD.fits Tryz.prog 172 (.other) := trivial
theorem tyi172 : (Tryz.prog.info? 172).map (fun i => (i.size, i.bytes, i.zero)) = some (1, 8, some (.nilFunc)) := by kernel_rfl
set_option maxRecDepth 20000 in
theorem tyOk : allOk Tryz.prog tyTab :=
  ⟨tyf1, tyi1,
  tyf2, tyi2,
  tyf3, tyi3,
  tyf4, tyi4,
  tyf5, tyi5,
  tyf9, tyi9,
  tyf12, tyi12,
  tyf13, tyi13,
  tyf20, tyi20,
  tyf21, tyi21,
  tyf22, tyi22,
  tyf23, tyi23,
  tyf24, tyi24,
  tyf25, tyi25,
  tyf26, tyi26,
  tyf27, tyi27,
  tyf28, tyi28,
  tyf29, tyi29,
  tyf31, tyi31,
  tyf32, tyi32,
  tyf33, tyi33,
  tyf34, tyi34,
  tyf35, tyi35,
  tyf36, tyi36,
  tyf37, tyi37,
  tyf38, tyi38,
  tyf39, tyi39,
  tyf40, tyi40,
  tyf41, tyi41,
  tyf42, tyi42,
  tyf43, tyi43,
  tyf44, tyi44,
  tyf45, tyi45,
  tyf46, tyi46,
  tyf47, tyi47,
  tyf48, tyi48,
  tyf50, tyi50,
  tyf51, tyi51,
  tyf52, tyi52,
  tyf53, tyi53,
  tyf54, tyi54,
  tyf55, tyi55,
  tyf56, tyi56,
  tyf58, tyi58,
  tyf59, tyi59,
  tyf60, tyi60,
  tyf62, tyi62,
  tyf63, tyi63,
  tyf64, tyi64,
  tyf65, tyi65,
  tyf66, tyi66,
  tyf67, tyi67,
  tyf68, tyi68,
  tyf69, tyi69,
  tyf70, tyi70,
  tyf71, tyi71,
  tyf72, tyi72,
  tyf74, tyi74,
  tyf75, tyi75,
  tyf76, tyi76,
  tyf77, tyi77,
  tyf78, tyi78,
  tyf79, tyi79,
  tyf80, tyi80,
  tyf81, tyi81,
  tyf82, tyi82,
  tyf83, tyi83,
  tyf85, tyi85,
  tyf86, tyi86,
  tyf87, tyi87,
  tyf88, tyi88,
  tyf89, tyi89,
  tyf90, tyi90,
  tyf91, tyi91,
  tyf92, tyi92,
  tyf93, tyi93,
  tyf94, tyi94,
  tyf96, tyi96,
  tyf97, tyi97,
  tyf98, tyi98,
  tyf99, tyi99,
  tyf100, tyi100,
  tyf101, tyi101,
  tyf102, tyi102,
  tyf103, tyi103,
  tyf104, tyi104,
  tyf106, tyi106,
  tyf107, tyi107,
  tyf108, tyi108,
  tyf109, tyi109,
  tyf110, tyi110,
  tyf111, tyi111,
  tyf113, tyi113,
  tyf114, tyi114,
  tyf115, tyi115,
  tyf116, tyi116,
  tyf117, tyi117,
  tyf118, tyi118,
  tyf119, tyi119,
  tyf120, tyi120,
  tyf121, tyi121,
  tyf122, tyi122,
  tyf124, tyi124,
  tyf125, tyi125,
  tyf126, tyi126,
  tyf127, tyi127,
  tyf129, tyi129,
  tyf130, tyi130,
  tyf131, tyi131,
  tyf133, tyi133,
  tyf134, tyi134,
  tyf135, tyi135,
  tyf137, tyi137,
  tyf138, tyi138,
  tyf139, tyi139,
  tyf140, tyi140,
  tyf141, tyi141,
  tyf142, tyi142,
  tyf143, tyi143,
  tyf144, tyi144,
  tyf145, tyi145,
  tyf146, tyi146,
  tyf147, tyi147,
  tyf148, tyi148,
  tyf149, tyi149,
  tyf150, tyi150,
  tyf152, tyi152,
  tyf153, tyi153,
  tyf155, tyi155,
  tyf156, tyi156,
  tyf158, tyi158,
  tyf164, tyi164,
  tyf167, tyi167,
  tyf172, tyi172, trivial⟩
/-- A type's row, by looking. -/
theorem tyy {t : Nat} {d : TD} {sz by_ : Nat} {z : Value} (h : tlook tyTab t = some ⟨d, sz, by_, z⟩) : Ty Tryz.prog t d sz by_ z := tlook_ok tyOk h
def slB (t : Nat) : Bool := match tlook tyTab t with
  | some ⟨.slice _, _, _, _⟩ => true
  | _ => false
theorem mixedOk : Tryz.prog.follows .mixedOrders = true := by kernel_rfl
end Go.Proofs.YtieibicgankemaaGreat
