/- The table of types of this seat's program, printed by tyenv.py. -/
import Derived.Test.YtieibicgankemaaLtC
import Derived.Test.YtieibicgankemaaProg
import Derived.KernelRfl
namespace Go.Proofs.Ytieibicgankemaa

set_option linter.all false
def tyTab : List (Nat × TRow) := [(1, ⟨.other, 1, 8, .nilFunc⟩),
  (2, ⟨.int .i64, 1, 8, .int .i64 0⟩),
  (3, ⟨.int .i64, 1, 8, .int .i64 0⟩),
  (4, ⟨.bool, 1, 1, .bool false⟩),
  (5, ⟨.int .u8, 1, 1, .int .u8 0⟩),
  (9, ⟨.str, 1, 16, .string ⟨#[]⟩⟩),
  (12, ⟨.int .u64, 1, 8, .int .u64 0⟩),
  (13, ⟨.struct [(9, 0, 1), (12, 1, 1)], 2, 24, .agg #[.string ⟨#[]⟩, .int .u64 0]⟩),
  (20, ⟨.other, 1, 16, .nilIface⟩),
  (21, ⟨.int .i32, 1, 4, .int .i32 0⟩),
  (22, ⟨.slice 83, 1, 24, .slice none 0 0⟩),
  (23, ⟨.slice 83, 1, 24, .slice none 0 0⟩),
  (24, ⟨.slice 43, 1, 24, .slice none 0 0⟩),
  (25, ⟨.struct [(23, 0, 1), (23, 1, 1), (23, 2, 1), (24, 3, 1), (9, 4, 1), (3, 5, 1)], 6, 120, .agg #[.slice none 0 0, .slice none 0 0, .slice none 0 0, .slice none 0 0, .string ⟨#[]⟩, .int .i64 0]⟩),
  (26, ⟨.struct [(23, 0, 1), (23, 1, 1), (23, 2, 1), (24, 3, 1), (9, 4, 1), (3, 5, 1)], 6, 120, .agg #[.slice none 0 0, .slice none 0 0, .slice none 0 0, .slice none 0 0, .string ⟨#[]⟩, .int .i64 0]⟩),
  (27, ⟨.other, 1, 8, .nilFunc⟩),
  (28, ⟨.ptr 60, 1, 8, .pointer none⟩),
  (29, ⟨.int .i64, 1, 8, .int .i64 0⟩),
  (31, ⟨.other, 1, 8, .nilFunc⟩),
  (32, ⟨.slice 64, 1, 24, .slice none 0 0⟩),
  (33, ⟨.slice 71, 1, 24, .slice none 0 0⟩),
  (34, ⟨.struct [(32, 0, 1), (33, 1, 1)], 2, 48, .agg #[.slice none 0 0, .slice none 0 0]⟩),
  (35, ⟨.struct [(32, 0, 1), (33, 1, 1)], 2, 48, .agg #[.slice none 0 0, .slice none 0 0]⟩),
  (36, ⟨.other, 1, 8, .nilFunc⟩),
  (37, ⟨.other, 1, 8, .nilFunc⟩),
  (38, ⟨.other, 1, 8, .nilFunc⟩),
  (39, ⟨.other, 1, 8, .nilFunc⟩),
  (40, ⟨.other, 1, 8, .nilFunc⟩),
  (41, ⟨.int .u64, 1, 8, .int .u64 0⟩),
  (42, ⟨.struct [(3, 0, 1), (9, 1, 1), (9, 2, 1), (9, 3, 1), (3, 4, 1), (4, 5, 1)], 6, 72, .agg #[.int .i64 0, .string ⟨#[]⟩, .string ⟨#[]⟩, .string ⟨#[]⟩, .int .i64 0, .bool false]⟩),
  (43, ⟨.struct [(3, 0, 1), (9, 1, 1), (9, 2, 1), (9, 3, 1), (3, 4, 1), (4, 5, 1)], 6, 72, .agg #[.int .i64 0, .string ⟨#[]⟩, .string ⟨#[]⟩, .string ⟨#[]⟩, .int .i64 0, .bool false]⟩),
  (44, ⟨.other, 1, 8, .nilFunc⟩),
  (45, ⟨.other, 1, 8, .nilFunc⟩),
  (46, ⟨.other, 1, 8, .nilFunc⟩),
  (47, ⟨.slice 51, 1, 24, .slice none 0 0⟩),
  (48, ⟨.other, 1, 8, .nilFunc⟩),
  (49, ⟨.slice 9, 1, 24, .slice none 0 0⟩),
  (50, ⟨.struct [(9, 0, 1), (49, 1, 1)], 2, 40, .agg #[.string ⟨#[]⟩, .slice none 0 0]⟩),
  (51, ⟨.struct [(9, 0, 1), (49, 1, 1)], 2, 40, .agg #[.string ⟨#[]⟩, .slice none 0 0]⟩),
  (52, ⟨.other, 1, 8, .nilFunc⟩),
  (53, ⟨.struct [(3, 0, 1), (23, 1, 1), (23, 2, 1), (47, 3, 1)], 4, 80, .agg #[.int .i64 0, .slice none 0 0, .slice none 0 0, .slice none 0 0]⟩),
  (54, ⟨.struct [(3, 0, 1), (23, 1, 1), (23, 2, 1), (47, 3, 1)], 4, 80, .agg #[.int .i64 0, .slice none 0 0, .slice none 0 0, .slice none 0 0]⟩),
  (56, ⟨.other, 1, 8, .nilFunc⟩),
  (57, ⟨.other, 1, 8, .nilFunc⟩),
  (58, ⟨.slice 68, 1, 24, .slice none 0 0⟩),
  (59, ⟨.struct [(23, 0, 1), (58, 1, 1)], 2, 48, .agg #[.slice none 0 0, .slice none 0 0]⟩),
  (60, ⟨.struct [(23, 0, 1), (58, 1, 1)], 2, 48, .agg #[.slice none 0 0, .slice none 0 0]⟩),
  (62, ⟨.other, 1, 8, .nilFunc⟩),
  (63, ⟨.struct [(9, 0, 1), (3, 1, 1), (4, 2, 1), (4, 3, 1)], 4, 32, .agg #[.string ⟨#[]⟩, .int .i64 0, .bool false, .bool false]⟩),
  (64, ⟨.struct [(9, 0, 1), (3, 1, 1), (4, 2, 1), (4, 3, 1)], 4, 32, .agg #[.string ⟨#[]⟩, .int .i64 0, .bool false, .bool false]⟩),
  (66, ⟨.other, 1, 8, .nilFunc⟩),
  (67, ⟨.struct [(43, 0, 6), (23, 6, 1), (23, 7, 1)], 8, 120, .agg #[.int .i64 0, .string ⟨#[]⟩, .string ⟨#[]⟩, .string ⟨#[]⟩, .int .i64 0, .bool false, .slice none 0 0, .slice none 0 0]⟩),
  (68, ⟨.struct [(43, 0, 6), (23, 6, 1), (23, 7, 1)], 8, 120, .agg #[.int .i64 0, .string ⟨#[]⟩, .string ⟨#[]⟩, .string ⟨#[]⟩, .int .i64 0, .bool false, .slice none 0 0, .slice none 0 0]⟩),
  (69, ⟨.other, 1, 8, .nilFunc⟩),
  (70, ⟨.struct [(9, 0, 1), (9, 1, 1), (3, 2, 1), (49, 3, 1), (49, 4, 1)], 5, 88, .agg #[.string ⟨#[]⟩, .string ⟨#[]⟩, .int .i64 0, .slice none 0 0, .slice none 0 0]⟩),
  (71, ⟨.struct [(9, 0, 1), (9, 1, 1), (3, 2, 1), (49, 3, 1), (49, 4, 1)], 5, 88, .agg #[.string ⟨#[]⟩, .string ⟨#[]⟩, .int .i64 0, .slice none 0 0, .slice none 0 0]⟩),
  (73, ⟨.other, 1, 8, .nilFunc⟩),
  (75, ⟨.other, 1, 8, .nilFunc⟩),
  (76, ⟨.other, 1, 8, .nilFunc⟩),
  (77, ⟨.other, 1, 8, .nilFunc⟩),
  (78, ⟨.other, 1, 8, .nilFunc⟩),
  (79, ⟨.other, 1, 8, .nilFunc⟩),
  (80, ⟨.struct [(9, 0, 1), (9, 1, 1)], 2, 32, .agg #[.string ⟨#[]⟩, .string ⟨#[]⟩]⟩),
  (81, ⟨.struct [(9, 0, 1), (9, 1, 1)], 2, 32, .agg #[.string ⟨#[]⟩, .string ⟨#[]⟩]⟩),
  (82, ⟨.slice 81, 1, 24, .slice none 0 0⟩),
  (83, ⟨.slice 81, 1, 24, .slice none 0 0⟩),
  (84, ⟨.slice 23, 1, 24, .slice none 0 0⟩),
  (85, ⟨.other, 1, 8, .nilFunc⟩),
  (86, ⟨.other, 1, 8, .nilFunc⟩),
  (87, ⟨.other, 1, 8, .nilFunc⟩),
  (88, ⟨.other, 1, 8, .nilFunc⟩),
  (90, ⟨.other, 1, 8, .nilFunc⟩),
  (91, ⟨.other, 1, 8, .nilFunc⟩),
  (92, ⟨.other, 1, 8, .nilFunc⟩),
  (93, ⟨.other, 1, 8, .nilFunc⟩),
  (94, ⟨.struct [(35, 0, 2)], 2, 48, .agg #[.slice none 0 0, .slice none 0 0]⟩),
  (95, ⟨.struct [(35, 0, 2)], 2, 48, .agg #[.slice none 0 0, .slice none 0 0]⟩),
  (96, ⟨.other, 1, 8, .nilFunc⟩),
  (97, ⟨.other, 1, 8, .nilFunc⟩),
  (99, ⟨.other, 1, 8, .nilFunc⟩),
  (100, ⟨.slice 5, 1, 24, .slice none 0 0⟩),
  (101, ⟨.other, 1, 8, .nilFunc⟩),
  (102, ⟨.other, 1, 8, .nilFunc⟩),
  (103, ⟨.other, 1, 8, .nilFunc⟩),
  (104, ⟨.other, 1, 8, .nilFunc⟩),
  (105, ⟨.other, 1, 8, .nilFunc⟩),
  (106, ⟨.other, 1, 8, .nilFunc⟩),
  (107, ⟨.other, 1, 8, .nilFunc⟩),
  (109, ⟨.other, 1, 8, .nilFunc⟩),
  (110, ⟨.other, 1, 8, .nilFunc⟩),
  (111, ⟨.other, 1, 8, .nilFunc⟩),
  (112, ⟨.other, 1, 8, .nilFunc⟩),
  (113, ⟨.other, 1, 8, .nilFunc⟩),
  (114, ⟨.other, 1, 8, .nilFunc⟩),
  (115, ⟨.other, 1, 8, .nilFunc⟩),
  (116, ⟨.other, 1, 8, .nilFunc⟩),
  (117, ⟨.ptr 119, 1, 8, .pointer none⟩),
  (118, ⟨.struct [(117, 0, 1), (100, 1, 1)], 2, 32, .agg #[.pointer none, .slice none 0 0]⟩),
  (119, ⟨.struct [(117, 0, 1), (100, 1, 1)], 2, 32, .agg #[.pointer none, .slice none 0 0]⟩),
  (120, ⟨.other, 1, 8, .nilFunc⟩),
  (121, ⟨.other, 1, 16, .nilIface⟩),
  (122, ⟨.other, 1, 16, .nilIface⟩),
  (124, ⟨.other, 1, 8, .nilFunc⟩),
  (125, ⟨.other, 1, 8, .nilFunc⟩),
  (126, ⟨.other, 1, 8, .nilFunc⟩),
  (127, ⟨.other, 1, 8, .nilFunc⟩),
  (129, ⟨.other, 1, 8, .nilFunc⟩),
  (130, ⟨.other, 1, 8, .nilFunc⟩),
  (131, ⟨.other, 1, 8, .nilFunc⟩),
  (132, ⟨.int .i64, 1, 8, .int .i64 0⟩),
  (134, ⟨.other, 1, 8, .nilFunc⟩),
  (135, ⟨.other, 1, 8, .nilFunc⟩),
  (136, ⟨.other, 1, 8, .nilFunc⟩),
  (138, ⟨.other, 1, 8, .nilFunc⟩),
  (139, ⟨.other, 1, 8, .nilFunc⟩),
  (140, ⟨.int .u32, 1, 4, .int .u32 0⟩),
  (141, ⟨.other, 1, 8, .nilFunc⟩),
  (142, ⟨.int .u64, 1, 8, .int .u64 0⟩),
  (143, ⟨.ptr 5, 1, 8, .pointer none⟩),
  (144, ⟨.other, 1, 8, .nilFunc⟩),
  (145, ⟨.int .u64, 1, 8, .int .u64 0⟩),
  (146, ⟨.other, 1, 8, .nilFunc⟩),
  (147, ⟨.other, 1, 8, .nilFunc⟩),
  (148, ⟨.other, 1, 8, .nilFunc⟩),
  (149, ⟨.ptr 3, 1, 8, .pointer none⟩),
  (150, ⟨.other, 1, 8, .nilFunc⟩),
  (152, ⟨.other, 1, 8, .nilFunc⟩),
  (153, ⟨.other, 1, 8, .nilFunc⟩),
  (155, ⟨.other, 1, 8, .nilFunc⟩),
  (156, ⟨.ptr 145, 1, 8, .pointer none⟩),
  (158, ⟨.other, 1, 8, .nilFunc⟩),
  (164, ⟨.other, 1, 8, .nilFunc⟩),
  (167, ⟨.other, 1, 8, .nilFunc⟩),
  (172, ⟨.other, 1, 8, .nilFunc⟩)]
theorem tyf1 : TD.fits Try.prog 1 (.other) := trivial
theorem tyi1 : (Try.prog.info? 1).map (fun i => (i.size, i.bytes, i.zero)) = some (1, 8, some (.nilFunc)) := by kernel_rfl
theorem tyf2 : Try.prog.underlying 2 = some (.int .i64) := by kernel_rfl
theorem tyi2 : (Try.prog.info? 2).map (fun i => (i.size, i.bytes, i.zero)) = some (1, 8, some (.int .i64 0)) := by kernel_rfl
theorem tyf3 : Try.prog.underlying 3 = some (.int .i64) := by kernel_rfl
theorem tyi3 : (Try.prog.info? 3).map (fun i => (i.size, i.bytes, i.zero)) = some (1, 8, some (.int .i64 0)) := by kernel_rfl
theorem tyf4 : Try.prog.underlying 4 = some .bool := by kernel_rfl
theorem tyi4 : (Try.prog.info? 4).map (fun i => (i.size, i.bytes, i.zero)) = some (1, 1, some (.bool false)) := by kernel_rfl
theorem tyf5 : Try.prog.underlying 5 = some (.int .u8) := by kernel_rfl
theorem tyi5 : (Try.prog.info? 5).map (fun i => (i.size, i.bytes, i.zero)) = some (1, 1, some (.int .u8 0)) := by kernel_rfl
theorem tyf9 : Try.prog.underlying 9 = some .string := by kernel_rfl
theorem tyi9 : (Try.prog.info? 9).map (fun i => (i.size, i.bytes, i.zero)) = some (1, 16, some (.string ⟨#[]⟩)) := by kernel_rfl
theorem tyf12 : Try.prog.underlying 12 = some (.int .u64) := by kernel_rfl
theorem tyi12 : (Try.prog.info? 12).map (fun i => (i.size, i.bytes, i.zero)) = some (1, 8, some (.int .u64 0)) := by kernel_rfl
theorem tyf13 : structOf Try.prog 13 = some [(9, 0, some 1), (12, 1, some 1)] := by kernel_rfl
theorem tyi13 : (Try.prog.info? 13).map (fun i => (i.size, i.bytes, i.zero)) = some (2, 24, some (.agg #[.string ⟨#[]⟩, .int .u64 0])) := by kernel_rfl
theorem tyf20 : TD.fits Try.prog 20 (.other) := trivial
theorem tyi20 : (Try.prog.info? 20).map (fun i => (i.size, i.bytes, i.zero)) = some (1, 16, some (.nilIface)) := by kernel_rfl
theorem tyf21 : Try.prog.underlying 21 = some (.int .i32) := by kernel_rfl
theorem tyi21 : (Try.prog.info? 21).map (fun i => (i.size, i.bytes, i.zero)) = some (1, 4, some (.int .i32 0)) := by kernel_rfl
theorem tyf22 : Try.prog.underlying 22 = some (.slice 83) := by kernel_rfl
theorem tyi22 : (Try.prog.info? 22).map (fun i => (i.size, i.bytes, i.zero)) = some (1, 24, some (.slice none 0 0)) := by kernel_rfl
theorem tyf23 : Try.prog.underlying 23 = some (.slice 83) := by kernel_rfl
theorem tyi23 : (Try.prog.info? 23).map (fun i => (i.size, i.bytes, i.zero)) = some (1, 24, some (.slice none 0 0)) := by kernel_rfl
theorem tyf24 : Try.prog.underlying 24 = some (.slice 43) := by kernel_rfl
theorem tyi24 : (Try.prog.info? 24).map (fun i => (i.size, i.bytes, i.zero)) = some (1, 24, some (.slice none 0 0)) := by kernel_rfl
theorem tyf25 : structOf Try.prog 25 = some [(23, 0, some 1), (23, 1, some 1), (23, 2, some 1), (24, 3, some 1), (9, 4, some 1), (3, 5, some 1)] := by kernel_rfl
theorem tyi25 : (Try.prog.info? 25).map (fun i => (i.size, i.bytes, i.zero)) = some (6, 120, some (.agg #[.slice none 0 0, .slice none 0 0, .slice none 0 0, .slice none 0 0, .string ⟨#[]⟩, .int .i64 0])) := by kernel_rfl
theorem tyf26 : structOf Try.prog 26 = some [(23, 0, some 1), (23, 1, some 1), (23, 2, some 1), (24, 3, some 1), (9, 4, some 1), (3, 5, some 1)] := by kernel_rfl
theorem tyi26 : (Try.prog.info? 26).map (fun i => (i.size, i.bytes, i.zero)) = some (6, 120, some (.agg #[.slice none 0 0, .slice none 0 0, .slice none 0 0, .slice none 0 0, .string ⟨#[]⟩, .int .i64 0])) := by kernel_rfl
theorem tyf27 : TD.fits Try.prog 27 (.other) := trivial
theorem tyi27 : (Try.prog.info? 27).map (fun i => (i.size, i.bytes, i.zero)) = some (1, 8, some (.nilFunc)) := by kernel_rfl
theorem tyf28 : Try.prog.underlying 28 = some (.pointer 60) := by kernel_rfl
theorem tyi28 : (Try.prog.info? 28).map (fun i => (i.size, i.bytes, i.zero)) = some (1, 8, some (.pointer none)) := by kernel_rfl
theorem tyf29 : Try.prog.underlying 29 = some (.int .i64) := by kernel_rfl
theorem tyi29 : (Try.prog.info? 29).map (fun i => (i.size, i.bytes, i.zero)) = some (1, 8, some (.int .i64 0)) := by kernel_rfl
theorem tyf31 : TD.fits Try.prog 31 (.other) := trivial
theorem tyi31 : (Try.prog.info? 31).map (fun i => (i.size, i.bytes, i.zero)) = some (1, 8, some (.nilFunc)) := by kernel_rfl
theorem tyf32 : Try.prog.underlying 32 = some (.slice 64) := by kernel_rfl
theorem tyi32 : (Try.prog.info? 32).map (fun i => (i.size, i.bytes, i.zero)) = some (1, 24, some (.slice none 0 0)) := by kernel_rfl
theorem tyf33 : Try.prog.underlying 33 = some (.slice 71) := by kernel_rfl
theorem tyi33 : (Try.prog.info? 33).map (fun i => (i.size, i.bytes, i.zero)) = some (1, 24, some (.slice none 0 0)) := by kernel_rfl
theorem tyf34 : structOf Try.prog 34 = some [(32, 0, some 1), (33, 1, some 1)] := by kernel_rfl
theorem tyi34 : (Try.prog.info? 34).map (fun i => (i.size, i.bytes, i.zero)) = some (2, 48, some (.agg #[.slice none 0 0, .slice none 0 0])) := by kernel_rfl
theorem tyf35 : structOf Try.prog 35 = some [(32, 0, some 1), (33, 1, some 1)] := by kernel_rfl
theorem tyi35 : (Try.prog.info? 35).map (fun i => (i.size, i.bytes, i.zero)) = some (2, 48, some (.agg #[.slice none 0 0, .slice none 0 0])) := by kernel_rfl
theorem tyf36 : TD.fits Try.prog 36 (.other) := trivial
theorem tyi36 : (Try.prog.info? 36).map (fun i => (i.size, i.bytes, i.zero)) = some (1, 8, some (.nilFunc)) := by kernel_rfl
theorem tyf37 : TD.fits Try.prog 37 (.other) := trivial
theorem tyi37 : (Try.prog.info? 37).map (fun i => (i.size, i.bytes, i.zero)) = some (1, 8, some (.nilFunc)) := by kernel_rfl
theorem tyf38 : TD.fits Try.prog 38 (.other) := trivial
theorem tyi38 : (Try.prog.info? 38).map (fun i => (i.size, i.bytes, i.zero)) = some (1, 8, some (.nilFunc)) := by kernel_rfl
theorem tyf39 : TD.fits Try.prog 39 (.other) := trivial
theorem tyi39 : (Try.prog.info? 39).map (fun i => (i.size, i.bytes, i.zero)) = some (1, 8, some (.nilFunc)) := by kernel_rfl
theorem tyf40 : TD.fits Try.prog 40 (.other) := trivial
theorem tyi40 : (Try.prog.info? 40).map (fun i => (i.size, i.bytes, i.zero)) = some (1, 8, some (.nilFunc)) := by kernel_rfl
theorem tyf41 : Try.prog.underlying 41 = some (.int .u64) := by kernel_rfl
theorem tyi41 : (Try.prog.info? 41).map (fun i => (i.size, i.bytes, i.zero)) = some (1, 8, some (.int .u64 0)) := by kernel_rfl
theorem tyf42 : structOf Try.prog 42 = some [(3, 0, some 1), (9, 1, some 1), (9, 2, some 1), (9, 3, some 1), (3, 4, some 1), (4, 5, some 1)] := by kernel_rfl
theorem tyi42 : (Try.prog.info? 42).map (fun i => (i.size, i.bytes, i.zero)) = some (6, 72, some (.agg #[.int .i64 0, .string ⟨#[]⟩, .string ⟨#[]⟩, .string ⟨#[]⟩, .int .i64 0, .bool false])) := by kernel_rfl
theorem tyf43 : structOf Try.prog 43 = some [(3, 0, some 1), (9, 1, some 1), (9, 2, some 1), (9, 3, some 1), (3, 4, some 1), (4, 5, some 1)] := by kernel_rfl
theorem tyi43 : (Try.prog.info? 43).map (fun i => (i.size, i.bytes, i.zero)) = some (6, 72, some (.agg #[.int .i64 0, .string ⟨#[]⟩, .string ⟨#[]⟩, .string ⟨#[]⟩, .int .i64 0, .bool false])) := by kernel_rfl
theorem tyf44 : TD.fits Try.prog 44 (.other) := trivial
theorem tyi44 : (Try.prog.info? 44).map (fun i => (i.size, i.bytes, i.zero)) = some (1, 8, some (.nilFunc)) := by kernel_rfl
theorem tyf45 : TD.fits Try.prog 45 (.other) := trivial
theorem tyi45 : (Try.prog.info? 45).map (fun i => (i.size, i.bytes, i.zero)) = some (1, 8, some (.nilFunc)) := by kernel_rfl
theorem tyf46 : TD.fits Try.prog 46 (.other) := trivial
theorem tyi46 : (Try.prog.info? 46).map (fun i => (i.size, i.bytes, i.zero)) = some (1, 8, some (.nilFunc)) := by kernel_rfl
theorem tyf47 : Try.prog.underlying 47 = some (.slice 51) := by kernel_rfl
theorem tyi47 : (Try.prog.info? 47).map (fun i => (i.size, i.bytes, i.zero)) = some (1, 24, some (.slice none 0 0)) := by kernel_rfl
theorem tyf48 : TD.fits Try.prog 48 (.other) := trivial
theorem tyi48 : (Try.prog.info? 48).map (fun i => (i.size, i.bytes, i.zero)) = some (1, 8, some (.nilFunc)) := by kernel_rfl
theorem tyf49 : Try.prog.underlying 49 = some (.slice 9) := by kernel_rfl
theorem tyi49 : (Try.prog.info? 49).map (fun i => (i.size, i.bytes, i.zero)) = some (1, 24, some (.slice none 0 0)) := by kernel_rfl
theorem tyf50 : structOf Try.prog 50 = some [(9, 0, some 1), (49, 1, some 1)] := by kernel_rfl
theorem tyi50 : (Try.prog.info? 50).map (fun i => (i.size, i.bytes, i.zero)) = some (2, 40, some (.agg #[.string ⟨#[]⟩, .slice none 0 0])) := by kernel_rfl
theorem tyf51 : structOf Try.prog 51 = some [(9, 0, some 1), (49, 1, some 1)] := by kernel_rfl
theorem tyi51 : (Try.prog.info? 51).map (fun i => (i.size, i.bytes, i.zero)) = some (2, 40, some (.agg #[.string ⟨#[]⟩, .slice none 0 0])) := by kernel_rfl
theorem tyf52 : TD.fits Try.prog 52 (.other) := trivial
theorem tyi52 : (Try.prog.info? 52).map (fun i => (i.size, i.bytes, i.zero)) = some (1, 8, some (.nilFunc)) := by kernel_rfl
theorem tyf53 : structOf Try.prog 53 = some [(3, 0, some 1), (23, 1, some 1), (23, 2, some 1), (47, 3, some 1)] := by kernel_rfl
theorem tyi53 : (Try.prog.info? 53).map (fun i => (i.size, i.bytes, i.zero)) = some (4, 80, some (.agg #[.int .i64 0, .slice none 0 0, .slice none 0 0, .slice none 0 0])) := by kernel_rfl
theorem tyf54 : structOf Try.prog 54 = some [(3, 0, some 1), (23, 1, some 1), (23, 2, some 1), (47, 3, some 1)] := by kernel_rfl
theorem tyi54 : (Try.prog.info? 54).map (fun i => (i.size, i.bytes, i.zero)) = some (4, 80, some (.agg #[.int .i64 0, .slice none 0 0, .slice none 0 0, .slice none 0 0])) := by kernel_rfl
theorem tyf56 : TD.fits Try.prog 56 (.other) := trivial
theorem tyi56 : (Try.prog.info? 56).map (fun i => (i.size, i.bytes, i.zero)) = some (1, 8, some (.nilFunc)) := by kernel_rfl
theorem tyf57 : TD.fits Try.prog 57 (.other) := trivial
theorem tyi57 : (Try.prog.info? 57).map (fun i => (i.size, i.bytes, i.zero)) = some (1, 8, some (.nilFunc)) := by kernel_rfl
theorem tyf58 : Try.prog.underlying 58 = some (.slice 68) := by kernel_rfl
theorem tyi58 : (Try.prog.info? 58).map (fun i => (i.size, i.bytes, i.zero)) = some (1, 24, some (.slice none 0 0)) := by kernel_rfl
theorem tyf59 : structOf Try.prog 59 = some [(23, 0, some 1), (58, 1, some 1)] := by kernel_rfl
theorem tyi59 : (Try.prog.info? 59).map (fun i => (i.size, i.bytes, i.zero)) = some (2, 48, some (.agg #[.slice none 0 0, .slice none 0 0])) := by kernel_rfl
theorem tyf60 : structOf Try.prog 60 = some [(23, 0, some 1), (58, 1, some 1)] := by kernel_rfl
theorem tyi60 : (Try.prog.info? 60).map (fun i => (i.size, i.bytes, i.zero)) = some (2, 48, some (.agg #[.slice none 0 0, .slice none 0 0])) := by kernel_rfl
theorem tyf62 : TD.fits Try.prog 62 (.other) := trivial
theorem tyi62 : (Try.prog.info? 62).map (fun i => (i.size, i.bytes, i.zero)) = some (1, 8, some (.nilFunc)) := by kernel_rfl
theorem tyf63 : structOf Try.prog 63 = some [(9, 0, some 1), (3, 1, some 1), (4, 2, some 1), (4, 3, some 1)] := by kernel_rfl
theorem tyi63 : (Try.prog.info? 63).map (fun i => (i.size, i.bytes, i.zero)) = some (4, 32, some (.agg #[.string ⟨#[]⟩, .int .i64 0, .bool false, .bool false])) := by kernel_rfl
theorem tyf64 : structOf Try.prog 64 = some [(9, 0, some 1), (3, 1, some 1), (4, 2, some 1), (4, 3, some 1)] := by kernel_rfl
theorem tyi64 : (Try.prog.info? 64).map (fun i => (i.size, i.bytes, i.zero)) = some (4, 32, some (.agg #[.string ⟨#[]⟩, .int .i64 0, .bool false, .bool false])) := by kernel_rfl
theorem tyf66 : TD.fits Try.prog 66 (.other) := trivial
theorem tyi66 : (Try.prog.info? 66).map (fun i => (i.size, i.bytes, i.zero)) = some (1, 8, some (.nilFunc)) := by kernel_rfl
theorem tyf67 : structOf Try.prog 67 = some [(43, 0, some 6), (23, 6, some 1), (23, 7, some 1)] := by kernel_rfl
theorem tyi67 : (Try.prog.info? 67).map (fun i => (i.size, i.bytes, i.zero)) = some (8, 120, some (.agg #[.int .i64 0, .string ⟨#[]⟩, .string ⟨#[]⟩, .string ⟨#[]⟩, .int .i64 0, .bool false, .slice none 0 0, .slice none 0 0])) := by kernel_rfl
theorem tyf68 : structOf Try.prog 68 = some [(43, 0, some 6), (23, 6, some 1), (23, 7, some 1)] := by kernel_rfl
theorem tyi68 : (Try.prog.info? 68).map (fun i => (i.size, i.bytes, i.zero)) = some (8, 120, some (.agg #[.int .i64 0, .string ⟨#[]⟩, .string ⟨#[]⟩, .string ⟨#[]⟩, .int .i64 0, .bool false, .slice none 0 0, .slice none 0 0])) := by kernel_rfl
theorem tyf69 : TD.fits Try.prog 69 (.other) := trivial
theorem tyi69 : (Try.prog.info? 69).map (fun i => (i.size, i.bytes, i.zero)) = some (1, 8, some (.nilFunc)) := by kernel_rfl
theorem tyf70 : structOf Try.prog 70 = some [(9, 0, some 1), (9, 1, some 1), (3, 2, some 1), (49, 3, some 1), (49, 4, some 1)] := by kernel_rfl
theorem tyi70 : (Try.prog.info? 70).map (fun i => (i.size, i.bytes, i.zero)) = some (5, 88, some (.agg #[.string ⟨#[]⟩, .string ⟨#[]⟩, .int .i64 0, .slice none 0 0, .slice none 0 0])) := by kernel_rfl
theorem tyf71 : structOf Try.prog 71 = some [(9, 0, some 1), (9, 1, some 1), (3, 2, some 1), (49, 3, some 1), (49, 4, some 1)] := by kernel_rfl
theorem tyi71 : (Try.prog.info? 71).map (fun i => (i.size, i.bytes, i.zero)) = some (5, 88, some (.agg #[.string ⟨#[]⟩, .string ⟨#[]⟩, .int .i64 0, .slice none 0 0, .slice none 0 0])) := by kernel_rfl
theorem tyf73 : TD.fits Try.prog 73 (.other) := trivial
theorem tyi73 : (Try.prog.info? 73).map (fun i => (i.size, i.bytes, i.zero)) = some (1, 8, some (.nilFunc)) := by kernel_rfl
theorem tyf75 : TD.fits Try.prog 75 (.other) := trivial
theorem tyi75 : (Try.prog.info? 75).map (fun i => (i.size, i.bytes, i.zero)) = some (1, 8, some (.nilFunc)) := by kernel_rfl
theorem tyf76 : TD.fits Try.prog 76 (.other) := trivial
theorem tyi76 : (Try.prog.info? 76).map (fun i => (i.size, i.bytes, i.zero)) = some (1, 8, some (.nilFunc)) := by kernel_rfl
theorem tyf77 : TD.fits Try.prog 77 (.other) := trivial
theorem tyi77 : (Try.prog.info? 77).map (fun i => (i.size, i.bytes, i.zero)) = some (1, 8, some (.nilFunc)) := by kernel_rfl
theorem tyf78 : TD.fits Try.prog 78 (.other) := trivial
theorem tyi78 : (Try.prog.info? 78).map (fun i => (i.size, i.bytes, i.zero)) = some (1, 8, some (.nilFunc)) := by kernel_rfl
theorem tyf79 : TD.fits Try.prog 79 (.other) := trivial
theorem tyi79 : (Try.prog.info? 79).map (fun i => (i.size, i.bytes, i.zero)) = some (1, 8, some (.nilFunc)) := by kernel_rfl
theorem tyf80 : structOf Try.prog 80 = some [(9, 0, some 1), (9, 1, some 1)] := by kernel_rfl
theorem tyi80 : (Try.prog.info? 80).map (fun i => (i.size, i.bytes, i.zero)) = some (2, 32, some (.agg #[.string ⟨#[]⟩, .string ⟨#[]⟩])) := by kernel_rfl
theorem tyf81 : structOf Try.prog 81 = some [(9, 0, some 1), (9, 1, some 1)] := by kernel_rfl
theorem tyi81 : (Try.prog.info? 81).map (fun i => (i.size, i.bytes, i.zero)) = some (2, 32, some (.agg #[.string ⟨#[]⟩, .string ⟨#[]⟩])) := by kernel_rfl
theorem tyf82 : Try.prog.underlying 82 = some (.slice 81) := by kernel_rfl
theorem tyi82 : (Try.prog.info? 82).map (fun i => (i.size, i.bytes, i.zero)) = some (1, 24, some (.slice none 0 0)) := by kernel_rfl
theorem tyf83 : Try.prog.underlying 83 = some (.slice 81) := by kernel_rfl
theorem tyi83 : (Try.prog.info? 83).map (fun i => (i.size, i.bytes, i.zero)) = some (1, 24, some (.slice none 0 0)) := by kernel_rfl
theorem tyf84 : Try.prog.underlying 84 = some (.slice 23) := by kernel_rfl
theorem tyi84 : (Try.prog.info? 84).map (fun i => (i.size, i.bytes, i.zero)) = some (1, 24, some (.slice none 0 0)) := by kernel_rfl
theorem tyf85 : TD.fits Try.prog 85 (.other) := trivial
theorem tyi85 : (Try.prog.info? 85).map (fun i => (i.size, i.bytes, i.zero)) = some (1, 8, some (.nilFunc)) := by kernel_rfl
theorem tyf86 : TD.fits Try.prog 86 (.other) := trivial
theorem tyi86 : (Try.prog.info? 86).map (fun i => (i.size, i.bytes, i.zero)) = some (1, 8, some (.nilFunc)) := by kernel_rfl
theorem tyf87 : TD.fits Try.prog 87 (.other) := trivial
theorem tyi87 : (Try.prog.info? 87).map (fun i => (i.size, i.bytes, i.zero)) = some (1, 8, some (.nilFunc)) := by kernel_rfl
theorem tyf88 : TD.fits Try.prog 88 (.other) := trivial
theorem tyi88 : (Try.prog.info? 88).map (fun i => (i.size, i.bytes, i.zero)) = some (1, 8, some (.nilFunc)) := by kernel_rfl
theorem tyf90 : TD.fits Try.prog 90 (.other) := trivial
theorem tyi90 : (Try.prog.info? 90).map (fun i => (i.size, i.bytes, i.zero)) = some (1, 8, some (.nilFunc)) := by kernel_rfl
theorem tyf91 : TD.fits Try.prog 91 (.other) := trivial
theorem tyi91 : (Try.prog.info? 91).map (fun i => (i.size, i.bytes, i.zero)) = some (1, 8, some (.nilFunc)) := by kernel_rfl
theorem tyf92 : TD.fits Try.prog 92 (.other) := trivial
theorem tyi92 : (Try.prog.info? 92).map (fun i => (i.size, i.bytes, i.zero)) = some (1, 8, some (.nilFunc)) := by kernel_rfl
theorem tyf93 : TD.fits Try.prog 93 (.other) := trivial
theorem tyi93 : (Try.prog.info? 93).map (fun i => (i.size, i.bytes, i.zero)) = some (1, 8, some (.nilFunc)) := by kernel_rfl
theorem tyf94 : structOf Try.prog 94 = some [(35, 0, some 2)] := by kernel_rfl
theorem tyi94 : (Try.prog.info? 94).map (fun i => (i.size, i.bytes, i.zero)) = some (2, 48, some (.agg #[.slice none 0 0, .slice none 0 0])) := by kernel_rfl
theorem tyf95 : structOf Try.prog 95 = some [(35, 0, some 2)] := by kernel_rfl
theorem tyi95 : (Try.prog.info? 95).map (fun i => (i.size, i.bytes, i.zero)) = some (2, 48, some (.agg #[.slice none 0 0, .slice none 0 0])) := by kernel_rfl
theorem tyf96 : TD.fits Try.prog 96 (.other) := trivial
theorem tyi96 : (Try.prog.info? 96).map (fun i => (i.size, i.bytes, i.zero)) = some (1, 8, some (.nilFunc)) := by kernel_rfl
theorem tyf97 : TD.fits Try.prog 97 (.other) := trivial
theorem tyi97 : (Try.prog.info? 97).map (fun i => (i.size, i.bytes, i.zero)) = some (1, 8, some (.nilFunc)) := by kernel_rfl
theorem tyf99 : TD.fits Try.prog 99 (.other) := trivial
theorem tyi99 : (Try.prog.info? 99).map (fun i => (i.size, i.bytes, i.zero)) = some (1, 8, some (.nilFunc)) := by kernel_rfl
theorem tyf100 : Try.prog.underlying 100 = some (.slice 5) := by kernel_rfl
theorem tyi100 : (Try.prog.info? 100).map (fun i => (i.size, i.bytes, i.zero)) = some (1, 24, some (.slice none 0 0)) := by kernel_rfl
theorem tyf101 : TD.fits Try.prog 101 (.other) := trivial
theorem tyi101 : (Try.prog.info? 101).map (fun i => (i.size, i.bytes, i.zero)) = some (1, 8, some (.nilFunc)) := by kernel_rfl
theorem tyf102 : TD.fits Try.prog 102 (.other) := trivial
theorem tyi102 : (Try.prog.info? 102).map (fun i => (i.size, i.bytes, i.zero)) = some (1, 8, some (.nilFunc)) := by kernel_rfl
theorem tyf103 : TD.fits Try.prog 103 (.other) := trivial
theorem tyi103 : (Try.prog.info? 103).map (fun i => (i.size, i.bytes, i.zero)) = some (1, 8, some (.nilFunc)) := by kernel_rfl
theorem tyf104 : TD.fits Try.prog 104 (.other) := trivial
theorem tyi104 : (Try.prog.info? 104).map (fun i => (i.size, i.bytes, i.zero)) = some (1, 8, some (.nilFunc)) := by kernel_rfl
theorem tyf105 : TD.fits Try.prog 105 (.other) := trivial
theorem tyi105 : (Try.prog.info? 105).map (fun i => (i.size, i.bytes, i.zero)) = some (1, 8, some (.nilFunc)) := by kernel_rfl
theorem tyf106 : TD.fits Try.prog 106 (.other) := trivial
theorem tyi106 : (Try.prog.info? 106).map (fun i => (i.size, i.bytes, i.zero)) = some (1, 8, some (.nilFunc)) := by kernel_rfl
theorem tyf107 : TD.fits Try.prog 107 (.other) := trivial
theorem tyi107 : (Try.prog.info? 107).map (fun i => (i.size, i.bytes, i.zero)) = some (1, 8, some (.nilFunc)) := by kernel_rfl
theorem tyf109 : TD.fits Try.prog 109 (.other) := trivial
theorem tyi109 : (Try.prog.info? 109).map (fun i => (i.size, i.bytes, i.zero)) = some (1, 8, some (.nilFunc)) := by kernel_rfl
theorem tyf110 : TD.fits Try.prog 110 (.other) := trivial
theorem tyi110 : (Try.prog.info? 110).map (fun i => (i.size, i.bytes, i.zero)) = some (1, 8, some (.nilFunc)) := by kernel_rfl
theorem tyf111 : TD.fits Try.prog 111 (.other) := trivial
theorem tyi111 : (Try.prog.info? 111).map (fun i => (i.size, i.bytes, i.zero)) = some (1, 8, some (.nilFunc)) := by kernel_rfl
theorem tyf112 : TD.fits Try.prog 112 (.other) := trivial
theorem tyi112 : (Try.prog.info? 112).map (fun i => (i.size, i.bytes, i.zero)) = some (1, 8, some (.nilFunc)) := by kernel_rfl
theorem tyf113 : TD.fits Try.prog 113 (.other) := trivial
theorem tyi113 : (Try.prog.info? 113).map (fun i => (i.size, i.bytes, i.zero)) = some (1, 8, some (.nilFunc)) := by kernel_rfl
theorem tyf114 : TD.fits Try.prog 114 (.other) := trivial
theorem tyi114 : (Try.prog.info? 114).map (fun i => (i.size, i.bytes, i.zero)) = some (1, 8, some (.nilFunc)) := by kernel_rfl
theorem tyf115 : TD.fits Try.prog 115 (.other) := trivial
theorem tyi115 : (Try.prog.info? 115).map (fun i => (i.size, i.bytes, i.zero)) = some (1, 8, some (.nilFunc)) := by kernel_rfl
theorem tyf116 : TD.fits Try.prog 116 (.other) := trivial
theorem tyi116 : (Try.prog.info? 116).map (fun i => (i.size, i.bytes, i.zero)) = some (1, 8, some (.nilFunc)) := by kernel_rfl
theorem tyf117 : Try.prog.underlying 117 = some (.pointer 119) := by kernel_rfl
theorem tyi117 : (Try.prog.info? 117).map (fun i => (i.size, i.bytes, i.zero)) = some (1, 8, some (.pointer none)) := by kernel_rfl
theorem tyf118 : structOf Try.prog 118 = some [(117, 0, some 1), (100, 1, some 1)] := by kernel_rfl
theorem tyi118 : (Try.prog.info? 118).map (fun i => (i.size, i.bytes, i.zero)) = some (2, 32, some (.agg #[.pointer none, .slice none 0 0])) := by kernel_rfl
theorem tyf119 : structOf Try.prog 119 = some [(117, 0, some 1), (100, 1, some 1)] := by kernel_rfl
theorem tyi119 : (Try.prog.info? 119).map (fun i => (i.size, i.bytes, i.zero)) = some (2, 32, some (.agg #[.pointer none, .slice none 0 0])) := by kernel_rfl
theorem tyf120 : TD.fits Try.prog 120 (.other) := trivial
theorem tyi120 : (Try.prog.info? 120).map (fun i => (i.size, i.bytes, i.zero)) = some (1, 8, some (.nilFunc)) := by kernel_rfl
theorem tyf121 : TD.fits Try.prog 121 (.other) := trivial
theorem tyi121 : (Try.prog.info? 121).map (fun i => (i.size, i.bytes, i.zero)) = some (1, 16, some (.nilIface)) := by kernel_rfl
theorem tyf122 : TD.fits Try.prog 122 (.other) := trivial
theorem tyi122 : (Try.prog.info? 122).map (fun i => (i.size, i.bytes, i.zero)) = some (1, 16, some (.nilIface)) := by kernel_rfl
theorem tyf124 : TD.fits Try.prog 124 (.other) := trivial
theorem tyi124 : (Try.prog.info? 124).map (fun i => (i.size, i.bytes, i.zero)) = some (1, 8, some (.nilFunc)) := by kernel_rfl
theorem tyf125 : TD.fits Try.prog 125 (.other) := trivial
theorem tyi125 : (Try.prog.info? 125).map (fun i => (i.size, i.bytes, i.zero)) = some (1, 8, some (.nilFunc)) := by kernel_rfl
theorem tyf126 : TD.fits Try.prog 126 (.other) := trivial
theorem tyi126 : (Try.prog.info? 126).map (fun i => (i.size, i.bytes, i.zero)) = some (1, 8, some (.nilFunc)) := by kernel_rfl
theorem tyf127 : TD.fits Try.prog 127 (.other) := trivial
theorem tyi127 : (Try.prog.info? 127).map (fun i => (i.size, i.bytes, i.zero)) = some (1, 8, some (.nilFunc)) := by kernel_rfl
theorem tyf129 : TD.fits Try.prog 129 (.other) := trivial
theorem tyi129 : (Try.prog.info? 129).map (fun i => (i.size, i.bytes, i.zero)) = some (1, 8, some (.nilFunc)) := by kernel_rfl
theorem tyf130 : TD.fits Try.prog 130 (.other) := trivial
theorem tyi130 : (Try.prog.info? 130).map (fun i => (i.size, i.bytes, i.zero)) = some (1, 8, some (.nilFunc)) := by kernel_rfl
theorem tyf131 : TD.fits Try.prog 131 (.other) := trivial
theorem tyi131 : (Try.prog.info? 131).map (fun i => (i.size, i.bytes, i.zero)) = some (1, 8, some (.nilFunc)) := by kernel_rfl
theorem tyf132 : Try.prog.underlying 132 = some (.int .i64) := by kernel_rfl
theorem tyi132 : (Try.prog.info? 132).map (fun i => (i.size, i.bytes, i.zero)) = some (1, 8, some (.int .i64 0)) := by kernel_rfl
theorem tyf134 : TD.fits Try.prog 134 (.other) := trivial
theorem tyi134 : (Try.prog.info? 134).map (fun i => (i.size, i.bytes, i.zero)) = some (1, 8, some (.nilFunc)) := by kernel_rfl
theorem tyf135 : TD.fits Try.prog 135 (.other) := trivial
theorem tyi135 : (Try.prog.info? 135).map (fun i => (i.size, i.bytes, i.zero)) = some (1, 8, some (.nilFunc)) := by kernel_rfl
theorem tyf136 : TD.fits Try.prog 136 (.other) := trivial
theorem tyi136 : (Try.prog.info? 136).map (fun i => (i.size, i.bytes, i.zero)) = some (1, 8, some (.nilFunc)) := by kernel_rfl
theorem tyf138 : TD.fits Try.prog 138 (.other) := trivial
theorem tyi138 : (Try.prog.info? 138).map (fun i => (i.size, i.bytes, i.zero)) = some (1, 8, some (.nilFunc)) := by kernel_rfl
theorem tyf139 : TD.fits Try.prog 139 (.other) := trivial
theorem tyi139 : (Try.prog.info? 139).map (fun i => (i.size, i.bytes, i.zero)) = some (1, 8, some (.nilFunc)) := by kernel_rfl
theorem tyf140 : Try.prog.underlying 140 = some (.int .u32) := by kernel_rfl
theorem tyi140 : (Try.prog.info? 140).map (fun i => (i.size, i.bytes, i.zero)) = some (1, 4, some (.int .u32 0)) := by kernel_rfl
theorem tyf141 : TD.fits Try.prog 141 (.other) := trivial
theorem tyi141 : (Try.prog.info? 141).map (fun i => (i.size, i.bytes, i.zero)) = some (1, 8, some (.nilFunc)) := by kernel_rfl
theorem tyf142 : Try.prog.underlying 142 = some (.int .u64) := by kernel_rfl
theorem tyi142 : (Try.prog.info? 142).map (fun i => (i.size, i.bytes, i.zero)) = some (1, 8, some (.int .u64 0)) := by kernel_rfl
theorem tyf143 : Try.prog.underlying 143 = some (.pointer 5) := by kernel_rfl
theorem tyi143 : (Try.prog.info? 143).map (fun i => (i.size, i.bytes, i.zero)) = some (1, 8, some (.pointer none)) := by kernel_rfl
theorem tyf144 : TD.fits Try.prog 144 (.other) := trivial
theorem tyi144 : (Try.prog.info? 144).map (fun i => (i.size, i.bytes, i.zero)) = some (1, 8, some (.nilFunc)) := by kernel_rfl
theorem tyf145 : Try.prog.underlying 145 = some (.int .u64) := by kernel_rfl
theorem tyi145 : (Try.prog.info? 145).map (fun i => (i.size, i.bytes, i.zero)) = some (1, 8, some (.int .u64 0)) := by kernel_rfl
theorem tyf146 : TD.fits Try.prog 146 (.other) := trivial
theorem tyi146 : (Try.prog.info? 146).map (fun i => (i.size, i.bytes, i.zero)) = some (1, 8, some (.nilFunc)) := by kernel_rfl
theorem tyf147 : TD.fits Try.prog 147 (.other) := trivial
theorem tyi147 : (Try.prog.info? 147).map (fun i => (i.size, i.bytes, i.zero)) = some (1, 8, some (.nilFunc)) := by kernel_rfl
theorem tyf148 : TD.fits Try.prog 148 (.other) := trivial
theorem tyi148 : (Try.prog.info? 148).map (fun i => (i.size, i.bytes, i.zero)) = some (1, 8, some (.nilFunc)) := by kernel_rfl
theorem tyf149 : Try.prog.underlying 149 = some (.pointer 3) := by kernel_rfl
theorem tyi149 : (Try.prog.info? 149).map (fun i => (i.size, i.bytes, i.zero)) = some (1, 8, some (.pointer none)) := by kernel_rfl
theorem tyf150 : TD.fits Try.prog 150 (.other) := trivial
theorem tyi150 : (Try.prog.info? 150).map (fun i => (i.size, i.bytes, i.zero)) = some (1, 8, some (.nilFunc)) := by kernel_rfl
theorem tyf152 : TD.fits Try.prog 152 (.other) := trivial
theorem tyi152 : (Try.prog.info? 152).map (fun i => (i.size, i.bytes, i.zero)) = some (1, 8, some (.nilFunc)) := by kernel_rfl
theorem tyf153 : TD.fits Try.prog 153 (.other) := trivial
theorem tyi153 : (Try.prog.info? 153).map (fun i => (i.size, i.bytes, i.zero)) = some (1, 8, some (.nilFunc)) := by kernel_rfl
theorem tyf155 : TD.fits Try.prog 155 (.other) := trivial
theorem tyi155 : (Try.prog.info? 155).map (fun i => (i.size, i.bytes, i.zero)) = some (1, 8, some (.nilFunc)) := by kernel_rfl
theorem tyf156 : Try.prog.underlying 156 = some (.pointer 145) := by kernel_rfl
theorem tyi156 : (Try.prog.info? 156).map (fun i => (i.size, i.bytes, i.zero)) = some (1, 8, some (.pointer none)) := by kernel_rfl
theorem tyf158 : TD.fits Try.prog 158 (.other) := trivial
theorem tyi158 : (Try.prog.info? 158).map (fun i => (i.size, i.bytes, i.zero)) = some (1, 8, some (.nilFunc)) := by kernel_rfl
theorem tyf164 : TD.fits Try.prog 164 (.other) := trivial
theorem tyi164 : (Try.prog.info? 164).map (fun i => (i.size, i.bytes, i.zero)) = some (1, 8, some (.nilFunc)) := by kernel_rfl
theorem tyf167 : TD.fits Try.prog 167 (.other) := trivial
theorem tyi167 : (Try.prog.info? 167).map (fun i => (i.size, i.bytes, i.zero)) = some (1, 8, some (.nilFunc)) := by kernel_rfl
theorem tyf172 : TD.fits Try.prog 172 (.other) := trivial
theorem tyi172 : (Try.prog.info? 172).map (fun i => (i.size, i.bytes, i.zero)) = some (1, 8, some (.nilFunc)) := by kernel_rfl
set_option maxRecDepth 20000 in
theorem tyOk : allOk Try.prog tyTab :=
  ⟨tyf1, tyi1,
  tyf2, tyi2,
  tyf3, tyi3,
  tyf4, tyi4,
  tyf5, tyi5,
  tyf9, tyi9,
  tyf12, tyi12,
  tyf13, tyi13,
  tyf20, tyi20,
  tyf21, tyi21,
  tyf22, tyi22,
  tyf23, tyi23,
  tyf24, tyi24,
  tyf25, tyi25,
  tyf26, tyi26,
  tyf27, tyi27,
  tyf28, tyi28,
  tyf29, tyi29,
  tyf31, tyi31,
  tyf32, tyi32,
  tyf33, tyi33,
  tyf34, tyi34,
  tyf35, tyi35,
  tyf36, tyi36,
  tyf37, tyi37,
  tyf38, tyi38,
  tyf39, tyi39,
  tyf40, tyi40,
  tyf41, tyi41,
  tyf42, tyi42,
  tyf43, tyi43,
  tyf44, tyi44,
  tyf45, tyi45,
  tyf46, tyi46,
  tyf47, tyi47,
  tyf48, tyi48,
  tyf49, tyi49,
  tyf50, tyi50,
  tyf51, tyi51,
  tyf52, tyi52,
  tyf53, tyi53,
  tyf54, tyi54,
  tyf56, tyi56,
  tyf57, tyi57,
  tyf58, tyi58,
  tyf59, tyi59,
  tyf60, tyi60,
  tyf62, tyi62,
  tyf63, tyi63,
  tyf64, tyi64,
  tyf66, tyi66,
  tyf67, tyi67,
  tyf68, tyi68,
  tyf69, tyi69,
  tyf70, tyi70,
  tyf71, tyi71,
  tyf73, tyi73,
  tyf75, tyi75,
  tyf76, tyi76,
  tyf77, tyi77,
  tyf78, tyi78,
  tyf79, tyi79,
  tyf80, tyi80,
  tyf81, tyi81,
  tyf82, tyi82,
  tyf83, tyi83,
  tyf84, tyi84,
  tyf85, tyi85,
  tyf86, tyi86,
  tyf87, tyi87,
  tyf88, tyi88,
  tyf90, tyi90,
  tyf91, tyi91,
  tyf92, tyi92,
  tyf93, tyi93,
  tyf94, tyi94,
  tyf95, tyi95,
  tyf96, tyi96,
  tyf97, tyi97,
  tyf99, tyi99,
  tyf100, tyi100,
  tyf101, tyi101,
  tyf102, tyi102,
  tyf103, tyi103,
  tyf104, tyi104,
  tyf105, tyi105,
  tyf106, tyi106,
  tyf107, tyi107,
  tyf109, tyi109,
  tyf110, tyi110,
  tyf111, tyi111,
  tyf112, tyi112,
  tyf113, tyi113,
  tyf114, tyi114,
  tyf115, tyi115,
  tyf116, tyi116,
  tyf117, tyi117,
  tyf118, tyi118,
  tyf119, tyi119,
  tyf120, tyi120,
  tyf121, tyi121,
  tyf122, tyi122,
  tyf124, tyi124,
  tyf125, tyi125,
  tyf126, tyi126,
  tyf127, tyi127,
  tyf129, tyi129,
  tyf130, tyi130,
  tyf131, tyi131,
  tyf132, tyi132,
  tyf134, tyi134,
  tyf135, tyi135,
  tyf136, tyi136,
  tyf138, tyi138,
  tyf139, tyi139,
  tyf140, tyi140,
  tyf141, tyi141,
  tyf142, tyi142,
  tyf143, tyi143,
  tyf144, tyi144,
  tyf145, tyi145,
  tyf146, tyi146,
  tyf147, tyi147,
  tyf148, tyi148,
  tyf149, tyi149,
  tyf150, tyi150,
  tyf152, tyi152,
  tyf153, tyi153,
  tyf155, tyi155,
  tyf156, tyi156,
  tyf158, tyi158,
  tyf164, tyi164,
  tyf167, tyi167,
  tyf172, tyi172, trivial⟩
/-- A type's row, by looking. -/
theorem tyy {t : Nat} {d : TD} {sz by_ : Nat} {z : Value} (h : tlook tyTab t = some ⟨d, sz, by_, z⟩) : Ty Try.prog t d sz by_ z := tlook_ok tyOk h
def slB (t : Nat) : Bool := match tlook tyTab t with
  | some ⟨.slice _, _, _, _⟩ => true
  | _ => false
theorem mixedOk : Try.prog.follows .mixedOrders = true := by kernel_rfl
end Go.Proofs.Ytieibicgankemaa
