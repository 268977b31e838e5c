/- The table of types of this seat's program, printed by tyenv.py. -/
import Derived.Test.YtpcfnhjeacahdaaLtC
import Derived.Test.YtpcfnhjeacahdaaProg
import Derived.KernelRfl
namespace Go.Proofs.Ytpcfnhjeacahdaa

set_option linter.all false
def tyTab : List (Nat × TRow) := [(1, ⟨.other, 1, 8, .nilFunc⟩),
  (2, ⟨.int .i64, 1, 8, .int .i64 0⟩),
  (3, ⟨.int .i64, 1, 8, .int .i64 0⟩),
  (4, ⟨.bool, 1, 1, .bool false⟩),
  (5, ⟨.int .u8, 1, 1, .int .u8 0⟩),
  (9, ⟨.str, 1, 16, .string ⟨#[]⟩⟩),
  (12, ⟨.int .u64, 1, 8, .int .u64 0⟩),
  (13, ⟨.struct [(9, 0, 1), (12, 1, 1)], 2, 24, .agg #[.string ⟨#[]⟩, .int .u64 0]⟩),
  (20, ⟨.other, 1, 16, .nilIface⟩),
  (21, ⟨.int .i32, 1, 4, .int .i32 0⟩),
  (22, ⟨.struct [(3, 0, 1), (3, 1, 1), (3, 2, 1), (3, 3, 1), (3, 4, 1), (9, 5, 1), (9, 6, 1)], 7, 72, .agg #[.int .i64 0, .int .i64 0, .int .i64 0, .int .i64 0, .int .i64 0, .string ⟨#[]⟩, .string ⟨#[]⟩]⟩),
  (23, ⟨.struct [(3, 0, 1), (3, 1, 1), (3, 2, 1), (3, 3, 1), (3, 4, 1), (9, 5, 1), (9, 6, 1)], 7, 72, .agg #[.int .i64 0, .int .i64 0, .int .i64 0, .int .i64 0, .int .i64 0, .string ⟨#[]⟩, .string ⟨#[]⟩]⟩),
  (24, ⟨.ptr 74, 1, 8, .pointer none⟩),
  (25, ⟨.other, 1, 8, .nilFunc⟩),
  (26, ⟨.other, 1, 8, .nilFunc⟩),
  (28, ⟨.other, 1, 8, .nilFunc⟩),
  (29, ⟨.other, 1, 8, .nilFunc⟩),
  (30, ⟨.other, 1, 8, .nilFunc⟩),
  (31, ⟨.other, 1, 8, .nilFunc⟩),
  (32, ⟨.slice 23, 1, 24, .slice none 0 0⟩),
  (33, ⟨.ptr 36, 1, 8, .pointer none⟩),
  (34, ⟨.slice 86, 1, 24, .slice none 0 0⟩),
  (35, ⟨.struct [(3, 0, 1), (34, 1, 1)], 2, 32, .agg #[.int .i64 0, .slice none 0 0]⟩),
  (36, ⟨.struct [(3, 0, 1), (34, 1, 1)], 2, 32, .agg #[.int .i64 0, .slice none 0 0]⟩),
  (37, ⟨.slice 9, 1, 24, .slice none 0 0⟩),
  (38, ⟨.other, 1, 8, .nilFunc⟩),
  (39, ⟨.other, 1, 8, .nilFunc⟩),
  (40, ⟨.ptr 90, 1, 8, .pointer none⟩),
  (41, ⟨.other, 1, 8, .nilFunc⟩),
  (42, ⟨.other, 1, 8, .nilFunc⟩),
  (43, ⟨.other, 1, 8, .nilFunc⟩),
  (44, ⟨.int .u64, 1, 8, .int .u64 0⟩),
  (45, ⟨.struct [(44, 0, 1), (3, 1, 1), (3, 2, 1)], 3, 24, .agg #[.int .u64 0, .int .i64 0, .int .i64 0]⟩),
  (46, ⟨.struct [(44, 0, 1), (3, 1, 1), (3, 2, 1)], 3, 24, .agg #[.int .u64 0, .int .i64 0, .int .i64 0]⟩),
  (47, ⟨.int .i64, 1, 8, .int .i64 0⟩),
  (48, ⟨.other, 1, 8, .nilFunc⟩),
  (49, ⟨.other, 1, 8, .nilFunc⟩),
  (50, ⟨.other, 1, 8, .nilFunc⟩),
  (51, ⟨.other, 1, 8, .nilFunc⟩),
  (52, ⟨.other, 1, 8, .nilFunc⟩),
  (53, ⟨.slice 57, 1, 24, .slice none 0 0⟩),
  (54, ⟨.ptr 61, 1, 8, .pointer none⟩),
  (55, ⟨.other, 1, 8, .nilFunc⟩),
  (56, ⟨.struct [(3, 0, 1), (3, 1, 1), (3, 2, 1), (9, 3, 1), (46, 4, 3)], 7, 64, .agg #[.int .i64 0, .int .i64 0, .int .i64 0, .string ⟨#[]⟩, .int .u64 0, .int .i64 0, .int .i64 0]⟩),
  (57, ⟨.struct [(3, 0, 1), (3, 1, 1), (3, 2, 1), (9, 3, 1), (46, 4, 3)], 7, 64, .agg #[.int .i64 0, .int .i64 0, .int .i64 0, .string ⟨#[]⟩, .int .u64 0, .int .i64 0, .int .i64 0]⟩),
  (58, ⟨.other, 1, 8, .nilFunc⟩),
  (59, ⟨.slice 132, 1, 24, .slice none 0 0⟩),
  (60, ⟨.struct [(37, 0, 1), (37, 1, 1), (4, 2, 1), (3, 3, 1), (4, 4, 1), (3, 5, 1), (46, 6, 3), (59, 9, 1)], 10, 128, .agg #[.slice none 0 0, .slice none 0 0, .bool false, .int .i64 0, .bool false, .int .i64 0, .int .u64 0, .int .i64 0, .int .i64 0, .slice none 0 0]⟩),
  (61, ⟨.struct [(37, 0, 1), (37, 1, 1), (4, 2, 1), (3, 3, 1), (4, 4, 1), (3, 5, 1), (46, 6, 3), (59, 9, 1)], 10, 128, .agg #[.slice none 0 0, .slice none 0 0, .bool false, .int .i64 0, .bool false, .int .i64 0, .int .u64 0, .int .i64 0, .int .i64 0, .slice none 0 0]⟩),
  (62, ⟨.other, 1, 8, .nilFunc⟩),
  (63, ⟨.other, 1, 8, .nilFunc⟩),
  (64, ⟨.other, 1, 8, .nilFunc⟩),
  (66, ⟨.other, 1, 8, .nilFunc⟩),
  (68, ⟨.other, 1, 8, .nilFunc⟩),
  (69, ⟨.other, 1, 8, .nilFunc⟩),
  (70, ⟨.other, 1, 8, .nilFunc⟩),
  (71, ⟨.other, 1, 8, .nilFunc⟩),
  (72, ⟨.slice 78, 1, 24, .slice none 0 0⟩),
  (73, ⟨.struct [(3, 0, 1), (72, 1, 1)], 2, 32, .agg #[.int .i64 0, .slice none 0 0]⟩),
  (74, ⟨.struct [(3, 0, 1), (72, 1, 1)], 2, 32, .agg #[.int .i64 0, .slice none 0 0]⟩),
  (75, ⟨.struct [(9, 0, 1), (3, 1, 1)], 2, 24, .agg #[.string ⟨#[]⟩, .int .i64 0]⟩),
  (76, ⟨.struct [(9, 0, 1), (3, 1, 1)], 2, 24, .agg #[.string ⟨#[]⟩, .int .i64 0]⟩),
  (77, ⟨.struct [(76, 0, 2), (3, 2, 1), (3, 3, 1), (3, 4, 1)], 5, 48, .agg #[.string ⟨#[]⟩, .int .i64 0, .int .i64 0, .int .i64 0, .int .i64 0]⟩),
  (78, ⟨.struct [(76, 0, 2), (3, 2, 1), (3, 3, 1), (3, 4, 1)], 5, 48, .agg #[.string ⟨#[]⟩, .int .i64 0, .int .i64 0, .int .i64 0, .int .i64 0]⟩),
  (79, ⟨.other, 1, 8, .nilFunc⟩),
  (80, ⟨.other, 1, 8, .nilFunc⟩),
  (81, ⟨.other, 1, 8, .nilFunc⟩),
  (82, ⟨.other, 1, 8, .nilFunc⟩),
  (84, ⟨.other, 1, 8, .nilFunc⟩),
  (85, ⟨.struct [(3, 0, 1), (3, 1, 1), (9, 2, 1), (3, 3, 1), (3, 4, 1)], 5, 48, .agg #[.int .i64 0, .int .i64 0, .string ⟨#[]⟩, .int .i64 0, .int .i64 0]⟩),
  (86, ⟨.struct [(3, 0, 1), (3, 1, 1), (9, 2, 1), (3, 3, 1), (3, 4, 1)], 5, 48, .agg #[.int .i64 0, .int .i64 0, .string ⟨#[]⟩, .int .i64 0, .int .i64 0]⟩),
  (87, ⟨.other, 1, 8, .nilFunc⟩),
  (88, ⟨.map 3 9, 1, 8, .map none⟩),
  (89, ⟨.struct [(37, 0, 1), (88, 1, 1), (3, 2, 1), (4, 3, 1), (3, 4, 1), (46, 5, 3)], 8, 80, .agg #[.slice none 0 0, .map none, .int .i64 0, .bool false, .int .i64 0, .int .u64 0, .int .i64 0, .int .i64 0]⟩),
  (90, ⟨.struct [(37, 0, 1), (88, 1, 1), (3, 2, 1), (4, 3, 1), (3, 4, 1), (46, 5, 3)], 8, 80, .agg #[.slice none 0 0, .map none, .int .i64 0, .bool false, .int .i64 0, .int .u64 0, .int .i64 0, .int .i64 0]⟩),
  (91, ⟨.slice 40, 1, 24, .slice none 0 0⟩),
  (92, ⟨.other, 1, 8, .nilFunc⟩),
  (93, ⟨.other, 1, 8, .nilFunc⟩),
  (94, ⟨.other, 1, 8, .nilFunc⟩),
  (96, ⟨.other, 1, 8, .nilFunc⟩),
  (97, ⟨.other, 1, 8, .nilFunc⟩),
  (98, ⟨.slice 5, 1, 24, .slice none 0 0⟩),
  (100, ⟨.slice 102, 1, 24, .slice none 0 0⟩),
  (101, ⟨.struct [(3, 0, 1), (9, 1, 1), (100, 2, 1)], 3, 48, .agg #[.int .i64 0, .string ⟨#[]⟩, .slice none 0 0]⟩),
  (102, ⟨.struct [(3, 0, 1), (9, 1, 1), (100, 2, 1)], 3, 48, .agg #[.int .i64 0, .string ⟨#[]⟩, .slice none 0 0]⟩),
  (104, ⟨.other, 1, 8, .nilFunc⟩),
  (106, ⟨.other, 1, 8, .nilFunc⟩),
  (108, ⟨.other, 1, 8, .nilFunc⟩),
  (109, ⟨.other, 1, 8, .nilFunc⟩),
  (110, ⟨.other, 1, 8, .nilFunc⟩),
  (111, ⟨.other, 1, 8, .nilFunc⟩),
  (112, ⟨.other, 1, 8, .nilFunc⟩),
  (113, ⟨.other, 1, 8, .nilFunc⟩),
  (114, ⟨.int .u64, 1, 8, .int .u64 0⟩),
  (115, ⟨.ptr 117, 1, 8, .pointer none⟩),
  (116, ⟨.struct [(115, 0, 1), (98, 1, 1)], 2, 32, .agg #[.pointer none, .slice none 0 0]⟩),
  (117, ⟨.struct [(115, 0, 1), (98, 1, 1)], 2, 32, .agg #[.pointer none, .slice none 0 0]⟩),
  (118, ⟨.other, 1, 16, .nilIface⟩),
  (119, ⟨.other, 1, 16, .nilIface⟩),
  (121, ⟨.other, 1, 8, .nilFunc⟩),
  (123, ⟨.other, 1, 8, .nilFunc⟩),
  (125, ⟨.other, 1, 8, .nilFunc⟩),
  (126, ⟨.other, 1, 8, .nilFunc⟩),
  (127, ⟨.other, 1, 8, .nilFunc⟩),
  (128, ⟨.other, 1, 8, .nilFunc⟩),
  (129, ⟨.other, 1, 8, .nilFunc⟩),
  (130, ⟨.ptr 5, 1, 8, .pointer none⟩),
  (131, ⟨.struct [(9, 0, 1), (9, 1, 1), (9, 2, 1)], 3, 48, .agg #[.string ⟨#[]⟩, .string ⟨#[]⟩, .string ⟨#[]⟩]⟩),
  (132, ⟨.struct [(9, 0, 1), (9, 1, 1), (9, 2, 1)], 3, 48, .agg #[.string ⟨#[]⟩, .string ⟨#[]⟩, .string ⟨#[]⟩]⟩),
  (133, ⟨.other, 1, 8, .nilFunc⟩),
  (134, ⟨.ptr 136, 1, 8, .pointer none⟩),
  (135, ⟨.struct [(9, 0, 1), (3, 1, 1), (3, 2, 1)], 3, 32, .agg #[.string ⟨#[]⟩, .int .i64 0, .int .i64 0]⟩),
  (136, ⟨.struct [(9, 0, 1), (3, 1, 1), (3, 2, 1)], 3, 32, .agg #[.string ⟨#[]⟩, .int .i64 0, .int .i64 0]⟩),
  (137, ⟨.other, 1, 8, .nilFunc⟩),
  (139, ⟨.other, 1, 8, .nilFunc⟩),
  (140, ⟨.other, 1, 8, .nilFunc⟩),
  (142, ⟨.other, 1, 8, .nilFunc⟩),
  (143, ⟨.other, 1, 8, .nilFunc⟩),
  (149, ⟨.int .u32, 1, 4, .int .u32 0⟩),
  (152, ⟨.other, 1, 8, .nilFunc⟩)]
theorem tyf1 : TD.fits Try.prog 1 (.other) := trivial
theorem tyi1 : (Try.prog.info? 1).map (fun i => (i.size, i.bytes, i.zero)) = some (1, 8, some (.nilFunc)) := by kernel_rfl
theorem tyf2 : Try.prog.underlying 2 = some (.int .i64) := by kernel_rfl
theorem tyi2 : (Try.prog.info? 2).map (fun i => (i.size, i.bytes, i.zero)) = some (1, 8, some (.int .i64 0)) := by kernel_rfl
theorem tyf3 : Try.prog.underlying 3 = some (.int .i64) := by kernel_rfl
theorem tyi3 : (Try.prog.info? 3).map (fun i => (i.size, i.bytes, i.zero)) = some (1, 8, some (.int .i64 0)) := by kernel_rfl
theorem tyf4 : Try.prog.underlying 4 = some .bool := by kernel_rfl
theorem tyi4 : (Try.prog.info? 4).map (fun i => (i.size, i.bytes, i.zero)) = some (1, 1, some (.bool false)) := by kernel_rfl
theorem tyf5 : Try.prog.underlying 5 = some (.int .u8) := by kernel_rfl
theorem tyi5 : (Try.prog.info? 5).map (fun i => (i.size, i.bytes, i.zero)) = some (1, 1, some (.int .u8 0)) := by kernel_rfl
theorem tyf9 : Try.prog.underlying 9 = some .string := by kernel_rfl
theorem tyi9 : (Try.prog.info? 9).map (fun i => (i.size, i.bytes, i.zero)) = some (1, 16, some (.string ⟨#[]⟩)) := by kernel_rfl
theorem tyf12 : Try.prog.underlying 12 = some (.int .u64) := by kernel_rfl
theorem tyi12 : (Try.prog.info? 12).map (fun i => (i.size, i.bytes, i.zero)) = some (1, 8, some (.int .u64 0)) := by kernel_rfl
theorem tyf13 : structOf Try.prog 13 = some [(9, 0, some 1), (12, 1, some 1)] := by kernel_rfl
theorem tyi13 : (Try.prog.info? 13).map (fun i => (i.size, i.bytes, i.zero)) = some (2, 24, some (.agg #[.string ⟨#[]⟩, .int .u64 0])) := by kernel_rfl
theorem tyf20 : TD.fits Try.prog 20 (.other) := trivial
theorem tyi20 : (Try.prog.info? 20).map (fun i => (i.size, i.bytes, i.zero)) = some (1, 16, some (.nilIface)) := by kernel_rfl
theorem tyf21 : Try.prog.underlying 21 = some (.int .i32) := by kernel_rfl
theorem tyi21 : (Try.prog.info? 21).map (fun i => (i.size, i.bytes, i.zero)) = some (1, 4, some (.int .i32 0)) := by kernel_rfl
theorem tyf22 : structOf Try.prog 22 = some [(3, 0, some 1), (3, 1, some 1), (3, 2, some 1), (3, 3, some 1), (3, 4, some 1), (9, 5, some 1), (9, 6, some 1)] := by kernel_rfl
theorem tyi22 : (Try.prog.info? 22).map (fun i => (i.size, i.bytes, i.zero)) = some (7, 72, some (.agg #[.int .i64 0, .int .i64 0, .int .i64 0, .int .i64 0, .int .i64 0, .string ⟨#[]⟩, .string ⟨#[]⟩])) := by kernel_rfl
theorem tyf23 : structOf Try.prog 23 = some [(3, 0, some 1), (3, 1, some 1), (3, 2, some 1), (3, 3, some 1), (3, 4, some 1), (9, 5, some 1), (9, 6, some 1)] := by kernel_rfl
theorem tyi23 : (Try.prog.info? 23).map (fun i => (i.size, i.bytes, i.zero)) = some (7, 72, some (.agg #[.int .i64 0, .int .i64 0, .int .i64 0, .int .i64 0, .int .i64 0, .string ⟨#[]⟩, .string ⟨#[]⟩])) := by kernel_rfl
theorem tyf24 : Try.prog.underlying 24 = some (.pointer 74) := by kernel_rfl
theorem tyi24 : (Try.prog.info? 24).map (fun i => (i.size, i.bytes, i.zero)) = some (1, 8, some (.pointer none)) := by kernel_rfl
theorem tyf25 : TD.fits Try.prog 25 (.other) := trivial
theorem tyi25 : (Try.prog.info? 25).map (fun i => (i.size, i.bytes, i.zero)) = some (1, 8, some (.nilFunc)) := by kernel_rfl
theorem tyf26 : TD.fits Try.prog 26 (.other) := trivial
theorem tyi26 : (Try.prog.info? 26).map (fun i => (i.size, i.bytes, i.zero)) = some (1, 8, some (.nilFunc)) := by kernel_rfl
theorem tyf28 : TD.fits Try.prog 28 (.other) := trivial
theorem tyi28 : (Try.prog.info? 28).map (fun i => (i.size, i.bytes, i.zero)) = some (1, 8, some (.nilFunc)) := by kernel_rfl
theorem tyf29 : TD.fits Try.prog 29 (.other) := trivial
theorem tyi29 : (Try.prog.info? 29).map (fun i => (i.size, i.bytes, i.zero)) = some (1, 8, some (.nilFunc)) := by kernel_rfl
theorem tyf30 : TD.fits Try.prog 30 (.other) := trivial
theorem tyi30 : (Try.prog.info? 30).map (fun i => (i.size, i.bytes, i.zero)) = some (1, 8, some (.nilFunc)) := by kernel_rfl
theorem tyf31 : TD.fits Try.prog 31 (.other) := trivial
theorem tyi31 : (Try.prog.info? 31).map (fun i => (i.size, i.bytes, i.zero)) = some (1, 8, some (.nilFunc)) := by kernel_rfl
theorem tyf32 : Try.prog.underlying 32 = some (.slice 23) := by kernel_rfl
theorem tyi32 : (Try.prog.info? 32).map (fun i => (i.size, i.bytes, i.zero)) = some (1, 24, some (.slice none 0 0)) := by kernel_rfl
theorem tyf33 : Try.prog.underlying 33 = some (.pointer 36) := by kernel_rfl
theorem tyi33 : (Try.prog.info? 33).map (fun i => (i.size, i.bytes, i.zero)) = some (1, 8, some (.pointer none)) := by kernel_rfl
theorem tyf34 : Try.prog.underlying 34 = some (.slice 86) := by kernel_rfl
theorem tyi34 : (Try.prog.info? 34).map (fun i => (i.size, i.bytes, i.zero)) = some (1, 24, some (.slice none 0 0)) := by kernel_rfl
theorem tyf35 : structOf Try.prog 35 = some [(3, 0, some 1), (34, 1, some 1)] := by kernel_rfl
theorem tyi35 : (Try.prog.info? 35).map (fun i => (i.size, i.bytes, i.zero)) = some (2, 32, some (.agg #[.int .i64 0, .slice none 0 0])) := by kernel_rfl
theorem tyf36 : structOf Try.prog 36 = some [(3, 0, some 1), (34, 1, some 1)] := by kernel_rfl
theorem tyi36 : (Try.prog.info? 36).map (fun i => (i.size, i.bytes, i.zero)) = some (2, 32, some (.agg #[.int .i64 0, .slice none 0 0])) := by kernel_rfl
theorem tyf37 : Try.prog.underlying 37 = some (.slice 9) := by kernel_rfl
theorem tyi37 : (Try.prog.info? 37).map (fun i => (i.size, i.bytes, i.zero)) = some (1, 24, some (.slice none 0 0)) := by kernel_rfl
theorem tyf38 : TD.fits Try.prog 38 (.other) := trivial
theorem tyi38 : (Try.prog.info? 38).map (fun i => (i.size, i.bytes, i.zero)) = some (1, 8, some (.nilFunc)) := by kernel_rfl
theorem tyf39 : TD.fits Try.prog 39 (.other) := trivial
theorem tyi39 : (Try.prog.info? 39).map (fun i => (i.size, i.bytes, i.zero)) = some (1, 8, some (.nilFunc)) := by kernel_rfl
theorem tyf40 : Try.prog.underlying 40 = some (.pointer 90) := by kernel_rfl
theorem tyi40 : (Try.prog.info? 40).map (fun i => (i.size, i.bytes, i.zero)) = some (1, 8, some (.pointer none)) := by kernel_rfl
theorem tyf41 : TD.fits Try.prog 41 (.other) := trivial
theorem tyi41 : (Try.prog.info? 41).map (fun i => (i.size, i.bytes, i.zero)) = some (1, 8, some (.nilFunc)) := by kernel_rfl
theorem tyf42 : TD.fits Try.prog 42 (.other) := trivial
theorem tyi42 : (Try.prog.info? 42).map (fun i => (i.size, i.bytes, i.zero)) = some (1, 8, some (.nilFunc)) := by kernel_rfl
theorem tyf43 : TD.fits Try.prog 43 (.other) := trivial
theorem tyi43 : (Try.prog.info? 43).map (fun i => (i.size, i.bytes, i.zero)) = some (1, 8, some (.nilFunc)) := by kernel_rfl
theorem tyf44 : Try.prog.underlying 44 = some (.int .u64) := by kernel_rfl
theorem tyi44 : (Try.prog.info? 44).map (fun i => (i.size, i.bytes, i.zero)) = some (1, 8, some (.int .u64 0)) := by kernel_rfl
theorem tyf45 : structOf Try.prog 45 = some [(44, 0, some 1), (3, 1, some 1), (3, 2, some 1)] := by kernel_rfl
theorem tyi45 : (Try.prog.info? 45).map (fun i => (i.size, i.bytes, i.zero)) = some (3, 24, some (.agg #[.int .u64 0, .int .i64 0, .int .i64 0])) := by kernel_rfl
theorem tyf46 : structOf Try.prog 46 = some [(44, 0, some 1), (3, 1, some 1), (3, 2, some 1)] := by kernel_rfl
theorem tyi46 : (Try.prog.info? 46).map (fun i => (i.size, i.bytes, i.zero)) = some (3, 24, some (.agg #[.int .u64 0, .int .i64 0, .int .i64 0])) := by kernel_rfl
theorem tyf47 : Try.prog.underlying 47 = some (.int .i64) := by kernel_rfl
theorem tyi47 : (Try.prog.info? 47).map (fun i => (i.size, i.bytes, i.zero)) = some (1, 8, some (.int .i64 0)) := by kernel_rfl
theorem tyf48 : TD.fits Try.prog 48 (.other) := trivial
theorem tyi48 : (Try.prog.info? 48).map (fun i => (i.size, i.bytes, i.zero)) = some (1, 8, some (.nilFunc)) := by kernel_rfl
theorem tyf49 : TD.fits Try.prog 49 (.other) := trivial
theorem tyi49 : (Try.prog.info? 49).map (fun i => (i.size, i.bytes, i.zero)) = some (1, 8, some (.nilFunc)) := by kernel_rfl
theorem tyf50 : TD.fits Try.prog 50 (.other) := trivial
theorem tyi50 : (Try.prog.info? 50).map (fun i => (i.size, i.bytes, i.zero)) = some (1, 8, some (.nilFunc)) := by kernel_rfl
theorem tyf51 : TD.fits Try.prog 51 (.other) := trivial
theorem tyi51 : (Try.prog.info? 51).map (fun i => (i.size, i.bytes, i.zero)) = some (1, 8, some (.nilFunc)) := by kernel_rfl
theorem tyf52 : TD.fits Try.prog 52 (.other) := trivial
theorem tyi52 : (Try.prog.info? 52).map (fun i => (i.size, i.bytes, i.zero)) = some (1, 8, some (.nilFunc)) := by kernel_rfl
theorem tyf53 : Try.prog.underlying 53 = some (.slice 57) := by kernel_rfl
theorem tyi53 : (Try.prog.info? 53).map (fun i => (i.size, i.bytes, i.zero)) = some (1, 24, some (.slice none 0 0)) := by kernel_rfl
theorem tyf54 : Try.prog.underlying 54 = some (.pointer 61) := by kernel_rfl
theorem tyi54 : (Try.prog.info? 54).map (fun i => (i.size, i.bytes, i.zero)) = some (1, 8, some (.pointer none)) := by kernel_rfl
theorem tyf55 : TD.fits Try.prog 55 (.other) := trivial
theorem tyi55 : (Try.prog.info? 55).map (fun i => (i.size, i.bytes, i.zero)) = some (1, 8, some (.nilFunc)) := by kernel_rfl
theorem tyf56 : structOf Try.prog 56 = some [(3, 0, some 1), (3, 1, some 1), (3, 2, some 1), (9, 3, some 1), (46, 4, some 3)] := by kernel_rfl
theorem tyi56 : (Try.prog.info? 56).map (fun i => (i.size, i.bytes, i.zero)) = some (7, 64, some (.agg #[.int .i64 0, .int .i64 0, .int .i64 0, .string ⟨#[]⟩, .int .u64 0, .int .i64 0, .int .i64 0])) := by kernel_rfl
theorem tyf57 : structOf Try.prog 57 = some [(3, 0, some 1), (3, 1, some 1), (3, 2, some 1), (9, 3, some 1), (46, 4, some 3)] := by kernel_rfl
theorem tyi57 : (Try.prog.info? 57).map (fun i => (i.size, i.bytes, i.zero)) = some (7, 64, some (.agg #[.int .i64 0, .int .i64 0, .int .i64 0, .string ⟨#[]⟩, .int .u64 0, .int .i64 0, .int .i64 0])) := by kernel_rfl
theorem tyf58 : TD.fits Try.prog 58 (.other) := trivial
theorem tyi58 : (Try.prog.info? 58).map (fun i => (i.size, i.bytes, i.zero)) = some (1, 8, some (.nilFunc)) := by kernel_rfl
theorem tyf59 : Try.prog.underlying 59 = some (.slice 132) := by kernel_rfl
theorem tyi59 : (Try.prog.info? 59).map (fun i => (i.size, i.bytes, i.zero)) = some (1, 24, some (.slice none 0 0)) := by kernel_rfl
theorem tyf60 : structOf Try.prog 60 = some [(37, 0, some 1), (37, 1, some 1), (4, 2, some 1), (3, 3, some 1), (4, 4, some 1), (3, 5, some 1), (46, 6, some 3), (59, 9, some 1)] := by kernel_rfl
theorem tyi60 : (Try.prog.info? 60).map (fun i => (i.size, i.bytes, i.zero)) = some (10, 128, some (.agg #[.slice none 0 0, .slice none 0 0, .bool false, .int .i64 0, .bool false, .int .i64 0, .int .u64 0, .int .i64 0, .int .i64 0, .slice none 0 0])) := by kernel_rfl
theorem tyf61 : structOf Try.prog 61 = some [(37, 0, some 1), (37, 1, some 1), (4, 2, some 1), (3, 3, some 1), (4, 4, some 1), (3, 5, some 1), (46, 6, some 3), (59, 9, some 1)] := by kernel_rfl
theorem tyi61 : (Try.prog.info? 61).map (fun i => (i.size, i.bytes, i.zero)) = some (10, 128, some (.agg #[.slice none 0 0, .slice none 0 0, .bool false, .int .i64 0, .bool false, .int .i64 0, .int .u64 0, .int .i64 0, .int .i64 0, .slice none 0 0])) := by kernel_rfl
theorem tyf62 : TD.fits Try.prog 62 (.other) := trivial
theorem tyi62 : (Try.prog.info? 62).map (fun i => (i.size, i.bytes, i.zero)) = some (1, 8, some (.nilFunc)) := by kernel_rfl
theorem tyf63 : TD.fits Try.prog 63 (.other) := trivial
theorem tyi63 : (Try.prog.info? 63).map (fun i => (i.size, i.bytes, i.zero)) = some (1, 8, some (.nilFunc)) := by kernel_rfl
theorem tyf64 : TD.fits Try.prog 64 (.other) := trivial
theorem tyi64 : (Try.prog.info? 64).map (fun i => (i.size, i.bytes, i.zero)) = some (1, 8, some (.nilFunc)) := by kernel_rfl
theorem tyf66 : TD.fits Try.prog 66 (.other) := trivial
theorem tyi66 : (Try.prog.info? 66).map (fun i => (i.size, i.bytes, i.zero)) = some (1, 8, some (.nilFunc)) := by kernel_rfl
theorem tyf68 : TD.fits Try.prog 68 (.other) := trivial
theorem tyi68 : (Try.prog.info? 68).map (fun i => (i.size, i.bytes, i.zero)) = some (1, 8, some (.nilFunc)) := by kernel_rfl
theorem tyf69 : TD.fits Try.prog 69 (.other) := trivial
theorem tyi69 : (Try.prog.info? 69).map (fun i => (i.size, i.bytes, i.zero)) = some (1, 8, some (.nilFunc)) := by kernel_rfl
theorem tyf70 : TD.fits Try.prog 70 (.other) := trivial
theorem tyi70 : (Try.prog.info? 70).map (fun i => (i.size, i.bytes, i.zero)) = some (1, 8, some (.nilFunc)) := by kernel_rfl
theorem tyf71 : TD.fits Try.prog 71 (.other) := trivial
theorem tyi71 : (Try.prog.info? 71).map (fun i => (i.size, i.bytes, i.zero)) = some (1, 8, some (.nilFunc)) := by kernel_rfl
theorem tyf72 : Try.prog.underlying 72 = some (.slice 78) := by kernel_rfl
theorem tyi72 : (Try.prog.info? 72).map (fun i => (i.size, i.bytes, i.zero)) = some (1, 24, some (.slice none 0 0)) := by kernel_rfl
theorem tyf73 : structOf Try.prog 73 = some [(3, 0, some 1), (72, 1, some 1)] := by kernel_rfl
theorem tyi73 : (Try.prog.info? 73).map (fun i => (i.size, i.bytes, i.zero)) = some (2, 32, some (.agg #[.int .i64 0, .slice none 0 0])) := by kernel_rfl
theorem tyf74 : structOf Try.prog 74 = some [(3, 0, some 1), (72, 1, some 1)] := by kernel_rfl
theorem tyi74 : (Try.prog.info? 74).map (fun i => (i.size, i.bytes, i.zero)) = some (2, 32, some (.agg #[.int .i64 0, .slice none 0 0])) := by kernel_rfl
theorem tyf75 : structOf Try.prog 75 = some [(9, 0, some 1), (3, 1, some 1)] := by kernel_rfl
theorem tyi75 : (Try.prog.info? 75).map (fun i => (i.size, i.bytes, i.zero)) = some (2, 24, some (.agg #[.string ⟨#[]⟩, .int .i64 0])) := by kernel_rfl
theorem tyf76 : structOf Try.prog 76 = some [(9, 0, some 1), (3, 1, some 1)] := by kernel_rfl
theorem tyi76 : (Try.prog.info? 76).map (fun i => (i.size, i.bytes, i.zero)) = some (2, 24, some (.agg #[.string ⟨#[]⟩, .int .i64 0])) := by kernel_rfl
theorem tyf77 : structOf Try.prog 77 = some [(76, 0, some 2), (3, 2, some 1), (3, 3, some 1), (3, 4, some 1)] := by kernel_rfl
theorem tyi77 : (Try.prog.info? 77).map (fun i => (i.size, i.bytes, i.zero)) = some (5, 48, some (.agg #[.string ⟨#[]⟩, .int .i64 0, .int .i64 0, .int .i64 0, .int .i64 0])) := by kernel_rfl
theorem tyf78 : structOf Try.prog 78 = some [(76, 0, some 2), (3, 2, some 1), (3, 3, some 1), (3, 4, some 1)] := by kernel_rfl
theorem tyi78 : (Try.prog.info? 78).map (fun i => (i.size, i.bytes, i.zero)) = some (5, 48, some (.agg #[.string ⟨#[]⟩, .int .i64 0, .int .i64 0, .int .i64 0, .int .i64 0])) := by kernel_rfl
theorem tyf79 : TD.fits Try.prog 79 (.other) := trivial
theorem tyi79 : (Try.prog.info? 79).map (fun i => (i.size, i.bytes, i.zero)) = some (1, 8, some (.nilFunc)) := by kernel_rfl
theorem tyf80 : TD.fits Try.prog 80 (.other) := trivial
theorem tyi80 : (Try.prog.info? 80).map (fun i => (i.size, i.bytes, i.zero)) = some (1, 8, some (.nilFunc)) := by kernel_rfl
theorem tyf81 : TD.fits Try.prog 81 (.other) := trivial
theorem tyi81 : (Try.prog.info? 81).map (fun i => (i.size, i.bytes, i.zero)) = some (1, 8, some (.nilFunc)) := by kernel_rfl
theorem tyf82 : TD.fits Try.prog 82 (.other) := trivial
theorem tyi82 : (Try.prog.info? 82).map (fun i => (i.size, i.bytes, i.zero)) = some (1, 8, some (.nilFunc)) := by kernel_rfl
theorem tyf84 : TD.fits Try.prog 84 (.other) := trivial
theorem tyi84 : (Try.prog.info? 84).map (fun i => (i.size, i.bytes, i.zero)) = some (1, 8, some (.nilFunc)) := by kernel_rfl
theorem tyf85 : structOf Try.prog 85 = some [(3, 0, some 1), (3, 1, some 1), (9, 2, some 1), (3, 3, some 1), (3, 4, some 1)] := by kernel_rfl
theorem tyi85 : (Try.prog.info? 85).map (fun i => (i.size, i.bytes, i.zero)) = some (5, 48, some (.agg #[.int .i64 0, .int .i64 0, .string ⟨#[]⟩, .int .i64 0, .int .i64 0])) := by kernel_rfl
theorem tyf86 : structOf Try.prog 86 = some [(3, 0, some 1), (3, 1, some 1), (9, 2, some 1), (3, 3, some 1), (3, 4, some 1)] := by kernel_rfl
theorem tyi86 : (Try.prog.info? 86).map (fun i => (i.size, i.bytes, i.zero)) = some (5, 48, some (.agg #[.int .i64 0, .int .i64 0, .string ⟨#[]⟩, .int .i64 0, .int .i64 0])) := by kernel_rfl
theorem tyf87 : TD.fits Try.prog 87 (.other) := trivial
theorem tyi87 : (Try.prog.info? 87).map (fun i => (i.size, i.bytes, i.zero)) = some (1, 8, some (.nilFunc)) := by kernel_rfl
theorem tyf88 : Try.prog.underlying 88 = some (.map 3 9) := by kernel_rfl
theorem tyi88 : (Try.prog.info? 88).map (fun i => (i.size, i.bytes, i.zero)) = some (1, 8, some (.map none)) := by kernel_rfl
theorem tyf89 : structOf Try.prog 89 = some [(37, 0, some 1), (88, 1, some 1), (3, 2, some 1), (4, 3, some 1), (3, 4, some 1), (46, 5, some 3)] := by kernel_rfl
theorem tyi89 : (Try.prog.info? 89).map (fun i => (i.size, i.bytes, i.zero)) = some (8, 80, some (.agg #[.slice none 0 0, .map none, .int .i64 0, .bool false, .int .i64 0, .int .u64 0, .int .i64 0, .int .i64 0])) := by kernel_rfl
theorem tyf90 : structOf Try.prog 90 = some [(37, 0, some 1), (88, 1, some 1), (3, 2, some 1), (4, 3, some 1), (3, 4, some 1), (46, 5, some 3)] := by kernel_rfl
theorem tyi90 : (Try.prog.info? 90).map (fun i => (i.size, i.bytes, i.zero)) = some (8, 80, some (.agg #[.slice none 0 0, .map none, .int .i64 0, .bool false, .int .i64 0, .int .u64 0, .int .i64 0, .int .i64 0])) := by kernel_rfl
theorem tyf91 : Try.prog.underlying 91 = some (.slice 40) := by kernel_rfl
theorem tyi91 : (Try.prog.info? 91).map (fun i => (i.size, i.bytes, i.zero)) = some (1, 24, some (.slice none 0 0)) := by kernel_rfl
theorem tyf92 : TD.fits Try.prog 92 (.other) := trivial
theorem tyi92 : (Try.prog.info? 92).map (fun i => (i.size, i.bytes, i.zero)) = some (1, 8, some (.nilFunc)) := by kernel_rfl
theorem tyf93 : TD.fits Try.prog 93 (.other) := trivial
theorem tyi93 : (Try.prog.info? 93).map (fun i => (i.size, i.bytes, i.zero)) = some (1, 8, some (.nilFunc)) := by kernel_rfl
theorem tyf94 : TD.fits Try.prog 94 (.other) := trivial
theorem tyi94 : (Try.prog.info? 94).map (fun i => (i.size, i.bytes, i.zero)) = some (1, 8, some (.nilFunc)) := by kernel_rfl
theorem tyf96 : TD.fits Try.prog 96 (.other) := trivial
theorem tyi96 : (Try.prog.info? 96).map (fun i => (i.size, i.bytes, i.zero)) = some (1, 8, some (.nilFunc)) := by kernel_rfl
theorem tyf97 : TD.fits Try.prog 97 (.other) := trivial
theorem tyi97 : (Try.prog.info? 97).map (fun i => (i.size, i.bytes, i.zero)) = some (1, 8, some (.nilFunc)) := by kernel_rfl
theorem tyf98 : Try.prog.underlying 98 = some (.slice 5) := by kernel_rfl
theorem tyi98 : (Try.prog.info? 98).map (fun i => (i.size, i.bytes, i.zero)) = some (1, 24, some (.slice none 0 0)) := by kernel_rfl
theorem tyf100 : Try.prog.underlying 100 = some (.slice 102) := by kernel_rfl
theorem tyi100 : (Try.prog.info? 100).map (fun i => (i.size, i.bytes, i.zero)) = some (1, 24, some (.slice none 0 0)) := by kernel_rfl
theorem tyf101 : structOf Try.prog 101 = some [(3, 0, some 1), (9, 1, some 1), (100, 2, some 1)] := by kernel_rfl
theorem tyi101 : (Try.prog.info? 101).map (fun i => (i.size, i.bytes, i.zero)) = some (3, 48, some (.agg #[.int .i64 0, .string ⟨#[]⟩, .slice none 0 0])) := by kernel_rfl
theorem tyf102 : structOf Try.prog 102 = some [(3, 0, some 1), (9, 1, some 1), (100, 2, some 1)] := by kernel_rfl
theorem tyi102 : (Try.prog.info? 102).map (fun i => (i.size, i.bytes, i.zero)) = some (3, 48, some (.agg #[.int .i64 0, .string ⟨#[]⟩, .slice none 0 0])) := by kernel_rfl
theorem tyf104 : TD.fits Try.prog 104 (.other) := trivial
theorem tyi104 : (Try.prog.info? 104).map (fun i => (i.size, i.bytes, i.zero)) = some (1, 8, some (.nilFunc)) := by kernel_rfl
theorem tyf106 : TD.fits Try.prog 106 (.other) := trivial
theorem tyi106 : (Try.prog.info? 106).map (fun i => (i.size, i.bytes, i.zero)) = some (1, 8, some (.nilFunc)) := by kernel_rfl
theorem tyf108 : TD.fits Try.prog 108 (.other) := trivial
theorem tyi108 : (Try.prog.info? 108).map (fun i => (i.size, i.bytes, i.zero)) = some (1, 8, some (.nilFunc)) := by kernel_rfl
theorem tyf109 : TD.fits Try.prog 109 (.other) := trivial
theorem tyi109 : (Try.prog.info? 109).map (fun i => (i.size, i.bytes, i.zero)) = some (1, 8, some (.nilFunc)) := by kernel_rfl
theorem tyf110 : TD.fits Try.prog 110 (.other) := trivial
theorem tyi110 : (Try.prog.info? 110).map (fun i => (i.size, i.bytes, i.zero)) = some (1, 8, some (.nilFunc)) := by kernel_rfl
theorem tyf111 : TD.fits Try.prog 111 (.other) := trivial
theorem tyi111 : (Try.prog.info? 111).map (fun i => (i.size, i.bytes, i.zero)) = some (1, 8, some (.nilFunc)) := by kernel_rfl
theorem tyf112 : TD.fits Try.prog 112 (.other) := trivial
theorem tyi112 : (Try.prog.info? 112).map (fun i => (i.size, i.bytes, i.zero)) = some (1, 8, some (.nilFunc)) := by kernel_rfl
theorem tyf113 : TD.fits Try.prog 113 (.other) := trivial
theorem tyi113 : (Try.prog.info? 113).map (fun i => (i.size, i.bytes, i.zero)) = some (1, 8, some (.nilFunc)) := by kernel_rfl
theorem tyf114 : Try.prog.underlying 114 = some (.int .u64) := by kernel_rfl
theorem tyi114 : (Try.prog.info? 114).map (fun i => (i.size, i.bytes, i.zero)) = some (1, 8, some (.int .u64 0)) := by kernel_rfl
theorem tyf115 : Try.prog.underlying 115 = some (.pointer 117) := by kernel_rfl
theorem tyi115 : (Try.prog.info? 115).map (fun i => (i.size, i.bytes, i.zero)) = some (1, 8, some (.pointer none)) := by kernel_rfl
theorem tyf116 : structOf Try.prog 116 = some [(115, 0, some 1), (98, 1, some 1)] := by kernel_rfl
theorem tyi116 : (Try.prog.info? 116).map (fun i => (i.size, i.bytes, i.zero)) = some (2, 32, some (.agg #[.pointer none, .slice none 0 0])) := by kernel_rfl
theorem tyf117 : structOf Try.prog 117 = some [(115, 0, some 1), (98, 1, some 1)] := by kernel_rfl
theorem tyi117 : (Try.prog.info? 117).map (fun i => (i.size, i.bytes, i.zero)) = some (2, 32, some (.agg #[.pointer none, .slice none 0 0])) := by kernel_rfl
theorem tyf118 : TD.fits Try.prog 118 (.other) := trivial
theorem tyi118 : (Try.prog.info? 118).map (fun i => (i.size, i.bytes, i.zero)) = some (1, 16, some (.nilIface)) := by kernel_rfl
theorem tyf119 : TD.fits Try.prog 119 (.other) := trivial
theorem tyi119 : (Try.prog.info? 119).map (fun i => (i.size, i.bytes, i.zero)) = some (1, 16, some (.nilIface)) := by kernel_rfl
theorem tyf121 : TD.fits Try.prog 121 (.other) := trivial
theorem tyi121 : (Try.prog.info? 121).map (fun i => (i.size, i.bytes, i.zero)) = some (1, 8, some (.nilFunc)) := by kernel_rfl
theorem tyf123 : TD.fits Try.prog 123 (.other) := trivial
theorem tyi123 : (Try.prog.info? 123).map (fun i => (i.size, i.bytes, i.zero)) = some (1, 8, some (.nilFunc)) := by kernel_rfl
theorem tyf125 : TD.fits Try.prog 125 (.other) := trivial
theorem tyi125 : (Try.prog.info? 125).map (fun i => (i.size, i.bytes, i.zero)) = some (1, 8, some (.nilFunc)) := by kernel_rfl
theorem tyf126 : TD.fits Try.prog 126 (.other) := trivial
theorem tyi126 : (Try.prog.info? 126).map (fun i => (i.size, i.bytes, i.zero)) = some (1, 8, some (.nilFunc)) := by kernel_rfl
theorem tyf127 : TD.fits Try.prog 127 (.other) := trivial
theorem tyi127 : (Try.prog.info? 127).map (fun i => (i.size, i.bytes, i.zero)) = some (1, 8, some (.nilFunc)) := by kernel_rfl
theorem tyf128 : TD.fits Try.prog 128 (.other) := trivial
theorem tyi128 : (Try.prog.info? 128).map (fun i => (i.size, i.bytes, i.zero)) = some (1, 8, some (.nilFunc)) := by kernel_rfl
theorem tyf129 : TD.fits Try.prog 129 (.other) := trivial
theorem tyi129 : (Try.prog.info? 129).map (fun i => (i.size, i.bytes, i.zero)) = some (1, 8, some (.nilFunc)) := by kernel_rfl
theorem tyf130 : Try.prog.underlying 130 = some (.pointer 5) := by kernel_rfl
theorem tyi130 : (Try.prog.info? 130).map (fun i => (i.size, i.bytes, i.zero)) = some (1, 8, some (.pointer none)) := by kernel_rfl
theorem tyf131 : structOf Try.prog 131 = some [(9, 0, some 1), (9, 1, some 1), (9, 2, some 1)] := by kernel_rfl
theorem tyi131 : (Try.prog.info? 131).map (fun i => (i.size, i.bytes, i.zero)) = some (3, 48, some (.agg #[.string ⟨#[]⟩, .string ⟨#[]⟩, .string ⟨#[]⟩])) := by kernel_rfl
theorem tyf132 : structOf Try.prog 132 = some [(9, 0, some 1), (9, 1, some 1), (9, 2, some 1)] := by kernel_rfl
theorem tyi132 : (Try.prog.info? 132).map (fun i => (i.size, i.bytes, i.zero)) = some (3, 48, some (.agg #[.string ⟨#[]⟩, .string ⟨#[]⟩, .string ⟨#[]⟩])) := by kernel_rfl
theorem tyf133 : TD.fits Try.prog 133 (.other) := trivial
theorem tyi133 : (Try.prog.info? 133).map (fun i => (i.size, i.bytes, i.zero)) = some (1, 8, some (.nilFunc)) := by kernel_rfl
theorem tyf134 : Try.prog.underlying 134 = some (.pointer 136) := by kernel_rfl
theorem tyi134 : (Try.prog.info? 134).map (fun i => (i.size, i.bytes, i.zero)) = some (1, 8, some (.pointer none)) := by kernel_rfl
theorem tyf135 : structOf Try.prog 135 = some [(9, 0, some 1), (3, 1, some 1), (3, 2, some 1)] := by kernel_rfl
theorem tyi135 : (Try.prog.info? 135).map (fun i => (i.size, i.bytes, i.zero)) = some (3, 32, some (.agg #[.string ⟨#[]⟩, .int .i64 0, .int .i64 0])) := by kernel_rfl
theorem tyf136 : structOf Try.prog 136 = some [(9, 0, some 1), (3, 1, some 1), (3, 2, some 1)] := by kernel_rfl
theorem tyi136 : (Try.prog.info? 136).map (fun i => (i.size, i.bytes, i.zero)) = some (3, 32, some (.agg #[.string ⟨#[]⟩, .int .i64 0, .int .i64 0])) := by kernel_rfl
theorem tyf137 : TD.fits Try.prog 137 (.other) := trivial
theorem tyi137 : (Try.prog.info? 137).map (fun i => (i.size, i.bytes, i.zero)) = some (1, 8, some (.nilFunc)) := by kernel_rfl
theorem tyf139 : TD.fits Try.prog 139 (.other) := trivial
theorem tyi139 : (Try.prog.info? 139).map (fun i => (i.size, i.bytes, i.zero)) = some (1, 8, some (.nilFunc)) := by kernel_rfl
theorem tyf140 : TD.fits Try.prog 140 (.other) := trivial
theorem tyi140 : (Try.prog.info? 140).map (fun i => (i.size, i.bytes, i.zero)) = some (1, 8, some (.nilFunc)) := by kernel_rfl
theorem tyf142 : TD.fits Try.prog 142 (.other) := trivial
theorem tyi142 : (Try.prog.info? 142).map (fun i => (i.size, i.bytes, i.zero)) = some (1, 8, some (.nilFunc)) := by kernel_rfl
theorem tyf143 : TD.fits Try.prog 143 (.other) := trivial
theorem tyi143 : (Try.prog.info? 143).map (fun i => (i.size, i.bytes, i.zero)) = some (1, 8, some (.nilFunc)) := by kernel_rfl
theorem tyf149 : Try.prog.underlying 149 = some (.int .u32) := by kernel_rfl
theorem tyi149 : (Try.prog.info? 149).map (fun i => (i.size, i.bytes, i.zero)) = some (1, 4, some (.int .u32 0)) := by kernel_rfl
theorem tyf152 : TD.fits Try.prog 152 (.other) := trivial
theorem tyi152 : (Try.prog.info? 152).map (fun i => (i.size, i.bytes, i.zero)) = some (1, 8, some (.nilFunc)) := by kernel_rfl
theorem tyOk : allOk Try.prog tyTab :=
  ⟨tyf1, tyi1,
  tyf2, tyi2,
  tyf3, tyi3,
  tyf4, tyi4,
  tyf5, tyi5,
  tyf9, tyi9,
  tyf12, tyi12,
  tyf13, tyi13,
  tyf20, tyi20,
  tyf21, tyi21,
  tyf22, tyi22,
  tyf23, tyi23,
  tyf24, tyi24,
  tyf25, tyi25,
  tyf26, tyi26,
  tyf28, tyi28,
  tyf29, tyi29,
  tyf30, tyi30,
  tyf31, tyi31,
  tyf32, tyi32,
  tyf33, tyi33,
  tyf34, tyi34,
  tyf35, tyi35,
  tyf36, tyi36,
  tyf37, tyi37,
  tyf38, tyi38,
  tyf39, tyi39,
  tyf40, tyi40,
  tyf41, tyi41,
  tyf42, tyi42,
  tyf43, tyi43,
  tyf44, tyi44,
  tyf45, tyi45,
  tyf46, tyi46,
  tyf47, tyi47,
  tyf48, tyi48,
  tyf49, tyi49,
  tyf50, tyi50,
  tyf51, tyi51,
  tyf52, tyi52,
  tyf53, tyi53,
  tyf54, tyi54,
  tyf55, tyi55,
  tyf56, tyi56,
  tyf57, tyi57,
  tyf58, tyi58,
  tyf59, tyi59,
  tyf60, tyi60,
  tyf61, tyi61,
  tyf62, tyi62,
  tyf63, tyi63,
  tyf64, tyi64,
  tyf66, tyi66,
  tyf68, tyi68,
  tyf69, tyi69,
  tyf70, tyi70,
  tyf71, tyi71,
  tyf72, tyi72,
  tyf73, tyi73,
  tyf74, tyi74,
  tyf75, tyi75,
  tyf76, tyi76,
  tyf77, tyi77,
  tyf78, tyi78,
  tyf79, tyi79,
  tyf80, tyi80,
  tyf81, tyi81,
  tyf82, tyi82,
  tyf84, tyi84,
  tyf85, tyi85,
  tyf86, tyi86,
  tyf87, tyi87,
  tyf88, tyi88,
  tyf89, tyi89,
  tyf90, tyi90,
  tyf91, tyi91,
  tyf92, tyi92,
  tyf93, tyi93,
  tyf94, tyi94,
  tyf96, tyi96,
  tyf97, tyi97,
  tyf98, tyi98,
  tyf100, tyi100,
  tyf101, tyi101,
  tyf102, tyi102,
  tyf104, tyi104,
  tyf106, tyi106,
  tyf108, tyi108,
  tyf109, tyi109,
  tyf110, tyi110,
  tyf111, tyi111,
  tyf112, tyi112,
  tyf113, tyi113,
  tyf114, tyi114,
  tyf115, tyi115,
  tyf116, tyi116,
  tyf117, tyi117,
  tyf118, tyi118,
  tyf119, tyi119,
  tyf121, tyi121,
  tyf123, tyi123,
  tyf125, tyi125,
  tyf126, tyi126,
  tyf127, tyi127,
  tyf128, tyi128,
  tyf129, tyi129,
  tyf130, tyi130,
  tyf131, tyi131,
  tyf132, tyi132,
  tyf133, tyi133,
  tyf134, tyi134,
  tyf135, tyi135,
  tyf136, tyi136,
  tyf137, tyi137,
  tyf139, tyi139,
  tyf140, tyi140,
  tyf142, tyi142,
  tyf143, tyi143,
  tyf149, tyi149,
  tyf152, tyi152, trivial⟩
/-- A type's row, by looking. -/
theorem tyy {t : Nat} {d : TD} {sz by_ : Nat} {z : Value} (h : tlook tyTab t = some ⟨d, sz, by_, z⟩) : Ty Try.prog t d sz by_ z := tlook_ok tyOk h
def slB (t : Nat) : Bool := match tlook tyTab t with
  | some ⟨.slice _, _, _, _⟩ => true
  | _ => false
theorem mixedOk : Try.prog.follows .mixedOrders = true := by kernel_rfl
end Go.Proofs.Ytpcfnhjeacahdaa
