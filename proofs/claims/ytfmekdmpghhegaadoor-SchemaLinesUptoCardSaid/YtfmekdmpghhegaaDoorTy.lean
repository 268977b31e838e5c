/- The table of types of this seat's program, printed by tyenv.py. -/
import Derived.Test.YtfmekdmpghhegaaDoorLtC
import Derived.Test.YtfmekdmpghhegaaDoorProg
import Derived.KernelRfl
namespace Go.Proofs.YtfmekdmpghhegaaDoor

set_option linter.all false
def tyTab : List (Nat × TRow) := [(1, ⟨.other, 1, 8, .nilFunc⟩),
  (2, ⟨.int .i64, 1, 8, .int .i64 0⟩),
  (3, ⟨.int .i64, 1, 8, .int .i64 0⟩),
  (4, ⟨.bool, 1, 1, .bool false⟩),
  (5, ⟨.int .u8, 1, 1, .int .u8 0⟩),
  (9, ⟨.str, 1, 16, .string ⟨#[]⟩⟩),
  (12, ⟨.int .u64, 1, 8, .int .u64 0⟩),
  (13, ⟨.struct [(9, 0, 1), (12, 1, 1)], 2, 24, .agg #[.string ⟨#[]⟩, .int .u64 0]⟩),
  (20, ⟨.other, 1, 16, .nilIface⟩),
  (21, ⟨.int .i32, 1, 4, .int .i32 0⟩),
  (22, ⟨.slice 41, 1, 24, .slice none 0 0⟩),
  (23, ⟨.slice 28, 1, 24, .slice none 0 0⟩),
  (24, ⟨.struct [(22, 0, 1), (23, 1, 1)], 2, 48, .agg #[.slice none 0 0, .slice none 0 0]⟩),
  (25, ⟨.struct [(22, 0, 1), (23, 1, 1)], 2, 48, .agg #[.slice none 0 0, .slice none 0 0]⟩),
  (26, ⟨.slice 9, 1, 24, .slice none 0 0⟩),
  (27, ⟨.struct [(9, 0, 1), (9, 1, 1), (3, 2, 1), (26, 3, 1), (26, 4, 1)], 5, 88, .agg #[.string ⟨#[]⟩, .string ⟨#[]⟩, .int .i64 0, .slice none 0 0, .slice none 0 0]⟩),
  (28, ⟨.struct [(9, 0, 1), (9, 1, 1), (3, 2, 1), (26, 3, 1), (26, 4, 1)], 5, 88, .agg #[.string ⟨#[]⟩, .string ⟨#[]⟩, .int .i64 0, .slice none 0 0, .slice none 0 0]⟩),
  (29, ⟨.other, 1, 8, .nilFunc⟩),
  (31, ⟨.other, 1, 8, .nilFunc⟩),
  (32, ⟨.other, 1, 8, .nilFunc⟩),
  (33, ⟨.other, 1, 8, .nilFunc⟩),
  (34, ⟨.other, 1, 8, .nilFunc⟩),
  (36, ⟨.other, 1, 8, .nilFunc⟩),
  (37, ⟨.other, 1, 8, .nilFunc⟩),
  (38, ⟨.int .i64, 1, 8, .int .i64 0⟩),
  (39, ⟨.other, 1, 8, .nilFunc⟩),
  (40, ⟨.struct [(9, 0, 1), (3, 1, 1), (4, 2, 1), (4, 3, 1)], 4, 32, .agg #[.string ⟨#[]⟩, .int .i64 0, .bool false, .bool false]⟩),
  (41, ⟨.struct [(9, 0, 1), (3, 1, 1), (4, 2, 1), (4, 3, 1)], 4, 32, .agg #[.string ⟨#[]⟩, .int .i64 0, .bool false, .bool false]⟩),
  (42, ⟨.other, 1, 8, .nilFunc⟩),
  (43, ⟨.other, 1, 8, .nilFunc⟩),
  (44, ⟨.other, 1, 8, .nilFunc⟩),
  (45, ⟨.other, 1, 8, .nilFunc⟩),
  (47, ⟨.struct [(25, 0, 2)], 2, 48, .agg #[.slice none 0 0, .slice none 0 0]⟩),
  (48, ⟨.struct [(25, 0, 2)], 2, 48, .agg #[.slice none 0 0, .slice none 0 0]⟩),
  (49, ⟨.other, 1, 8, .nilFunc⟩),
  (50, ⟨.other, 1, 8, .nilFunc⟩),
  (51, ⟨.other, 1, 8, .nilFunc⟩),
  (52, ⟨.map 9 4, 1, 8, .map none⟩),
  (53, ⟨.other, 1, 8, .nilFunc⟩),
  (54, ⟨.other, 1, 8, .nilFunc⟩),
  (56, ⟨.other, 1, 8, .nilFunc⟩),
  (57, ⟨.other, 1, 8, .nilFunc⟩),
  (58, ⟨.other, 1, 8, .nilFunc⟩),
  (59, ⟨.other, 1, 8, .nilFunc⟩),
  (60, ⟨.slice 5, 1, 24, .slice none 0 0⟩),
  (61, ⟨.other, 1, 8, .nilFunc⟩),
  (62, ⟨.other, 1, 8, .nilFunc⟩),
  (63, ⟨.other, 1, 8, .nilFunc⟩),
  (64, ⟨.other, 1, 8, .nilFunc⟩),
  (65, ⟨.other, 1, 8, .nilFunc⟩),
  (66, ⟨.other, 1, 8, .nilFunc⟩),
  (67, ⟨.other, 1, 8, .nilFunc⟩),
  (68, ⟨.other, 1, 8, .nilFunc⟩),
  (69, ⟨.other, 1, 8, .nilFunc⟩),
  (70, ⟨.other, 1, 8, .nilFunc⟩),
  (71, ⟨.other, 1, 8, .nilFunc⟩),
  (72, ⟨.ptr 74, 1, 8, .pointer none⟩),
  (73, ⟨.struct [(72, 0, 1), (60, 1, 1)], 2, 32, .agg #[.pointer none, .slice none 0 0]⟩),
  (74, ⟨.struct [(72, 0, 1), (60, 1, 1)], 2, 32, .agg #[.pointer none, .slice none 0 0]⟩),
  (75, ⟨.other, 1, 8, .nilFunc⟩),
  (76, ⟨.other, 1, 16, .nilIface⟩),
  (77, ⟨.other, 1, 16, .nilIface⟩),
  (79, ⟨.other, 1, 8, .nilFunc⟩),
  (80, ⟨.other, 1, 8, .nilFunc⟩),
  (81, ⟨.other, 1, 8, .nilFunc⟩),
  (82, ⟨.other, 1, 8, .nilFunc⟩),
  (83, ⟨.int .u64, 1, 8, .int .u64 0⟩),
  (84, ⟨.slice 26, 1, 24, .slice none 0 0⟩),
  (85, ⟨.other, 1, 8, .nilFunc⟩),
  (86, ⟨.array 24 5, 24, 24, .agg #[.int .u8 0, .int .u8 0, .int .u8 0, .int .u8 0, .int .u8 0, .int .u8 0, .int .u8 0, .int .u8 0, .int .u8 0, .int .u8 0, .int .u8 0, .int .u8 0, .int .u8 0, .int .u8 0, .int .u8 0, .int .u8 0, .int .u8 0, .int .u8 0, .int .u8 0, .int .u8 0, .int .u8 0, .int .u8 0, .int .u8 0, .int .u8 0]⟩),
  (87, ⟨.int .u64, 1, 8, .int .u64 0⟩),
  (88, ⟨.other, 1, 8, .nilFunc⟩),
  (89, ⟨.other, 1, 8, .nilFunc⟩),
  (91, ⟨.other, 1, 8, .nilFunc⟩),
  (92, ⟨.ptr 5, 1, 8, .pointer none⟩),
  (93, ⟨.other, 1, 8, .nilFunc⟩),
  (94, ⟨.int .i64, 1, 8, .int .i64 0⟩),
  (96, ⟨.other, 1, 8, .nilFunc⟩),
  (97, ⟨.other, 1, 8, .nilFunc⟩),
  (98, ⟨.other, 1, 8, .nilFunc⟩),
  (100, ⟨.other, 1, 8, .nilFunc⟩),
  (101, ⟨.other, 1, 8, .nilFunc⟩),
  (102, ⟨.int .u32, 1, 4, .int .u32 0⟩),
  (103, ⟨.other, 1, 8, .nilFunc⟩),
  (104, ⟨.other, 1, 8, .nilFunc⟩),
  (105, ⟨.array 20 87, 20, 160, .agg #[.int .u64 0, .int .u64 0, .int .u64 0, .int .u64 0, .int .u64 0, .int .u64 0, .int .u64 0, .int .u64 0, .int .u64 0, .int .u64 0, .int .u64 0, .int .u64 0, .int .u64 0, .int .u64 0, .int .u64 0, .int .u64 0, .int .u64 0, .int .u64 0, .int .u64 0, .int .u64 0]⟩),
  (106, ⟨.array 65 5, 65, 65, .agg #[.int .u8 0, .int .u8 0, .int .u8 0, .int .u8 0, .int .u8 0, .int .u8 0, .int .u8 0, .int .u8 0, .int .u8 0, .int .u8 0, .int .u8 0, .int .u8 0, .int .u8 0, .int .u8 0, .int .u8 0, .int .u8 0, .int .u8 0, .int .u8 0, .int .u8 0, .int .u8 0, .int .u8 0, .int .u8 0, .int .u8 0, .int .u8 0, .int .u8 0, .int .u8 0, .int .u8 0, .int .u8 0, .int .u8 0, .int .u8 0, .int .u8 0, .int .u8 0, .int .u8 0, .int .u8 0, .int .u8 0, .int .u8 0, .int .u8 0, .int .u8 0, .int .u8 0, .int .u8 0, .int .u8 0, .int .u8 0, .int .u8 0, .int .u8 0, .int .u8 0, .int .u8 0, .int .u8 0, .int .u8 0, .int .u8 0, .int .u8 0, .int .u8 0, .int .u8 0, .int .u8 0, .int .u8 0, .int .u8 0, .int .u8 0, .int .u8 0, .int .u8 0, .int .u8 0, .int .u8 0, .int .u8 0, .int .u8 0, .int .u8 0, .int .u8 0, .int .u8 0]⟩),
  (107, ⟨.other, 1, 8, .nilFunc⟩),
  (109, ⟨.other, 1, 8, .nilFunc⟩),
  (110, ⟨.other, 1, 8, .nilFunc⟩),
  (111, ⟨.int .u64, 1, 8, .int .u64 0⟩),
  (112, ⟨.other, 1, 8, .nilFunc⟩),
  (113, ⟨.other, 1, 8, .nilFunc⟩),
  (114, ⟨.other, 1, 8, .nilFunc⟩),
  (115, ⟨.ptr 3, 1, 8, .pointer none⟩),
  (116, ⟨.other, 1, 8, .nilFunc⟩),
  (117, ⟨.ptr 111, 1, 8, .pointer none⟩),
  (119, ⟨.other, 1, 8, .nilFunc⟩),
  (120, ⟨.array 32 5, 32, 32, .agg #[.int .u8 0, .int .u8 0, .int .u8 0, .int .u8 0, .int .u8 0, .int .u8 0, .int .u8 0, .int .u8 0, .int .u8 0, .int .u8 0, .int .u8 0, .int .u8 0, .int .u8 0, .int .u8 0, .int .u8 0, .int .u8 0, .int .u8 0, .int .u8 0, .int .u8 0, .int .u8 0, .int .u8 0, .int .u8 0, .int .u8 0, .int .u8 0, .int .u8 0, .int .u8 0, .int .u8 0, .int .u8 0, .int .u8 0, .int .u8 0, .int .u8 0, .int .u8 0]⟩),
  (121, ⟨.array 64 5, 64, 64, .agg #[.int .u8 0, .int .u8 0, .int .u8 0, .int .u8 0, .int .u8 0, .int .u8 0, .int .u8 0, .int .u8 0, .int .u8 0, .int .u8 0, .int .u8 0, .int .u8 0, .int .u8 0, .int .u8 0, .int .u8 0, .int .u8 0, .int .u8 0, .int .u8 0, .int .u8 0, .int .u8 0, .int .u8 0, .int .u8 0, .int .u8 0, .int .u8 0, .int .u8 0, .int .u8 0, .int .u8 0, .int .u8 0, .int .u8 0, .int .u8 0, .int .u8 0, .int .u8 0, .int .u8 0, .int .u8 0, .int .u8 0, .int .u8 0, .int .u8 0, .int .u8 0, .int .u8 0, .int .u8 0, .int .u8 0, .int .u8 0, .int .u8 0, .int .u8 0, .int .u8 0, .int .u8 0, .int .u8 0, .int .u8 0, .int .u8 0, .int .u8 0, .int .u8 0, .int .u8 0, .int .u8 0, .int .u8 0, .int .u8 0, .int .u8 0, .int .u8 0, .int .u8 0, .int .u8 0, .int .u8 0, .int .u8 0, .int .u8 0, .int .u8 0, .int .u8 0]⟩),
  (127, ⟨.other, 1, 8, .nilFunc⟩),
  (130, ⟨.other, 1, 8, .nilFunc⟩)]
theorem tyf1 : TD.fits Tryd.prog 1 (.other) := trivial
theorem tyi1 : (Tryd.prog.info? 1).map (fun i => (i.size, i.bytes, i.zero)) = some (1, 8, some (.nilFunc)) := by kernel_rfl
theorem tyf2 : Tryd.prog.underlying 2 = some (.int .i64) := by kernel_rfl
theorem tyi2 : (Tryd.prog.info? 2).map (fun i => (i.size, i.bytes, i.zero)) = some (1, 8, some (.int .i64 0)) := by kernel_rfl
theorem tyf3 : Tryd.prog.underlying 3 = some (.int .i64) := by kernel_rfl
theorem tyi3 : (Tryd.prog.info? 3).map (fun i => (i.size, i.bytes, i.zero)) = some (1, 8, some (.int .i64 0)) := by kernel_rfl
theorem tyf4 : Tryd.prog.underlying 4 = some .bool := by kernel_rfl
theorem tyi4 : (Tryd.prog.info? 4).map (fun i => (i.size, i.bytes, i.zero)) = some (1, 1, some (.bool false)) := by kernel_rfl
theorem tyf5 : Tryd.prog.underlying 5 = some (.int .u8) := by kernel_rfl
theorem tyi5 : (Tryd.prog.info? 5).map (fun i => (i.size, i.bytes, i.zero)) = some (1, 1, some (.int .u8 0)) := by kernel_rfl
theorem tyf9 : Tryd.prog.underlying 9 = some .string := by kernel_rfl
theorem tyi9 : (Tryd.prog.info? 9).map (fun i => (i.size, i.bytes, i.zero)) = some (1, 16, some (.string ⟨#[]⟩)) := by kernel_rfl
theorem tyf12 : Tryd.prog.underlying 12 = some (.int .u64) := by kernel_rfl
theorem tyi12 : (Tryd.prog.info? 12).map (fun i => (i.size, i.bytes, i.zero)) = some (1, 8, some (.int .u64 0)) := by kernel_rfl
theorem tyf13 : structOf Tryd.prog 13 = some [(9, 0, some 1), (12, 1, some 1)] := by kernel_rfl
theorem tyi13 : (Tryd.prog.info? 13).map (fun i => (i.size, i.bytes, i.zero)) = some (2, 24, some (.agg #[.string ⟨#[]⟩, .int .u64 0])) := by kernel_rfl
theorem tyf20 : TD.fits Tryd.prog 20 (.other) := trivial
theorem tyi20 : (Tryd.prog.info? 20).map (fun i => (i.size, i.bytes, i.zero)) = some (1, 16, some (.nilIface)) := by kernel_rfl
theorem tyf21 : Tryd.prog.underlying 21 = some (.int .i32) := by kernel_rfl
theorem tyi21 : (Tryd.prog.info? 21).map (fun i => (i.size, i.bytes, i.zero)) = some (1, 4, some (.int .i32 0)) := by kernel_rfl
theorem tyf22 : Tryd.prog.underlying 22 = some (.slice 41) := by kernel_rfl
theorem tyi22 : (Tryd.prog.info? 22).map (fun i => (i.size, i.bytes, i.zero)) = some (1, 24, some (.slice none 0 0)) := by kernel_rfl
theorem tyf23 : Tryd.prog.underlying 23 = some (.slice 28) := by kernel_rfl
theorem tyi23 : (Tryd.prog.info? 23).map (fun i => (i.size, i.bytes, i.zero)) = some (1, 24, some (.slice none 0 0)) := by kernel_rfl
theorem tyf24 : structOf Tryd.prog 24 = some [(22, 0, some 1), (23, 1, some 1)] := by kernel_rfl
theorem tyi24 : (Tryd.prog.info? 24).map (fun i => (i.size, i.bytes, i.zero)) = some (2, 48, some (.agg #[.slice none 0 0, .slice none 0 0])) := by kernel_rfl
theorem tyf25 : structOf Tryd.prog 25 = some [(22, 0, some 1), (23, 1, some 1)] := by kernel_rfl
theorem tyi25 : (Tryd.prog.info? 25).map (fun i => (i.size, i.bytes, i.zero)) = some (2, 48, some (.agg #[.slice none 0 0, .slice none 0 0])) := by kernel_rfl
theorem tyf26 : Tryd.prog.underlying 26 = some (.slice 9) := by kernel_rfl
theorem tyi26 : (Tryd.prog.info? 26).map (fun i => (i.size, i.bytes, i.zero)) = some (1, 24, some (.slice none 0 0)) := by kernel_rfl
theorem tyf27 : structOf Tryd.prog 27 = some [(9, 0, some 1), (9, 1, some 1), (3, 2, some 1), (26, 3, some 1), (26, 4, some 1)] := by kernel_rfl
theorem tyi27 : (Tryd.prog.info? 27).map (fun i => (i.size, i.bytes, i.zero)) = some (5, 88, some (.agg #[.string ⟨#[]⟩, .string ⟨#[]⟩, .int .i64 0, .slice none 0 0, .slice none 0 0])) := by kernel_rfl
theorem tyf28 : structOf Tryd.prog 28 = some [(9, 0, some 1), (9, 1, some 1), (3, 2, some 1), (26, 3, some 1), (26, 4, some 1)] := by kernel_rfl
theorem tyi28 : (Tryd.prog.info? 28).map (fun i => (i.size, i.bytes, i.zero)) = some (5, 88, some (.agg #[.string ⟨#[]⟩, .string ⟨#[]⟩, .int .i64 0, .slice none 0 0, .slice none 0 0])) := by kernel_rfl
theorem tyf29 : TD.fits Tryd.prog 29 (.other) := trivial
theorem tyi29 : (Tryd.prog.info? 29).map (fun i => (i.size, i.bytes, i.zero)) = some (1, 8, some (.nilFunc)) := by kernel_rfl
theorem tyf31 : TD.fits Tryd.prog 31 (.other) := trivial
theorem tyi31 : (Tryd.prog.info? 31).map (fun i => (i.size, i.bytes, i.zero)) = some (1, 8, some (.nilFunc)) := by kernel_rfl
theorem tyf32 : TD.fits Tryd.prog 32 (.other) := trivial
theorem tyi32 : (Tryd.prog.info? 32).map (fun i => (i.size, i.bytes, i.zero)) = some (1, 8, some (.nilFunc)) := by kernel_rfl
theorem tyf33 : TD.fits Tryd.prog 33 (.other) := trivial
theorem tyi33 : (Tryd.prog.info? 33).map (fun i => (i.size, i.bytes, i.zero)) = some (1, 8, some (.nilFunc)) := by kernel_rfl
theorem tyf34 : TD.fits Tryd.prog 34 (.other) := trivial
theorem tyi34 : (Tryd.prog.info? 34).map (fun i => (i.size, i.bytes, i.zero)) = some (1, 8, some (.nilFunc)) := by kernel_rfl
theorem tyf36 : TD.fits Tryd.prog 36 (.other) := trivial
theorem tyi36 : (Tryd.prog.info? 36).map (fun i => (i.size, i.bytes, i.zero)) = some (1, 8, some (.nilFunc)) := by kernel_rfl
theorem tyf37 : TD.fits Tryd.prog 37 (.other) := trivial
theorem tyi37 : (Tryd.prog.info? 37).map (fun i => (i.size, i.bytes, i.zero)) = some (1, 8, some (.nilFunc)) := by kernel_rfl
theorem tyf38 : Tryd.prog.underlying 38 = some (.int .i64) := by kernel_rfl
theorem tyi38 : (Tryd.prog.info? 38).map (fun i => (i.size, i.bytes, i.zero)) = some (1, 8, some (.int .i64 0)) := by kernel_rfl
theorem tyf39 : TD.fits Tryd.prog 39 (.other) := trivial
theorem tyi39 : (Tryd.prog.info? 39).map (fun i => (i.size, i.bytes, i.zero)) = some (1, 8, some (.nilFunc)) := by kernel_rfl
theorem tyf40 : structOf Tryd.prog 40 = some [(9, 0, some 1), (3, 1, some 1), (4, 2, some 1), (4, 3, some 1)] := by kernel_rfl
theorem tyi40 : (Tryd.prog.info? 40).map (fun i => (i.size, i.bytes, i.zero)) = some (4, 32, some (.agg #[.string ⟨#[]⟩, .int .i64 0, .bool false, .bool false])) := by kernel_rfl
theorem tyf41 : structOf Tryd.prog 41 = some [(9, 0, some 1), (3, 1, some 1), (4, 2, some 1), (4, 3, some 1)] := by kernel_rfl
theorem tyi41 : (Tryd.prog.info? 41).map (fun i => (i.size, i.bytes, i.zero)) = some (4, 32, some (.agg #[.string ⟨#[]⟩, .int .i64 0, .bool false, .bool false])) := by kernel_rfl
theorem tyf42 : TD.fits Tryd.prog 42 (.other) := trivial
theorem tyi42 : (Tryd.prog.info? 42).map (fun i => (i.size, i.bytes, i.zero)) = some (1, 8, some (.nilFunc)) := by kernel_rfl
theorem tyf43 : TD.fits Tryd.prog 43 (.other) := trivial
theorem tyi43 : (Tryd.prog.info? 43).map (fun i => (i.size, i.bytes, i.zero)) = some (1, 8, some (.nilFunc)) := by kernel_rfl
theorem tyf44 : TD.fits Tryd.prog 44 (.other) := trivial
theorem tyi44 : (Tryd.prog.info? 44).map (fun i => (i.size, i.bytes, i.zero)) = some (1, 8, some (.nilFunc)) := by kernel_rfl
theorem tyf45 : TD.fits Tryd.prog 45 (.other) := trivial
theorem tyi45 : (Tryd.prog.info? 45).map (fun i => (i.size, i.bytes, i.zero)) = some (1, 8, some (.nilFunc)) := by kernel_rfl
theorem tyf47 : structOf Tryd.prog 47 = some [(25, 0, some 2)] := by kernel_rfl
theorem tyi47 : (Tryd.prog.info? 47).map (fun i => (i.size, i.bytes, i.zero)) = some (2, 48, some (.agg #[.slice none 0 0, .slice none 0 0])) := by kernel_rfl
theorem tyf48 : structOf Tryd.prog 48 = some [(25, 0, some 2)] := by kernel_rfl
theorem tyi48 : (Tryd.prog.info? 48).map (fun i => (i.size, i.bytes, i.zero)) = some (2, 48, some (.agg #[.slice none 0 0, .slice none 0 0])) := by kernel_rfl
theorem tyf49 : TD.fits Tryd.prog 49 (.other) := trivial
theorem tyi49 : (Tryd.prog.info? 49).map (fun i => (i.size, i.bytes, i.zero)) = some (1, 8, some (.nilFunc)) := by kernel_rfl
theorem tyf50 : TD.fits Tryd.prog 50 (.other) := trivial
theorem tyi50 : (Tryd.prog.info? 50).map (fun i => (i.size, i.bytes, i.zero)) = some (1, 8, some (.nilFunc)) := by kernel_rfl
theorem tyf51 : TD.fits Tryd.prog 51 (.other) := trivial
theorem tyi51 : (Tryd.prog.info? 51).map (fun i => (i.size, i.bytes, i.zero)) = some (1, 8, some (.nilFunc)) := by kernel_rfl
theorem tyf52 : Tryd.prog.underlying 52 = some (.map 9 4) := by kernel_rfl
theorem tyi52 : (Tryd.prog.info? 52).map (fun i => (i.size, i.bytes, i.zero)) = some (1, 8, some (.map none)) := by kernel_rfl
theorem tyf53 : TD.fits Tryd.prog 53 (.other) := trivial
theorem tyi53 : (Tryd.prog.info? 53).map (fun i => (i.size, i.bytes, i.zero)) = some (1, 8, some (.nilFunc)) := by kernel_rfl
theorem tyf54 : TD.fits Tryd.prog 54 (.other) := trivial
theorem tyi54 : (Tryd.prog.info? 54).map (fun i => (i.size, i.bytes, i.zero)) = some (1, 8, some (.nilFunc)) := by kernel_rfl
theorem tyf56 : TD.fits Tryd.prog 56 (.other) := trivial
theorem tyi56 : (Tryd.prog.info? 56).map (fun i => (i.size, i.bytes, i.zero)) = some (1, 8, some (.nilFunc)) := by kernel_rfl
theorem tyf57 : TD.fits Tryd.prog 57 (.other) := trivial
theorem tyi57 : (Tryd.prog.info? 57).map (fun i => (i.size, i.bytes, i.zero)) = some (1, 8, some (.nilFunc)) := by kernel_rfl
theorem tyf58 : TD.fits Tryd.prog 58 (.other) := trivial
theorem tyi58 : (Tryd.prog.info? 58).map (fun i => (i.size, i.bytes, i.zero)) = some (1, 8, some (.nilFunc)) := by kernel_rfl
theorem tyf59 : TD.fits Tryd.prog 59 (.other) := trivial
theorem tyi59 : (Tryd.prog.info? 59).map (fun i => (i.size, i.bytes, i.zero)) = some (1, 8, some (.nilFunc)) := by kernel_rfl
theorem tyf60 : Tryd.prog.underlying 60 = some (.slice 5) := by kernel_rfl
theorem tyi60 : (Tryd.prog.info? 60).map (fun i => (i.size, i.bytes, i.zero)) = some (1, 24, some (.slice none 0 0)) := by kernel_rfl
theorem tyf61 : TD.fits Tryd.prog 61 (.other) := trivial
theorem tyi61 : (Tryd.prog.info? 61).map (fun i => (i.size, i.bytes, i.zero)) = some (1, 8, some (.nilFunc)) := by kernel_rfl
theorem tyf62 : TD.fits Tryd.prog 62 (.other) := trivial
theorem tyi62 : (Tryd.prog.info? 62).map (fun i => (i.size, i.bytes, i.zero)) = some (1, 8, some (.nilFunc)) := by kernel_rfl
theorem tyf63 : TD.fits Tryd.prog 63 (.other) := trivial
theorem tyi63 : (Tryd.prog.info? 63).map (fun i => (i.size, i.bytes, i.zero)) = some (1, 8, some (.nilFunc)) := by kernel_rfl
theorem tyf64 : TD.fits Tryd.prog 64 (.other) := trivial
theorem tyi64 : (Tryd.prog.info? 64).map (fun i => (i.size, i.bytes, i.zero)) = some (1, 8, some (.nilFunc)) := by kernel_rfl
theorem tyf65 : TD.fits Tryd.prog 65 (.other) := trivial
theorem tyi65 : (Tryd.prog.info? 65).map (fun i => (i.size, i.bytes, i.zero)) = some (1, 8, some (.nilFunc)) := by kernel_rfl
theorem tyf66 : TD.fits Tryd.prog 66 (.other) := trivial
theorem tyi66 : (Tryd.prog.info? 66).map (fun i => (i.size, i.bytes, i.zero)) = some (1, 8, some (.nilFunc)) := by kernel_rfl
theorem tyf67 : TD.fits Tryd.prog 67 (.other) := trivial
theorem tyi67 : (Tryd.prog.info? 67).map (fun i => (i.size, i.bytes, i.zero)) = some (1, 8, some (.nilFunc)) := by kernel_rfl
theorem tyf68 : TD.fits Tryd.prog 68 (.other) := trivial
theorem tyi68 : (Tryd.prog.info? 68).map (fun i => (i.size, i.bytes, i.zero)) = some (1, 8, some (.nilFunc)) := by kernel_rfl
theorem tyf69 : TD.fits Tryd.prog 69 (.other) := trivial
theorem tyi69 : (Tryd.prog.info? 69).map (fun i => (i.size, i.bytes, i.zero)) = some (1, 8, some (.nilFunc)) := by kernel_rfl
theorem tyf70 : TD.fits Tryd.prog 70 (.other) := trivial
theorem tyi70 : (Tryd.prog.info? 70).map (fun i => (i.size, i.bytes, i.zero)) = some (1, 8, some (.nilFunc)) := by kernel_rfl
theorem tyf71 : TD.fits Tryd.prog 71 (.other) := trivial
theorem tyi71 : (Tryd.prog.info? 71).map (fun i => (i.size, i.bytes, i.zero)) = some (1, 8, some (.nilFunc)) := by kernel_rfl
theorem tyf72 : Tryd.prog.underlying 72 = some (.pointer 74) := by kernel_rfl
theorem tyi72 : (Tryd.prog.info? 72).map (fun i => (i.size, i.bytes, i.zero)) = some (1, 8, some (.pointer none)) := by kernel_rfl
theorem tyf73 : structOf Tryd.prog 73 = some [(72, 0, some 1), (60, 1, some 1)] := by kernel_rfl
theorem tyi73 : (Tryd.prog.info? 73).map (fun i => (i.size, i.bytes, i.zero)) = some (2, 32, some (.agg #[.pointer none, .slice none 0 0])) := by kernel_rfl
theorem tyf74 : structOf Tryd.prog 74 = some [(72, 0, some 1), (60, 1, some 1)] := by kernel_rfl
theorem tyi74 : (Tryd.prog.info? 74).map (fun i => (i.size, i.bytes, i.zero)) = some (2, 32, some (.agg #[.pointer none, .slice none 0 0])) := by kernel_rfl
theorem tyf75 : TD.fits Tryd.prog 75 (.other) := trivial
theorem tyi75 : (Tryd.prog.info? 75).map (fun i => (i.size, i.bytes, i.zero)) = some (1, 8, some (.nilFunc)) := by kernel_rfl
theorem tyf76 : TD.fits Tryd.prog 76 (.other) := trivial
theorem tyi76 : (Tryd.prog.info? 76).map (fun i => (i.size, i.bytes, i.zero)) = some (1, 16, some (.nilIface)) := by kernel_rfl
theorem tyf77 : TD.fits Tryd.prog 77 (.other) := trivial
theorem tyi77 : (Tryd.prog.info? 77).map (fun i => (i.size, i.bytes, i.zero)) = some (1, 16, some (.nilIface)) := by kernel_rfl
theorem tyf79 : TD.fits Tryd.prog 79 (.other) := trivial
theorem tyi79 : (Tryd.prog.info? 79).map (fun i => (i.size, i.bytes, i.zero)) = some (1, 8, some (.nilFunc)) := by kernel_rfl
theorem tyf80 : TD.fits Tryd.prog 80 (.other) := trivial
theorem tyi80 : (Tryd.prog.info? 80).map (fun i => (i.size, i.bytes, i.zero)) = some (1, 8, some (.nilFunc)) := by kernel_rfl
theorem tyf81 : TD.fits Tryd.prog 81 (.other) := trivial
theorem tyi81 : (Tryd.prog.info? 81).map (fun i => (i.size, i.bytes, i.zero)) = some (1, 8, some (.nilFunc)) := by kernel_rfl
theorem tyf82 : TD.fits Tryd.prog 82 (.other) := trivial
theorem tyi82 : (Tryd.prog.info? 82).map (fun i => (i.size, i.bytes, i.zero)) = some (1, 8, some (.nilFunc)) := by kernel_rfl
theorem tyf83 : Tryd.prog.underlying 83 = some (.int .u64) := by kernel_rfl
theorem tyi83 : (Tryd.prog.info? 83).map (fun i => (i.size, i.bytes, i.zero)) = some (1, 8, some (.int .u64 0)) := by kernel_rfl
theorem tyf84 : Tryd.prog.underlying 84 = some (.slice 26) := by kernel_rfl
theorem tyi84 : (Tryd.prog.info? 84).map (fun i => (i.size, i.bytes, i.zero)) = some (1, 24, some (.slice none 0 0)) := by kernel_rfl
theorem tyf85 : TD.fits Tryd.prog 85 (.other) := trivial
theorem tyi85 : (Tryd.prog.info? 85).map (fun i => (i.size, i.bytes, i.zero)) = some (1, 8, some (.nilFunc)) := by kernel_rfl
theorem tyf86 : Tryd.prog.underlying 86 = some (.array 24 5) := by kernel_rfl
theorem tyi86 : (Tryd.prog.info? 86).map (fun i => (i.size, i.bytes, i.zero)) = some (24, 24, some (.agg #[.int .u8 0, .int .u8 0, .int .u8 0, .int .u8 0, .int .u8 0, .int .u8 0, .int .u8 0, .int .u8 0, .int .u8 0, .int .u8 0, .int .u8 0, .int .u8 0, .int .u8 0, .int .u8 0, .int .u8 0, .int .u8 0, .int .u8 0, .int .u8 0, .int .u8 0, .int .u8 0, .int .u8 0, .int .u8 0, .int .u8 0, .int .u8 0])) := by kernel_rfl
theorem tyf87 : Tryd.prog.underlying 87 = some (.int .u64) := by kernel_rfl
theorem tyi87 : (Tryd.prog.info? 87).map (fun i => (i.size, i.bytes, i.zero)) = some (1, 8, some (.int .u64 0)) := by kernel_rfl
theorem tyf88 : TD.fits Tryd.prog 88 (.other) := trivial
theorem tyi88 : (Tryd.prog.info? 88).map (fun i => (i.size, i.bytes, i.zero)) = some (1, 8, some (.nilFunc)) := by kernel_rfl
theorem tyf89 : TD.fits Tryd.prog 89 (.other) := trivial
theorem tyi89 : (Tryd.prog.info? 89).map (fun i => (i.size, i.bytes, i.zero)) = some (1, 8, some (.nilFunc)) := by kernel_rfl
theorem tyf91 : TD.fits Tryd.prog 91 (.other) := trivial
theorem tyi91 : (Tryd.prog.info? 91).map (fun i => (i.size, i.bytes, i.zero)) = some (1, 8, some (.nilFunc)) := by kernel_rfl
theorem tyf92 : Tryd.prog.underlying 92 = some (.pointer 5) := by kernel_rfl
theorem tyi92 : (Tryd.prog.info? 92).map (fun i => (i.size, i.bytes, i.zero)) = some (1, 8, some (.pointer none)) := by kernel_rfl
theorem tyf93 : TD.fits Tryd.prog 93 (.other) := trivial
theorem tyi93 : (Tryd.prog.info? 93).map (fun i => (i.size, i.bytes, i.zero)) = some (1, 8, some (.nilFunc)) := by kernel_rfl
theorem tyf94 : Tryd.prog.underlying 94 = some (.int .i64) := by kernel_rfl
theorem tyi94 : (Tryd.prog.info? 94).map (fun i => (i.size, i.bytes, i.zero)) = some (1, 8, some (.int .i64 0)) := by kernel_rfl
theorem tyf96 : TD.fits Tryd.prog 96 (.other) := trivial
theorem tyi96 : (Tryd.prog.info? 96).map (fun i => (i.size, i.bytes, i.zero)) = some (1, 8, some (.nilFunc)) := by kernel_rfl
theorem tyf97 : TD.fits Tryd.prog 97 (.other) := trivial
theorem tyi97 : (Tryd.prog.info? 97).map (fun i => (i.size, i.bytes, i.zero)) = some (1, 8, some (.nilFunc)) := by kernel_rfl
theorem tyf98 : TD.fits Tryd.prog 98 (.other) := trivial
theorem tyi98 : (Tryd.prog.info? 98).map (fun i => (i.size, i.bytes, i.zero)) = some (1, 8, some (.nilFunc)) := by kernel_rfl
theorem tyf100 : TD.fits Tryd.prog 100 (.other) := trivial
theorem tyi100 : (Tryd.prog.info? 100).map (fun i => (i.size, i.bytes, i.zero)) = some (1, 8, some (.nilFunc)) := by kernel_rfl
theorem tyf101 : TD.fits Tryd.prog 101 (.other) := trivial
theorem tyi101 : (Tryd.prog.info? 101).map (fun i => (i.size, i.bytes, i.zero)) = some (1, 8, some (.nilFunc)) := by kernel_rfl
theorem tyf102 : Tryd.prog.underlying 102 = some (.int .u32) := by kernel_rfl
theorem tyi102 : (Tryd.prog.info? 102).map (fun i => (i.size, i.bytes, i.zero)) = some (1, 4, some (.int .u32 0)) := by kernel_rfl
theorem tyf103 : TD.fits Tryd.prog 103 (.other) := trivial
theorem tyi103 : (Tryd.prog.info? 103).map (fun i => (i.size, i.bytes, i.zero)) = some (1, 8, some (.nilFunc)) := by kernel_rfl
theorem tyf104 : TD.fits Tryd.prog 104 (.other) := trivial
theorem tyi104 : (Tryd.prog.info? 104).map (fun i => (i.size, i.bytes, i.zero)) = some (1, 8, some (.nilFunc)) := by kernel_rfl
theorem tyf105 : Tryd.prog.underlying 105 = some (.array 20 87) := by kernel_rfl
theorem tyi105 : (Tryd.prog.info? 105).map (fun i => (i.size, i.bytes, i.zero)) = some (20, 160, some (.agg #[.int .u64 0, .int .u64 0, .int .u64 0, .int .u64 0, .int .u64 0, .int .u64 0, .int .u64 0, .int .u64 0, .int .u64 0, .int .u64 0, .int .u64 0, .int .u64 0, .int .u64 0, .int .u64 0, .int .u64 0, .int .u64 0, .int .u64 0, .int .u64 0, .int .u64 0, .int .u64 0])) := by kernel_rfl
theorem tyf106 : Tryd.prog.underlying 106 = some (.array 65 5) := by kernel_rfl
theorem tyi106 : (Tryd.prog.info? 106).map (fun i => (i.size, i.bytes, i.zero)) = some (65, 65, some (.agg #[.int .u8 0, .int .u8 0, .int .u8 0, .int .u8 0, .int .u8 0, .int .u8 0, .int .u8 0, .int .u8 0, .int .u8 0, .int .u8 0, .int .u8 0, .int .u8 0, .int .u8 0, .int .u8 0, .int .u8 0, .int .u8 0, .int .u8 0, .int .u8 0, .int .u8 0, .int .u8 0, .int .u8 0, .int .u8 0, .int .u8 0, .int .u8 0, .int .u8 0, .int .u8 0, .int .u8 0, .int .u8 0, .int .u8 0, .int .u8 0, .int .u8 0, .int .u8 0, .int .u8 0, .int .u8 0, .int .u8 0, .int .u8 0, .int .u8 0, .int .u8 0, .int .u8 0, .int .u8 0, .int .u8 0, .int .u8 0, .int .u8 0, .int .u8 0, .int .u8 0, .int .u8 0, .int .u8 0, .int .u8 0, .int .u8 0, .int .u8 0, .int .u8 0, .int .u8 0, .int .u8 0, .int .u8 0, .int .u8 0, .int .u8 0, .int .u8 0, .int .u8 0, .int .u8 0, .int .u8 0, .int .u8 0, .int .u8 0, .int .u8 0, .int .u8 0, .int .u8 0])) := by kernel_rfl
theorem tyf107 : TD.fits Tryd.prog 107 (.other) := trivial
theorem tyi107 : (Tryd.prog.info? 107).map (fun i => (i.size, i.bytes, i.zero)) = some (1, 8, some (.nilFunc)) := by kernel_rfl
theorem tyf109 : TD.fits Tryd.prog 109 (.other) := trivial
theorem tyi109 : (Tryd.prog.info? 109).map (fun i => (i.size, i.bytes, i.zero)) = some (1, 8, some (.nilFunc)) := by kernel_rfl
theorem tyf110 : TD.fits Tryd.prog 110 (.other) := trivial
theorem tyi110 : (Tryd.prog.info? 110).map (fun i => (i.size, i.bytes, i.zero)) = some (1, 8, some (.nilFunc)) := by kernel_rfl
theorem tyf111 : Tryd.prog.underlying 111 = some (.int .u64) := by kernel_rfl
theorem tyi111 : (Tryd.prog.info? 111).map (fun i => (i.size, i.bytes, i.zero)) = some (1, 8, some (.int .u64 0)) := by kernel_rfl
theorem tyf112 : TD.fits Tryd.prog 112 (.other) := trivial
theorem tyi112 : (Tryd.prog.info? 112).map (fun i => (i.size, i.bytes, i.zero)) = some (1, 8, some (.nilFunc)) := by kernel_rfl
theorem tyf113 : TD.fits Tryd.prog 113 (.other) := trivial
theorem tyi113 : (Tryd.prog.info? 113).map (fun i => (i.size, i.bytes, i.zero)) = some (1, 8, some (.nilFunc)) := by kernel_rfl
theorem tyf114 : TD.fits Tryd.prog 114 (.other) := trivial
theorem tyi114 : (Tryd.prog.info? 114).map (fun i => (i.size, i.bytes, i.zero)) = some (1, 8, some (.nilFunc)) := by kernel_rfl
theorem tyf115 : Tryd.prog.underlying 115 = some (.pointer 3) := by kernel_rfl
theorem tyi115 : (Tryd.prog.info? 115).map (fun i => (i.size, i.bytes, i.zero)) = some (1, 8, some (.pointer none)) := by kernel_rfl
theorem tyf116 : TD.fits Tryd.prog 116 (.other) := trivial
theorem tyi116 : (Tryd.prog.info? 116).map (fun i => (i.size, i.bytes, i.zero)) = some (1, 8, some (.nilFunc)) := by kernel_rfl
theorem tyf117 : Tryd.prog.underlying 117 = some (.pointer 111) := by kernel_rfl
theorem tyi117 : (Tryd.prog.info? 117).map (fun i => (i.size, i.bytes, i.zero)) = some (1, 8, some (.pointer none)) := by kernel_rfl
theorem tyf119 : TD.fits Tryd.prog 119 (.other) := trivial
theorem tyi119 : (Tryd.prog.info? 119).map (fun i => (i.size, i.bytes, i.zero)) = some (1, 8, some (.nilFunc)) := by kernel_rfl
theorem tyf120 : Tryd.prog.underlying 120 = some (.array 32 5) := by kernel_rfl
theorem tyi120 : (Tryd.prog.info? 120).map (fun i => (i.size, i.bytes, i.zero)) = some (32, 32, some (.agg #[.int .u8 0, .int .u8 0, .int .u8 0, .int .u8 0, .int .u8 0, .int .u8 0, .int .u8 0, .int .u8 0, .int .u8 0, .int .u8 0, .int .u8 0, .int .u8 0, .int .u8 0, .int .u8 0, .int .u8 0, .int .u8 0, .int .u8 0, .int .u8 0, .int .u8 0, .int .u8 0, .int .u8 0, .int .u8 0, .int .u8 0, .int .u8 0, .int .u8 0, .int .u8 0, .int .u8 0, .int .u8 0, .int .u8 0, .int .u8 0, .int .u8 0, .int .u8 0])) := by kernel_rfl
theorem tyf121 : Tryd.prog.underlying 121 = some (.array 64 5) := by kernel_rfl
theorem tyi121 : (Tryd.prog.info? 121).map (fun i => (i.size, i.bytes, i.zero)) = some (64, 64, some (.agg #[.int .u8 0, .int .u8 0, .int .u8 0, .int .u8 0, .int .u8 0, .int .u8 0, .int .u8 0, .int .u8 0, .int .u8 0, .int .u8 0, .int .u8 0, .int .u8 0, .int .u8 0, .int .u8 0, .int .u8 0, .int .u8 0, .int .u8 0, .int .u8 0, .int .u8 0, .int .u8 0, .int .u8 0, .int .u8 0, .int .u8 0, .int .u8 0, .int .u8 0, .int .u8 0, .int .u8 0, .int .u8 0, .int .u8 0, .int .u8 0, .int .u8 0, .int .u8 0, .int .u8 0, .int .u8 0, .int .u8 0, .int .u8 0, .int .u8 0, .int .u8 0, .int .u8 0, .int .u8 0, .int .u8 0, .int .u8 0, .int .u8 0, .int .u8 0, .int .u8 0, .int .u8 0, .int .u8 0, .int .u8 0, .int .u8 0, .int .u8 0, .int .u8 0, .int .u8 0, .int .u8 0, .int .u8 0, .int .u8 0, .int .u8 0, .int .u8 0, .int .u8 0, .int .u8 0, .int .u8 0, .int .u8 0, .int .u8 0, .int .u8 0, .int .u8 0])) := by kernel_rfl
theorem tyf127 : TD.fits Tryd.prog 127 (.other) := trivial
theorem tyi127 : (Tryd.prog.info? 127).map (fun i => (i.size, i.bytes, i.zero)) = some (1, 8, some (.nilFunc)) := by kernel_rfl
theorem tyf130 : TD.fits Tryd.prog 130 (.other) := trivial
theorem tyi130 : (Tryd.prog.info? 130).map (fun i => (i.size, i.bytes, i.zero)) = some (1, 8, some (.nilFunc)) := by kernel_rfl
set_option maxRecDepth 20000 in
theorem tyOk : allOk Tryd.prog tyTab :=
  ⟨tyf1, tyi1,
  tyf2, tyi2,
  tyf3, tyi3,
  tyf4, tyi4,
  tyf5, tyi5,
  tyf9, tyi9,
  tyf12, tyi12,
  tyf13, tyi13,
  tyf20, tyi20,
  tyf21, tyi21,
  tyf22, tyi22,
  tyf23, tyi23,
  tyf24, tyi24,
  tyf25, tyi25,
  tyf26, tyi26,
  tyf27, tyi27,
  tyf28, tyi28,
  tyf29, tyi29,
  tyf31, tyi31,
  tyf32, tyi32,
  tyf33, tyi33,
  tyf34, tyi34,
  tyf36, tyi36,
  tyf37, tyi37,
  tyf38, tyi38,
  tyf39, tyi39,
  tyf40, tyi40,
  tyf41, tyi41,
  tyf42, tyi42,
  tyf43, tyi43,
  tyf44, tyi44,
  tyf45, tyi45,
  tyf47, tyi47,
  tyf48, tyi48,
  tyf49, tyi49,
  tyf50, tyi50,
  tyf51, tyi51,
  tyf52, tyi52,
  tyf53, tyi53,
  tyf54, tyi54,
  tyf56, tyi56,
  tyf57, tyi57,
  tyf58, tyi58,
  tyf59, tyi59,
  tyf60, tyi60,
  tyf61, tyi61,
  tyf62, tyi62,
  tyf63, tyi63,
  tyf64, tyi64,
  tyf65, tyi65,
  tyf66, tyi66,
  tyf67, tyi67,
  tyf68, tyi68,
  tyf69, tyi69,
  tyf70, tyi70,
  tyf71, tyi71,
  tyf72, tyi72,
  tyf73, tyi73,
  tyf74, tyi74,
  tyf75, tyi75,
  tyf76, tyi76,
  tyf77, tyi77,
  tyf79, tyi79,
  tyf80, tyi80,
  tyf81, tyi81,
  tyf82, tyi82,
  tyf83, tyi83,
  tyf84, tyi84,
  tyf85, tyi85,
  tyf86, tyi86,
  tyf87, tyi87,
  tyf88, tyi88,
  tyf89, tyi89,
  tyf91, tyi91,
  tyf92, tyi92,
  tyf93, tyi93,
  tyf94, tyi94,
  tyf96, tyi96,
  tyf97, tyi97,
  tyf98, tyi98,
  tyf100, tyi100,
  tyf101, tyi101,
  tyf102, tyi102,
  tyf103, tyi103,
  tyf104, tyi104,
  tyf105, tyi105,
  tyf106, tyi106,
  tyf107, tyi107,
  tyf109, tyi109,
  tyf110, tyi110,
  tyf111, tyi111,
  tyf112, tyi112,
  tyf113, tyi113,
  tyf114, tyi114,
  tyf115, tyi115,
  tyf116, tyi116,
  tyf117, tyi117,
  tyf119, tyi119,
  tyf120, tyi120,
  tyf121, tyi121,
  tyf127, tyi127,
  tyf130, tyi130, trivial⟩
/-- A type's row, by looking. -/
theorem tyy {t : Nat} {d : TD} {sz by_ : Nat} {z : Value} (h : tlook tyTab t = some ⟨d, sz, by_, z⟩) : Ty Tryd.prog t d sz by_ z := tlook_ok tyOk h
def slB (t : Nat) : Bool := match tlook tyTab t with
  | some ⟨.slice _, _, _, _⟩ => true
  | _ => false
theorem mixedOk : Tryd.prog.follows .mixedOrders = true := by kernel_rfl
end Go.Proofs.YtfmekdmpghhegaaDoor
