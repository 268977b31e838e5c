/- The table of types of this seat's program, printed by tyenv.py. -/
import Derived.Test.YtmbpjgjajedonaaDoorLtC
import Derived.Test.YtmbpjgjajedonaaDoorProg
import Derived.KernelRfl
namespace Go.Proofs.YtmbpjgjajedonaaDoor

set_option linter.all false
def tyTab : List (Nat × TRow) := [(1, ⟨.other, 1, 8, .nilFunc⟩),
  (2, ⟨.int .i64, 1, 8, .int .i64 0⟩),
  (3, ⟨.int .i64, 1, 8, .int .i64 0⟩),
  (4, ⟨.bool, 1, 1, .bool false⟩),
  (5, ⟨.int .u8, 1, 1, .int .u8 0⟩),
  (9, ⟨.str, 1, 16, .string ⟨#[]⟩⟩),
  (12, ⟨.int .u64, 1, 8, .int .u64 0⟩),
  (13, ⟨.struct [(9, 0, 1), (12, 1, 1)], 2, 24, .agg #[.string ⟨#[]⟩, .int .u64 0]⟩),
  (20, ⟨.other, 1, 16, .nilIface⟩),
  (21, ⟨.int .i32, 1, 4, .int .i32 0⟩),
  (22, ⟨.other, 1, 8, .nilFunc⟩),
  (23, ⟨.other, 1, 8, .nilFunc⟩),
  (24, ⟨.other, 1, 8, .nilFunc⟩),
  (25, ⟨.ptr 44, 1, 8, .pointer none⟩),
  (26, ⟨.other, 1, 8, .nilFunc⟩),
  (27, ⟨.other, 1, 8, .nilFunc⟩),
  (28, ⟨.ptr 49, 1, 8, .pointer none⟩),
  (29, ⟨.slice 9, 1, 24, .slice none 0 0⟩),
  (30, ⟨.int .i64, 1, 8, .int .i64 0⟩),
  (32, ⟨.other, 1, 8, .nilFunc⟩),
  (33, ⟨.other, 1, 8, .nilFunc⟩),
  (34, ⟨.other, 1, 8, .nilFunc⟩),
  (35, ⟨.other, 1, 8, .nilFunc⟩),
  (36, ⟨.other, 1, 8, .nilFunc⟩),
  (37, ⟨.other, 1, 8, .nilFunc⟩),
  (38, ⟨.other, 1, 8, .nilFunc⟩),
  (39, ⟨.int .u64, 1, 8, .int .u64 0⟩),
  (40, ⟨.struct [(39, 0, 1), (3, 1, 1), (3, 2, 1)], 3, 24, .agg #[.int .u64 0, .int .i64 0, .int .i64 0]⟩),
  (41, ⟨.struct [(39, 0, 1), (3, 1, 1), (3, 2, 1)], 3, 24, .agg #[.int .u64 0, .int .i64 0, .int .i64 0]⟩),
  (42, ⟨.map 3 9, 1, 8, .map none⟩),
  (43, ⟨.struct [(29, 0, 1), (42, 1, 1), (3, 2, 1), (4, 3, 1), (3, 4, 1), (41, 5, 3)], 8, 80, .agg #[.slice none 0 0, .map none, .int .i64 0, .bool false, .int .i64 0, .int .u64 0, .int .i64 0, .int .i64 0]⟩),
  (44, ⟨.struct [(29, 0, 1), (42, 1, 1), (3, 2, 1), (4, 3, 1), (3, 4, 1), (41, 5, 3)], 8, 80, .agg #[.slice none 0 0, .map none, .int .i64 0, .bool false, .int .i64 0, .int .u64 0, .int .i64 0, .int .i64 0]⟩),
  (45, ⟨.slice 5, 1, 24, .slice none 0 0⟩),
  (47, ⟨.other, 1, 8, .nilFunc⟩),
  (48, ⟨.struct [(25, 0, 1), (3, 1, 1), (3, 2, 1), (3, 3, 1), (3, 4, 1), (3, 5, 1), (4, 6, 1), (4, 7, 1)], 8, 56, .agg #[.pointer none, .int .i64 0, .int .i64 0, .int .i64 0, .int .i64 0, .int .i64 0, .bool false, .bool false]⟩),
  (49, ⟨.struct [(25, 0, 1), (3, 1, 1), (3, 2, 1), (3, 3, 1), (3, 4, 1), (3, 5, 1), (4, 6, 1), (4, 7, 1)], 8, 56, .agg #[.pointer none, .int .i64 0, .int .i64 0, .int .i64 0, .int .i64 0, .int .i64 0, .bool false, .bool false]⟩),
  (51, ⟨.other, 1, 8, .nilFunc⟩),
  (52, ⟨.struct [(39, 0, 1), (39, 1, 1), (39, 2, 1), (39, 3, 1), (9, 4, 1)], 5, 48, .agg #[.int .u64 0, .int .u64 0, .int .u64 0, .int .u64 0, .string ⟨#[]⟩]⟩),
  (53, ⟨.struct [(39, 0, 1), (39, 1, 1), (39, 2, 1), (39, 3, 1), (9, 4, 1)], 5, 48, .agg #[.int .u64 0, .int .u64 0, .int .u64 0, .int .u64 0, .string ⟨#[]⟩]⟩),
  (55, ⟨.other, 1, 8, .nilFunc⟩),
  (56, ⟨.other, 1, 8, .nilFunc⟩),
  (57, ⟨.other, 1, 8, .nilFunc⟩),
  (58, ⟨.other, 1, 8, .nilFunc⟩),
  (59, ⟨.other, 1, 8, .nilFunc⟩),
  (60, ⟨.other, 1, 8, .nilFunc⟩),
  (61, ⟨.other, 1, 8, .nilFunc⟩),
  (63, ⟨.other, 1, 8, .nilFunc⟩),
  (65, ⟨.other, 1, 8, .nilFunc⟩),
  (66, ⟨.other, 1, 8, .nilFunc⟩),
  (67, ⟨.ptr 39, 1, 8, .pointer none⟩),
  (68, ⟨.struct [(67, 0, 1), (3, 1, 1), (3, 2, 1)], 3, 24, .agg #[.pointer none, .int .i64 0, .int .i64 0]⟩),
  (69, ⟨.slice 68, 1, 24, .slice none 0 0⟩),
  (70, ⟨.other, 1, 8, .nilFunc⟩),
  (71, ⟨.other, 1, 8, .nilFunc⟩),
  (72, ⟨.other, 1, 8, .nilFunc⟩),
  (73, ⟨.other, 1, 8, .nilFunc⟩),
  (74, ⟨.int .u32, 1, 4, .int .u32 0⟩),
  (75, ⟨.other, 1, 8, .nilFunc⟩),
  (76, ⟨.int .u64, 1, 8, .int .u64 0⟩),
  (77, ⟨.other, 1, 8, .nilFunc⟩),
  (81, ⟨.other, 1, 8, .nilFunc⟩),
  (82, ⟨.other, 1, 8, .nilFunc⟩),
  (83, ⟨.ptr 79, 1, 8, .pointer none⟩),
  (85, ⟨.other, 1, 8, .nilFunc⟩),
  (86, ⟨.other, 1, 8, .nilFunc⟩),
  (87, ⟨.ptr 89, 1, 8, .pointer none⟩),
  (88, ⟨.struct [(87, 0, 1), (45, 1, 1)], 2, 32, .agg #[.pointer none, .slice none 0 0]⟩),
  (89, ⟨.struct [(87, 0, 1), (45, 1, 1)], 2, 32, .agg #[.pointer none, .slice none 0 0]⟩),
  (90, ⟨.other, 1, 8, .nilFunc⟩),
  (91, ⟨.other, 1, 16, .nilIface⟩),
  (92, ⟨.other, 1, 16, .nilIface⟩),
  (94, ⟨.other, 1, 8, .nilFunc⟩),
  (95, ⟨.other, 1, 8, .nilFunc⟩),
  (96, ⟨.other, 1, 8, .nilFunc⟩),
  (98, ⟨.other, 1, 8, .nilFunc⟩),
  (99, ⟨.other, 1, 8, .nilFunc⟩),
  (101, ⟨.other, 1, 8, .nilFunc⟩),
  (103, ⟨.other, 1, 8, .nilFunc⟩),
  (104, ⟨.ptr 5, 1, 8, .pointer none⟩),
  (105, ⟨.other, 1, 8, .nilFunc⟩),
  (107, ⟨.other, 1, 8, .nilFunc⟩),
  (108, ⟨.other, 1, 8, .nilFunc⟩),
  (110, ⟨.struct [(5, 0, 1), (5, 1, 1)], 2, 2, .agg #[.int .u8 0, .int .u8 0]⟩),
  (111, ⟨.struct [(5, 0, 1), (5, 1, 1)], 2, 2, .agg #[.int .u8 0, .int .u8 0]⟩),
  (112, ⟨.array 16 111, 32, 32, .agg #[.int .u8 0, .int .u8 0, .int .u8 0, .int .u8 0, .int .u8 0, .int .u8 0, .int .u8 0, .int .u8 0, .int .u8 0, .int .u8 0, .int .u8 0, .int .u8 0, .int .u8 0, .int .u8 0, .int .u8 0, .int .u8 0, .int .u8 0, .int .u8 0, .int .u8 0, .int .u8 0, .int .u8 0, .int .u8 0, .int .u8 0, .int .u8 0, .int .u8 0, .int .u8 0, .int .u8 0, .int .u8 0, .int .u8 0, .int .u8 0, .int .u8 0, .int .u8 0]⟩),
  (113, ⟨.other, 1, 8, .nilFunc⟩),
  (114, ⟨.other, 1, 8, .nilFunc⟩),
  (115, ⟨.other, 1, 8, .nilFunc⟩),
  (123, ⟨.other, 1, 8, .nilFunc⟩)]
theorem tyf1 : TD.fits Tryd.prog 1 (.other) := trivial
theorem tyi1 : (Tryd.prog.info? 1).map (fun i => (i.size, i.bytes, i.zero)) = some (1, 8, some (.nilFunc)) := by kernel_rfl
theorem tyf2 : Tryd.prog.underlying 2 = some (.int .i64) := by kernel_rfl
theorem tyi2 : (Tryd.prog.info? 2).map (fun i => (i.size, i.bytes, i.zero)) = some (1, 8, some (.int .i64 0)) := by kernel_rfl
theorem tyf3 : Tryd.prog.underlying 3 = some (.int .i64) := by kernel_rfl
theorem tyi3 : (Tryd.prog.info? 3).map (fun i => (i.size, i.bytes, i.zero)) = some (1, 8, some (.int .i64 0)) := by kernel_rfl
theorem tyf4 : Tryd.prog.underlying 4 = some .bool := by kernel_rfl
theorem tyi4 : (Tryd.prog.info? 4).map (fun i => (i.size, i.bytes, i.zero)) = some (1, 1, some (.bool false)) := by kernel_rfl
theorem tyf5 : Tryd.prog.underlying 5 = some (.int .u8) := by kernel_rfl
theorem tyi5 : (Tryd.prog.info? 5).map (fun i => (i.size, i.bytes, i.zero)) = some (1, 1, some (.int .u8 0)) := by kernel_rfl
theorem tyf9 : Tryd.prog.underlying 9 = some .string := by kernel_rfl
theorem tyi9 : (Tryd.prog.info? 9).map (fun i => (i.size, i.bytes, i.zero)) = some (1, 16, some (.string ⟨#[]⟩)) := by kernel_rfl
theorem tyf12 : Tryd.prog.underlying 12 = some (.int .u64) := by kernel_rfl
theorem tyi12 : (Tryd.prog.info? 12).map (fun i => (i.size, i.bytes, i.zero)) = some (1, 8, some (.int .u64 0)) := by kernel_rfl
theorem tyf13 : structOf Tryd.prog 13 = some [(9, 0, some 1), (12, 1, some 1)] := by kernel_rfl
theorem tyi13 : (Tryd.prog.info? 13).map (fun i => (i.size, i.bytes, i.zero)) = some (2, 24, some (.agg #[.string ⟨#[]⟩, .int .u64 0])) := by kernel_rfl
theorem tyf20 : TD.fits Tryd.prog 20 (.other) := trivial
theorem tyi20 : (Tryd.prog.info? 20).map (fun i => (i.size, i.bytes, i.zero)) = some (1, 16, some (.nilIface)) := by kernel_rfl
theorem tyf21 : Tryd.prog.underlying 21 = some (.int .i32) := by kernel_rfl
theorem tyi21 : (Tryd.prog.info? 21).map (fun i => (i.size, i.bytes, i.zero)) = some (1, 4, some (.int .i32 0)) := by kernel_rfl
theorem tyf22 : TD.fits Tryd.prog 22 (.other) := trivial
theorem tyi22 : (Tryd.prog.info? 22).map (fun i => (i.size, i.bytes, i.zero)) = some (1, 8, some (.nilFunc)) := by kernel_rfl
theorem tyf23 : TD.fits Tryd.prog 23 (.other) := trivial
theorem tyi23 : (Tryd.prog.info? 23).map (fun i => (i.size, i.bytes, i.zero)) = some (1, 8, some (.nilFunc)) := by kernel_rfl
theorem tyf24 : TD.fits Tryd.prog 24 (.other) := trivial
theorem tyi24 : (Tryd.prog.info? 24).map (fun i => (i.size, i.bytes, i.zero)) = some (1, 8, some (.nilFunc)) := by kernel_rfl
theorem tyf25 : Tryd.prog.underlying 25 = some (.pointer 44) := by kernel_rfl
theorem tyi25 : (Tryd.prog.info? 25).map (fun i => (i.size, i.bytes, i.zero)) = some (1, 8, some (.pointer none)) := by kernel_rfl
theorem tyf26 : TD.fits Tryd.prog 26 (.other) := trivial
theorem tyi26 : (Tryd.prog.info? 26).map (fun i => (i.size, i.bytes, i.zero)) = some (1, 8, some (.nilFunc)) := by kernel_rfl
theorem tyf27 : TD.fits Tryd.prog 27 (.other) := trivial
theorem tyi27 : (Tryd.prog.info? 27).map (fun i => (i.size, i.bytes, i.zero)) = some (1, 8, some (.nilFunc)) := by kernel_rfl
theorem tyf28 : Tryd.prog.underlying 28 = some (.pointer 49) := by kernel_rfl
theorem tyi28 : (Tryd.prog.info? 28).map (fun i => (i.size, i.bytes, i.zero)) = some (1, 8, some (.pointer none)) := by kernel_rfl
theorem tyf29 : Tryd.prog.underlying 29 = some (.slice 9) := by kernel_rfl
theorem tyi29 : (Tryd.prog.info? 29).map (fun i => (i.size, i.bytes, i.zero)) = some (1, 24, some (.slice none 0 0)) := by kernel_rfl
theorem tyf30 : Tryd.prog.underlying 30 = some (.int .i64) := by kernel_rfl
theorem tyi30 : (Tryd.prog.info? 30).map (fun i => (i.size, i.bytes, i.zero)) = some (1, 8, some (.int .i64 0)) := by kernel_rfl
theorem tyf32 : TD.fits Tryd.prog 32 (.other) := trivial
theorem tyi32 : (Tryd.prog.info? 32).map (fun i => (i.size, i.bytes, i.zero)) = some (1, 8, some (.nilFunc)) := by kernel_rfl
theorem tyf33 : TD.fits Tryd.prog 33 (.other) := trivial
theorem tyi33 : (Tryd.prog.info? 33).map (fun i => (i.size, i.bytes, i.zero)) = some (1, 8, some (.nilFunc)) := by kernel_rfl
theorem tyf34 : TD.fits Tryd.prog 34 (.other) := trivial
theorem tyi34 : (Tryd.prog.info? 34).map (fun i => (i.size, i.bytes, i.zero)) = some (1, 8, some (.nilFunc)) := by kernel_rfl
theorem tyf35 : TD.fits Tryd.prog 35 (.other) := trivial
theorem tyi35 : (Tryd.prog.info? 35).map (fun i => (i.size, i.bytes, i.zero)) = some (1, 8, some (.nilFunc)) := by kernel_rfl
theorem tyf36 : TD.fits Tryd.prog 36 (.other) := trivial
theorem tyi36 : (Tryd.prog.info? 36).map (fun i => (i.size, i.bytes, i.zero)) = some (1, 8, some (.nilFunc)) := by kernel_rfl
theorem tyf37 : TD.fits Tryd.prog 37 (.other) := trivial
theorem tyi37 : (Tryd.prog.info? 37).map (fun i => (i.size, i.bytes, i.zero)) = some (1, 8, some (.nilFunc)) := by kernel_rfl
theorem tyf38 : TD.fits Tryd.prog 38 (.other) := trivial
theorem tyi38 : (Tryd.prog.info? 38).map (fun i => (i.size, i.bytes, i.zero)) = some (1, 8, some (.nilFunc)) := by kernel_rfl
theorem tyf39 : Tryd.prog.underlying 39 = some (.int .u64) := by kernel_rfl
theorem tyi39 : (Tryd.prog.info? 39).map (fun i => (i.size, i.bytes, i.zero)) = some (1, 8, some (.int .u64 0)) := by kernel_rfl
theorem tyf40 : structOf Tryd.prog 40 = some [(39, 0, some 1), (3, 1, some 1), (3, 2, some 1)] := by kernel_rfl
theorem tyi40 : (Tryd.prog.info? 40).map (fun i => (i.size, i.bytes, i.zero)) = some (3, 24, some (.agg #[.int .u64 0, .int .i64 0, .int .i64 0])) := by kernel_rfl
theorem tyf41 : structOf Tryd.prog 41 = some [(39, 0, some 1), (3, 1, some 1), (3, 2, some 1)] := by kernel_rfl
theorem tyi41 : (Tryd.prog.info? 41).map (fun i => (i.size, i.bytes, i.zero)) = some (3, 24, some (.agg #[.int .u64 0, .int .i64 0, .int .i64 0])) := by kernel_rfl
theorem tyf42 : Tryd.prog.underlying 42 = some (.map 3 9) := by kernel_rfl
theorem tyi42 : (Tryd.prog.info? 42).map (fun i => (i.size, i.bytes, i.zero)) = some (1, 8, some (.map none)) := by kernel_rfl
theorem tyf43 : structOf Tryd.prog 43 = some [(29, 0, some 1), (42, 1, some 1), (3, 2, some 1), (4, 3, some 1), (3, 4, some 1), (41, 5, some 3)] := by kernel_rfl
theorem tyi43 : (Tryd.prog.info? 43).map (fun i => (i.size, i.bytes, i.zero)) = some (8, 80, some (.agg #[.slice none 0 0, .map none, .int .i64 0, .bool false, .int .i64 0, .int .u64 0, .int .i64 0, .int .i64 0])) := by kernel_rfl
theorem tyf44 : structOf Tryd.prog 44 = some [(29, 0, some 1), (42, 1, some 1), (3, 2, some 1), (4, 3, some 1), (3, 4, some 1), (41, 5, some 3)] := by kernel_rfl
theorem tyi44 : (Tryd.prog.info? 44).map (fun i => (i.size, i.bytes, i.zero)) = some (8, 80, some (.agg #[.slice none 0 0, .map none, .int .i64 0, .bool false, .int .i64 0, .int .u64 0, .int .i64 0, .int .i64 0])) := by kernel_rfl
theorem tyf45 : Tryd.prog.underlying 45 = some (.slice 5) := by kernel_rfl
theorem tyi45 : (Tryd.prog.info? 45).map (fun i => (i.size, i.bytes, i.zero)) = some (1, 24, some (.slice none 0 0)) := by kernel_rfl
theorem tyf47 : TD.fits Tryd.prog 47 (.other) := trivial
theorem tyi47 : (Tryd.prog.info? 47).map (fun i => (i.size, i.bytes, i.zero)) = some (1, 8, some (.nilFunc)) := by kernel_rfl
theorem tyf48 : structOf Tryd.prog 48 = some [(25, 0, some 1), (3, 1, some 1), (3, 2, some 1), (3, 3, some 1), (3, 4, some 1), (3, 5, some 1), (4, 6, some 1), (4, 7, some 1)] := by kernel_rfl
theorem tyi48 : (Tryd.prog.info? 48).map (fun i => (i.size, i.bytes, i.zero)) = some (8, 56, some (.agg #[.pointer none, .int .i64 0, .int .i64 0, .int .i64 0, .int .i64 0, .int .i64 0, .bool false, .bool false])) := by kernel_rfl
theorem tyf49 : structOf Tryd.prog 49 = some [(25, 0, some 1), (3, 1, some 1), (3, 2, some 1), (3, 3, some 1), (3, 4, some 1), (3, 5, some 1), (4, 6, some 1), (4, 7, some 1)] := by kernel_rfl
theorem tyi49 : (Tryd.prog.info? 49).map (fun i => (i.size, i.bytes, i.zero)) = some (8, 56, some (.agg #[.pointer none, .int .i64 0, .int .i64 0, .int .i64 0, .int .i64 0, .int .i64 0, .bool false, .bool false])) := by kernel_rfl
theorem tyf51 : TD.fits Tryd.prog 51 (.other) := trivial
theorem tyi51 : (Tryd.prog.info? 51).map (fun i => (i.size, i.bytes, i.zero)) = some (1, 8, some (.nilFunc)) := by kernel_rfl
theorem tyf52 : structOf Tryd.prog 52 = some [(39, 0, some 1), (39, 1, some 1), (39, 2, some 1), (39, 3, some 1), (9, 4, some 1)] := by kernel_rfl
theorem tyi52 : (Tryd.prog.info? 52).map (fun i => (i.size, i.bytes, i.zero)) = some (5, 48, some (.agg #[.int .u64 0, .int .u64 0, .int .u64 0, .int .u64 0, .string ⟨#[]⟩])) := by kernel_rfl
theorem tyf53 : structOf Tryd.prog 53 = some [(39, 0, some 1), (39, 1, some 1), (39, 2, some 1), (39, 3, some 1), (9, 4, some 1)] := by kernel_rfl
theorem tyi53 : (Tryd.prog.info? 53).map (fun i => (i.size, i.bytes, i.zero)) = some (5, 48, some (.agg #[.int .u64 0, .int .u64 0, .int .u64 0, .int .u64 0, .string ⟨#[]⟩])) := by kernel_rfl
theorem tyf55 : TD.fits Tryd.prog 55 (.other) := trivial
theorem tyi55 : (Tryd.prog.info? 55).map (fun i => (i.size, i.bytes, i.zero)) = some (1, 8, some (.nilFunc)) := by kernel_rfl
theorem tyf56 : TD.fits Tryd.prog 56 (.other) := trivial
theorem tyi56 : (Tryd.prog.info? 56).map (fun i => (i.size, i.bytes, i.zero)) = some (1, 8, some (.nilFunc)) := by kernel_rfl
theorem tyf57 : TD.fits Tryd.prog 57 (.other) := trivial
theorem tyi57 : (Tryd.prog.info? 57).map (fun i => (i.size, i.bytes, i.zero)) = some (1, 8, some (.nilFunc)) := by kernel_rfl
theorem tyf58 : TD.fits Tryd.prog 58 (.other) := trivial
theorem tyi58 : (Tryd.prog.info? 58).map (fun i => (i.size, i.bytes, i.zero)) = some (1, 8, some (.nilFunc)) := by kernel_rfl
theorem tyf59 : TD.fits Tryd.prog 59 (.other) := trivial
theorem tyi59 : (Tryd.prog.info? 59).map (fun i => (i.size, i.bytes, i.zero)) = some (1, 8, some (.nilFunc)) := by kernel_rfl
theorem tyf60 : TD.fits Tryd.prog 60 (.other) := trivial
theorem tyi60 : (Tryd.prog.info? 60).map (fun i => (i.size, i.bytes, i.zero)) = some (1, 8, some (.nilFunc)) := by kernel_rfl
theorem tyf61 : TD.fits Tryd.prog 61 (.other) := trivial
theorem tyi61 : (Tryd.prog.info? 61).map (fun i => (i.size, i.bytes, i.zero)) = some (1, 8, some (.nilFunc)) := by kernel_rfl
theorem tyf63 : TD.fits Tryd.prog 63 (.other) := trivial
theorem tyi63 : (Tryd.prog.info? 63).map (fun i => (i.size, i.bytes, i.zero)) = some (1, 8, some (.nilFunc)) := by kernel_rfl
theorem tyf65 : TD.fits Tryd.prog 65 (.other) := trivial
theorem tyi65 : (Tryd.prog.info? 65).map (fun i => (i.size, i.bytes, i.zero)) = some (1, 8, some (.nilFunc)) := by kernel_rfl
theorem tyf66 : TD.fits Tryd.prog 66 (.other) := trivial
theorem tyi66 : (Tryd.prog.info? 66).map (fun i => (i.size, i.bytes, i.zero)) = some (1, 8, some (.nilFunc)) := by kernel_rfl
theorem tyf67 : Tryd.prog.underlying 67 = some (.pointer 39) := by kernel_rfl
theorem tyi67 : (Tryd.prog.info? 67).map (fun i => (i.size, i.bytes, i.zero)) = some (1, 8, some (.pointer none)) := by kernel_rfl
theorem tyf68 : structOf Tryd.prog 68 = some [(67, 0, some 1), (3, 1, some 1), (3, 2, some 1)] := by kernel_rfl
theorem tyi68 : (Tryd.prog.info? 68).map (fun i => (i.size, i.bytes, i.zero)) = some (3, 24, some (.agg #[.pointer none, .int .i64 0, .int .i64 0])) := by kernel_rfl
theorem tyf69 : Tryd.prog.underlying 69 = some (.slice 68) := by kernel_rfl
theorem tyi69 : (Tryd.prog.info? 69).map (fun i => (i.size, i.bytes, i.zero)) = some (1, 24, some (.slice none 0 0)) := by kernel_rfl
theorem tyf70 : TD.fits Tryd.prog 70 (.other) := trivial
theorem tyi70 : (Tryd.prog.info? 70).map (fun i => (i.size, i.bytes, i.zero)) = some (1, 8, some (.nilFunc)) := by kernel_rfl
theorem tyf71 : TD.fits Tryd.prog 71 (.other) := trivial
theorem tyi71 : (Tryd.prog.info? 71).map (fun i => (i.size, i.bytes, i.zero)) = some (1, 8, some (.nilFunc)) := by kernel_rfl
theorem tyf72 : TD.fits Tryd.prog 72 (.other) := trivial
theorem tyi72 : (Tryd.prog.info? 72).map (fun i => (i.size, i.bytes, i.zero)) = some (1, 8, some (.nilFunc)) := by kernel_rfl
theorem tyf73 : TD.fits Tryd.prog 73 (.other) := trivial
theorem tyi73 : (Tryd.prog.info? 73).map (fun i => (i.size, i.bytes, i.zero)) = some (1, 8, some (.nilFunc)) := by kernel_rfl
theorem tyf74 : Tryd.prog.underlying 74 = some (.int .u32) := by kernel_rfl
theorem tyi74 : (Tryd.prog.info? 74).map (fun i => (i.size, i.bytes, i.zero)) = some (1, 4, some (.int .u32 0)) := by kernel_rfl
theorem tyf75 : TD.fits Tryd.prog 75 (.other) := trivial
theorem tyi75 : (Tryd.prog.info? 75).map (fun i => (i.size, i.bytes, i.zero)) = some (1, 8, some (.nilFunc)) := by kernel_rfl
theorem tyf76 : Tryd.prog.underlying 76 = some (.int .u64) := by kernel_rfl
theorem tyi76 : (Tryd.prog.info? 76).map (fun i => (i.size, i.bytes, i.zero)) = some (1, 8, some (.int .u64 0)) := by kernel_rfl
theorem tyf77 : TD.fits Tryd.prog 77 (.other) := trivial
theorem tyi77 : (Tryd.prog.info? 77).map (fun i => (i.size, i.bytes, i.zero)) = some (1, 8, some (.nilFunc)) := by kernel_rfl
theorem tyf81 : TD.fits Tryd.prog 81 (.other) := trivial
theorem tyi81 : (Tryd.prog.info? 81).map (fun i => (i.size, i.bytes, i.zero)) = some (1, 8, some (.nilFunc)) := by kernel_rfl
theorem tyf82 : TD.fits Tryd.prog 82 (.other) := trivial
theorem tyi82 : (Tryd.prog.info? 82).map (fun i => (i.size, i.bytes, i.zero)) = some (1, 8, some (.nilFunc)) := by kernel_rfl
theorem tyf83 : Tryd.prog.underlying 83 = some (.pointer 79) := by kernel_rfl
theorem tyi83 : (Tryd.prog.info? 83).map (fun i => (i.size, i.bytes, i.zero)) = some (1, 8, some (.pointer none)) := by kernel_rfl
theorem tyf85 : TD.fits Tryd.prog 85 (.other) := trivial
theorem tyi85 : (Tryd.prog.info? 85).map (fun i => (i.size, i.bytes, i.zero)) = some (1, 8, some (.nilFunc)) := by kernel_rfl
theorem tyf86 : TD.fits Tryd.prog 86 (.other) := trivial
theorem tyi86 : (Tryd.prog.info? 86).map (fun i => (i.size, i.bytes, i.zero)) = some (1, 8, some (.nilFunc)) := by kernel_rfl
theorem tyf87 : Tryd.prog.underlying 87 = some (.pointer 89) := by kernel_rfl
theorem tyi87 : (Tryd.prog.info? 87).map (fun i => (i.size, i.bytes, i.zero)) = some (1, 8, some (.pointer none)) := by kernel_rfl
theorem tyf88 : structOf Tryd.prog 88 = some [(87, 0, some 1), (45, 1, some 1)] := by kernel_rfl
theorem tyi88 : (Tryd.prog.info? 88).map (fun i => (i.size, i.bytes, i.zero)) = some (2, 32, some (.agg #[.pointer none, .slice none 0 0])) := by kernel_rfl
theorem tyf89 : structOf Tryd.prog 89 = some [(87, 0, some 1), (45, 1, some 1)] := by kernel_rfl
theorem tyi89 : (Tryd.prog.info? 89).map (fun i => (i.size, i.bytes, i.zero)) = some (2, 32, some (.agg #[.pointer none, .slice none 0 0])) := by kernel_rfl
theorem tyf90 : TD.fits Tryd.prog 90 (.other) := trivial
theorem tyi90 : (Tryd.prog.info? 90).map (fun i => (i.size, i.bytes, i.zero)) = some (1, 8, some (.nilFunc)) := by kernel_rfl
theorem tyf91 : TD.fits Tryd.prog 91 (.other) := trivial
theorem tyi91 : (Tryd.prog.info? 91).map (fun i => (i.size, i.bytes, i.zero)) = some (1, 16, some (.nilIface)) := by kernel_rfl
theorem tyf92 : TD.fits Tryd.prog 92 (.other) := trivial
theorem tyi92 : (Tryd.prog.info? 92).map (fun i => (i.size, i.bytes, i.zero)) = some (1, 16, some (.nilIface)) := by kernel_rfl
theorem tyf94 : TD.fits Tryd.prog 94 (.other) := trivial
theorem tyi94 : (Tryd.prog.info? 94).map (fun i => (i.size, i.bytes, i.zero)) = some (1, 8, some (.nilFunc)) := by kernel_rfl
theorem tyf95 : TD.fits Tryd.prog 95 (.other) := trivial
theorem tyi95 : (Tryd.prog.info? 95).map (fun i => (i.size, i.bytes, i.zero)) = some (1, 8, some (.nilFunc)) := by kernel_rfl
theorem tyf96 : TD.fits Tryd.prog 96 (.other) := trivial
theorem tyi96 : (Tryd.prog.info? 96).map (fun i => (i.size, i.bytes, i.zero)) = some (1, 8, some (.nilFunc)) := by kernel_rfl
theorem tyf98 : TD.fits Tryd.prog 98 (.other) := trivial
theorem tyi98 : (Tryd.prog.info? 98).map (fun i => (i.size, i.bytes, i.zero)) = some (1, 8, some (.nilFunc)) := by kernel_rfl
theorem tyf99 : TD.fits Tryd.prog 99 (.other) := trivial
theorem tyi99 : (Tryd.prog.info? 99).map (fun i => (i.size, i.bytes, i.zero)) = some (1, 8, some (.nilFunc)) := by kernel_rfl
theorem tyf101 : TD.fits Tryd.prog 101 (.other) := trivial
theorem tyi101 : (Tryd.prog.info? 101).map (fun i => (i.size, i.bytes, i.zero)) = some (1, 8, some (.nilFunc)) := by kernel_rfl
theorem tyf103 : TD.fits Tryd.prog 103 (.other) := trivial
theorem tyi103 : (Tryd.prog.info? 103).map (fun i => (i.size, i.bytes, i.zero)) = some (1, 8, some (.nilFunc)) := by kernel_rfl
theorem tyf104 : Tryd.prog.underlying 104 = some (.pointer 5) := by kernel_rfl
theorem tyi104 : (Tryd.prog.info? 104).map (fun i => (i.size, i.bytes, i.zero)) = some (1, 8, some (.pointer none)) := by kernel_rfl
theorem tyf105 : TD.fits Tryd.prog 105 (.other) := trivial
theorem tyi105 : (Tryd.prog.info? 105).map (fun i => (i.size, i.bytes, i.zero)) = some (1, 8, some (.nilFunc)) := by kernel_rfl
theorem tyf107 : TD.fits Tryd.prog 107 (.other) := trivial
theorem tyi107 : (Tryd.prog.info? 107).map (fun i => (i.size, i.bytes, i.zero)) = some (1, 8, some (.nilFunc)) := by kernel_rfl
theorem tyf108 : TD.fits Tryd.prog 108 (.other) := trivial
theorem tyi108 : (Tryd.prog.info? 108).map (fun i => (i.size, i.bytes, i.zero)) = some (1, 8, some (.nilFunc)) := by kernel_rfl
theorem tyf110 : structOf Tryd.prog 110 = some [(5, 0, some 1), (5, 1, some 1)] := by kernel_rfl
theorem tyi110 : (Tryd.prog.info? 110).map (fun i => (i.size, i.bytes, i.zero)) = some (2, 2, some (.agg #[.int .u8 0, .int .u8 0])) := by kernel_rfl
theorem tyf111 : structOf Tryd.prog 111 = some [(5, 0, some 1), (5, 1, some 1)] := by kernel_rfl
theorem tyi111 : (Tryd.prog.info? 111).map (fun i => (i.size, i.bytes, i.zero)) = some (2, 2, some (.agg #[.int .u8 0, .int .u8 0])) := by kernel_rfl
theorem tyf112 : Tryd.prog.underlying 112 = some (.array 16 111) := by kernel_rfl
theorem tyi112 : (Tryd.prog.info? 112).map (fun i => (i.size, i.bytes, i.zero)) = some (32, 32, some (.agg #[.int .u8 0, .int .u8 0, .int .u8 0, .int .u8 0, .int .u8 0, .int .u8 0, .int .u8 0, .int .u8 0, .int .u8 0, .int .u8 0, .int .u8 0, .int .u8 0, .int .u8 0, .int .u8 0, .int .u8 0, .int .u8 0, .int .u8 0, .int .u8 0, .int .u8 0, .int .u8 0, .int .u8 0, .int .u8 0, .int .u8 0, .int .u8 0, .int .u8 0, .int .u8 0, .int .u8 0, .int .u8 0, .int .u8 0, .int .u8 0, .int .u8 0, .int .u8 0])) := by kernel_rfl
theorem tyf113 : TD.fits Tryd.prog 113 (.other) := trivial
theorem tyi113 : (Tryd.prog.info? 113).map (fun i => (i.size, i.bytes, i.zero)) = some (1, 8, some (.nilFunc)) := by kernel_rfl
theorem tyf114 : TD.fits Tryd.prog 114 (.other) := trivial
theorem tyi114 : (Tryd.prog.info? 114).map (fun i => (i.size, i.bytes, i.zero)) = some (1, 8, some (.nilFunc)) := by kernel_rfl
theorem tyf115 : TD.fits Tryd.prog 115 (.other) := trivial
theorem tyi115 : (Tryd.prog.info? 115).map (fun i => (i.size, i.bytes, i.zero)) = some (1, 8, some (.nilFunc)) := by kernel_rfl
theorem tyf123 : TD.fits Tryd.prog 123 (.other) := trivial
theorem tyi123 : (Tryd.prog.info? 123).map (fun i => (i.size, i.bytes, i.zero)) = some (1, 8, some (.nilFunc)) := by kernel_rfl
set_option maxRecDepth 20000 in
theorem tyOk : allOk Tryd.prog tyTab :=
  ⟨tyf1, tyi1,
  tyf2, tyi2,
  tyf3, tyi3,
  tyf4, tyi4,
  tyf5, tyi5,
  tyf9, tyi9,
  tyf12, tyi12,
  tyf13, tyi13,
  tyf20, tyi20,
  tyf21, tyi21,
  tyf22, tyi22,
  tyf23, tyi23,
  tyf24, tyi24,
  tyf25, tyi25,
  tyf26, tyi26,
  tyf27, tyi27,
  tyf28, tyi28,
  tyf29, tyi29,
  tyf30, tyi30,
  tyf32, tyi32,
  tyf33, tyi33,
  tyf34, tyi34,
  tyf35, tyi35,
  tyf36, tyi36,
  tyf37, tyi37,
  tyf38, tyi38,
  tyf39, tyi39,
  tyf40, tyi40,
  tyf41, tyi41,
  tyf42, tyi42,
  tyf43, tyi43,
  tyf44, tyi44,
  tyf45, tyi45,
  tyf47, tyi47,
  tyf48, tyi48,
  tyf49, tyi49,
  tyf51, tyi51,
  tyf52, tyi52,
  tyf53, tyi53,
  tyf55, tyi55,
  tyf56, tyi56,
  tyf57, tyi57,
  tyf58, tyi58,
  tyf59, tyi59,
  tyf60, tyi60,
  tyf61, tyi61,
  tyf63, tyi63,
  tyf65, tyi65,
  tyf66, tyi66,
  tyf67, tyi67,
  tyf68, tyi68,
  tyf69, tyi69,
  tyf70, tyi70,
  tyf71, tyi71,
  tyf72, tyi72,
  tyf73, tyi73,
  tyf74, tyi74,
  tyf75, tyi75,
  tyf76, tyi76,
  tyf77, tyi77,
  tyf81, tyi81,
  tyf82, tyi82,
  tyf83, tyi83,
  tyf85, tyi85,
  tyf86, tyi86,
  tyf87, tyi87,
  tyf88, tyi88,
  tyf89, tyi89,
  tyf90, tyi90,
  tyf91, tyi91,
  tyf92, tyi92,
  tyf94, tyi94,
  tyf95, tyi95,
  tyf96, tyi96,
  tyf98, tyi98,
  tyf99, tyi99,
  tyf101, tyi101,
  tyf103, tyi103,
  tyf104, tyi104,
  tyf105, tyi105,
  tyf107, tyi107,
  tyf108, tyi108,
  tyf110, tyi110,
  tyf111, tyi111,
  tyf112, tyi112,
  tyf113, tyi113,
  tyf114, tyi114,
  tyf115, tyi115,
  tyf123, tyi123, trivial⟩
/-- A type's row, by looking. -/
theorem tyy {t : Nat} {d : TD} {sz by_ : Nat} {z : Value} (h : tlook tyTab t = some ⟨d, sz, by_, z⟩) : Ty Tryd.prog t d sz by_ z := tlook_ok tyOk h
def slB (t : Nat) : Bool := match tlook tyTab t with
  | some ⟨.slice _, _, _, _⟩ => true
  | _ => false
theorem mixedOk : Tryd.prog.follows .mixedOrders = true := by kernel_rfl
end Go.Proofs.YtmbpjgjajedonaaDoor
