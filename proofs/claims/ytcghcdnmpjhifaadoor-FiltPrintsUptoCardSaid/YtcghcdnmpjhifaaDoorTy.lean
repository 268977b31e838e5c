/- The table of types of this seat's program, printed by tyenv.py. -/
import Derived.Test.YtcghcdnmpjhifaaDoorLtC
import Derived.Test.YtcghcdnmpjhifaaDoorProg
import Derived.KernelRfl
namespace Go.Proofs.YtcghcdnmpjhifaaDoor

set_option linter.all false
def tyTab : List (Nat × TRow) := [(1, ⟨.other, 1, 8, .nilFunc⟩),
  (2, ⟨.int .i64, 1, 8, .int .i64 0⟩),
  (3, ⟨.int .i64, 1, 8, .int .i64 0⟩),
  (4, ⟨.bool, 1, 1, .bool false⟩),
  (5, ⟨.int .u8, 1, 1, .int .u8 0⟩),
  (9, ⟨.str, 1, 16, .string ⟨#[]⟩⟩),
  (12, ⟨.int .u64, 1, 8, .int .u64 0⟩),
  (13, ⟨.struct [(9, 0, 1), (12, 1, 1)], 2, 24, .agg #[.string ⟨#[]⟩, .int .u64 0]⟩),
  (20, ⟨.other, 1, 16, .nilIface⟩),
  (21, ⟨.int .i32, 1, 4, .int .i32 0⟩),
  (22, ⟨.slice 54, 1, 24, .slice none 0 0⟩),
  (23, ⟨.slice 25, 1, 24, .slice none 0 0⟩),
  (24, ⟨.struct [(3, 0, 1), (9, 1, 1), (9, 2, 1), (22, 3, 1), (23, 4, 1)], 5, 88, .agg #[.int .i64 0, .string ⟨#[]⟩, .string ⟨#[]⟩, .slice none 0 0, .slice none 0 0]⟩),
  (25, ⟨.struct [(3, 0, 1), (9, 1, 1), (9, 2, 1), (22, 3, 1), (23, 4, 1)], 5, 88, .agg #[.int .i64 0, .string ⟨#[]⟩, .string ⟨#[]⟩, .slice none 0 0, .slice none 0 0]⟩),
  (26, ⟨.int .i64, 1, 8, .int .i64 0⟩),
  (28, ⟨.other, 1, 8, .nilFunc⟩),
  (30, ⟨.other, 1, 8, .nilFunc⟩),
  (31, ⟨.other, 1, 8, .nilFunc⟩),
  (32, ⟨.other, 1, 8, .nilFunc⟩),
  (33, ⟨.other, 1, 8, .nilFunc⟩),
  (34, ⟨.int .u64, 1, 8, .int .u64 0⟩),
  (35, ⟨.other, 1, 8, .nilFunc⟩),
  (36, ⟨.other, 1, 8, .nilFunc⟩),
  (37, ⟨.other, 1, 8, .nilFunc⟩),
  (38, ⟨.other, 1, 8, .nilFunc⟩),
  (40, ⟨.other, 1, 8, .nilFunc⟩),
  (42, ⟨.other, 1, 8, .nilFunc⟩),
  (43, ⟨.other, 1, 8, .nilFunc⟩),
  (44, ⟨.other, 1, 8, .nilFunc⟩),
  (45, ⟨.ptr 47, 1, 8, .pointer none⟩),
  (46, ⟨.struct [(9, 0, 1), (3, 1, 1)], 2, 24, .agg #[.string ⟨#[]⟩, .int .i64 0]⟩),
  (47, ⟨.struct [(9, 0, 1), (3, 1, 1)], 2, 24, .agg #[.string ⟨#[]⟩, .int .i64 0]⟩),
  (48, ⟨.other, 1, 8, .nilFunc⟩),
  (49, ⟨.ptr 51, 1, 8, .pointer none⟩),
  (50, ⟨.struct [(9, 0, 1), (3, 1, 1), (3, 2, 1), (3, 3, 1)], 4, 40, .agg #[.string ⟨#[]⟩, .int .i64 0, .int .i64 0, .int .i64 0]⟩),
  (51, ⟨.struct [(9, 0, 1), (3, 1, 1), (3, 2, 1), (3, 3, 1)], 4, 40, .agg #[.string ⟨#[]⟩, .int .i64 0, .int .i64 0, .int .i64 0]⟩),
  (52, ⟨.other, 1, 8, .nilFunc⟩),
  (53, ⟨.struct [(3, 0, 1), (9, 1, 1)], 2, 24, .agg #[.int .i64 0, .string ⟨#[]⟩]⟩),
  (54, ⟨.struct [(3, 0, 1), (9, 1, 1)], 2, 24, .agg #[.int .i64 0, .string ⟨#[]⟩]⟩),
  (55, ⟨.ptr 57, 1, 8, .pointer none⟩),
  (56, ⟨.struct [(3, 0, 1)], 1, 8, .agg #[.int .i64 0]⟩),
  (57, ⟨.struct [(3, 0, 1)], 1, 8, .agg #[.int .i64 0]⟩),
  (58, ⟨.other, 1, 8, .nilFunc⟩),
  (60, ⟨.other, 1, 8, .nilFunc⟩),
  (61, ⟨.other, 1, 8, .nilFunc⟩),
  (63, ⟨.other, 1, 8, .nilFunc⟩),
  (64, ⟨.slice 9, 1, 24, .slice none 0 0⟩),
  (65, ⟨.other, 1, 8, .nilFunc⟩),
  (66, ⟨.other, 1, 8, .nilFunc⟩),
  (67, ⟨.other, 1, 8, .nilFunc⟩),
  (68, ⟨.other, 1, 8, .nilFunc⟩),
  (69, ⟨.other, 1, 8, .nilFunc⟩),
  (70, ⟨.array 4 3, 4, 32, .agg #[.int .i64 0, .int .i64 0, .int .i64 0, .int .i64 0]⟩),
  (71, ⟨.array 4 9, 4, 64, .agg #[.string ⟨#[]⟩, .string ⟨#[]⟩, .string ⟨#[]⟩, .string ⟨#[]⟩]⟩),
  (72, ⟨.other, 1, 8, .nilFunc⟩),
  (73, ⟨.other, 1, 8, .nilFunc⟩),
  (75, ⟨.other, 1, 8, .nilFunc⟩),
  (76, ⟨.other, 1, 8, .nilFunc⟩),
  (77, ⟨.other, 1, 8, .nilFunc⟩),
  (78, ⟨.slice 5, 1, 24, .slice none 0 0⟩),
  (79, ⟨.other, 1, 8, .nilFunc⟩),
  (80, ⟨.other, 1, 8, .nilFunc⟩),
  (81, ⟨.other, 1, 8, .nilFunc⟩),
  (82, ⟨.other, 1, 8, .nilFunc⟩),
  (83, ⟨.other, 1, 8, .nilFunc⟩),
  (87, ⟨.other, 1, 8, .nilFunc⟩),
  (88, ⟨.other, 1, 8, .nilFunc⟩),
  (89, ⟨.other, 1, 8, .nilFunc⟩),
  (90, ⟨.other, 1, 8, .nilFunc⟩),
  (91, ⟨.ptr 85, 1, 8, .pointer none⟩),
  (92, ⟨.other, 1, 8, .nilFunc⟩),
  (94, ⟨.other, 1, 8, .nilFunc⟩),
  (95, ⟨.other, 1, 8, .nilFunc⟩),
  (97, ⟨.other, 1, 8, .nilFunc⟩),
  (98, ⟨.int .u32, 1, 4, .int .u32 0⟩),
  (100, ⟨.other, 1, 8, .nilFunc⟩),
  (102, ⟨.struct [(5, 0, 1), (5, 1, 1)], 2, 2, .agg #[.int .u8 0, .int .u8 0]⟩),
  (103, ⟨.struct [(5, 0, 1), (5, 1, 1)], 2, 2, .agg #[.int .u8 0, .int .u8 0]⟩),
  (104, ⟨.array 16 103, 32, 32, .agg #[.int .u8 0, .int .u8 0, .int .u8 0, .int .u8 0, .int .u8 0, .int .u8 0, .int .u8 0, .int .u8 0, .int .u8 0, .int .u8 0, .int .u8 0, .int .u8 0, .int .u8 0, .int .u8 0, .int .u8 0, .int .u8 0, .int .u8 0, .int .u8 0, .int .u8 0, .int .u8 0, .int .u8 0, .int .u8 0, .int .u8 0, .int .u8 0, .int .u8 0, .int .u8 0, .int .u8 0, .int .u8 0, .int .u8 0, .int .u8 0, .int .u8 0, .int .u8 0]⟩),
  (105, ⟨.other, 1, 8, .nilFunc⟩),
  (111, ⟨.other, 1, 8, .nilFunc⟩),
  (114, ⟨.other, 1, 8, .nilFunc⟩),
  (115, ⟨.ptr 5, 1, 8, .pointer none⟩)]
theorem tyf1 : TD.fits Tryd.prog 1 (.other) := trivial
theorem tyi1 : (Tryd.prog.info? 1).map (fun i => (i.size, i.bytes, i.zero)) = some (1, 8, some (.nilFunc)) := by kernel_rfl
theorem tyf2 : Tryd.prog.underlying 2 = some (.int .i64) := by kernel_rfl
theorem tyi2 : (Tryd.prog.info? 2).map (fun i => (i.size, i.bytes, i.zero)) = some (1, 8, some (.int .i64 0)) := by kernel_rfl
theorem tyf3 : Tryd.prog.underlying 3 = some (.int .i64) := by kernel_rfl
theorem tyi3 : (Tryd.prog.info? 3).map (fun i => (i.size, i.bytes, i.zero)) = some (1, 8, some (.int .i64 0)) := by kernel_rfl
theorem tyf4 : Tryd.prog.underlying 4 = some .bool := by kernel_rfl
theorem tyi4 : (Tryd.prog.info? 4).map (fun i => (i.size, i.bytes, i.zero)) = some (1, 1, some (.bool false)) := by kernel_rfl
theorem tyf5 : Tryd.prog.underlying 5 = some (.int .u8) := by kernel_rfl
theorem tyi5 : (Tryd.prog.info? 5).map (fun i => (i.size, i.bytes, i.zero)) = some (1, 1, some (.int .u8 0)) := by kernel_rfl
theorem tyf9 : Tryd.prog.underlying 9 = some .string := by kernel_rfl
theorem tyi9 : (Tryd.prog.info? 9).map (fun i => (i.size, i.bytes, i.zero)) = some (1, 16, some (.string ⟨#[]⟩)) := by kernel_rfl
theorem tyf12 : Tryd.prog.underlying 12 = some (.int .u64) := by kernel_rfl
theorem tyi12 : (Tryd.prog.info? 12).map (fun i => (i.size, i.bytes, i.zero)) = some (1, 8, some (.int .u64 0)) := by kernel_rfl
theorem tyf13 : structOf Tryd.prog 13 = some [(9, 0, some 1), (12, 1, some 1)] := by kernel_rfl
theorem tyi13 : (Tryd.prog.info? 13).map (fun i => (i.size, i.bytes, i.zero)) = some (2, 24, some (.agg #[.string ⟨#[]⟩, .int .u64 0])) := by kernel_rfl
theorem tyf20 : TD.fits Tryd.prog 20 (.other) := trivial
theorem tyi20 : (Tryd.prog.info? 20).map (fun i => (i.size, i.bytes, i.zero)) = some (1, 16, some (.nilIface)) := by kernel_rfl
theorem tyf21 : Tryd.prog.underlying 21 = some (.int .i32) := by kernel_rfl
theorem tyi21 : (Tryd.prog.info? 21).map (fun i => (i.size, i.bytes, i.zero)) = some (1, 4, some (.int .i32 0)) := by kernel_rfl
theorem tyf22 : Tryd.prog.underlying 22 = some (.slice 54) := by kernel_rfl
theorem tyi22 : (Tryd.prog.info? 22).map (fun i => (i.size, i.bytes, i.zero)) = some (1, 24, some (.slice none 0 0)) := by kernel_rfl
theorem tyf23 : Tryd.prog.underlying 23 = some (.slice 25) := by kernel_rfl
theorem tyi23 : (Tryd.prog.info? 23).map (fun i => (i.size, i.bytes, i.zero)) = some (1, 24, some (.slice none 0 0)) := by kernel_rfl
theorem tyf24 : structOf Tryd.prog 24 = some [(3, 0, some 1), (9, 1, some 1), (9, 2, some 1), (22, 3, some 1), (23, 4, some 1)] := by kernel_rfl
theorem tyi24 : (Tryd.prog.info? 24).map (fun i => (i.size, i.bytes, i.zero)) = some (5, 88, some (.agg #[.int .i64 0, .string ⟨#[]⟩, .string ⟨#[]⟩, .slice none 0 0, .slice none 0 0])) := by kernel_rfl
theorem tyf25 : structOf Tryd.prog 25 = some [(3, 0, some 1), (9, 1, some 1), (9, 2, some 1), (22, 3, some 1), (23, 4, some 1)] := by kernel_rfl
theorem tyi25 : (Tryd.prog.info? 25).map (fun i => (i.size, i.bytes, i.zero)) = some (5, 88, some (.agg #[.int .i64 0, .string ⟨#[]⟩, .string ⟨#[]⟩, .slice none 0 0, .slice none 0 0])) := by kernel_rfl
theorem tyf26 : Tryd.prog.underlying 26 = some (.int .i64) := by kernel_rfl
theorem tyi26 : (Tryd.prog.info? 26).map (fun i => (i.size, i.bytes, i.zero)) = some (1, 8, some (.int .i64 0)) := by kernel_rfl
theorem tyf28 : TD.fits Tryd.prog 28 (.other) := trivial
theorem tyi28 : (Tryd.prog.info? 28).map (fun i => (i.size, i.bytes, i.zero)) = some (1, 8, some (.nilFunc)) := by kernel_rfl
theorem tyf30 : TD.fits Tryd.prog 30 (.other) := trivial
theorem tyi30 : (Tryd.prog.info? 30).map (fun i => (i.size, i.bytes, i.zero)) = some (1, 8, some (.nilFunc)) := by kernel_rfl
theorem tyf31 : TD.fits Tryd.prog 31 (.other) := trivial
theorem tyi31 : (Tryd.prog.info? 31).map (fun i => (i.size, i.bytes, i.zero)) = some (1, 8, some (.nilFunc)) := by kernel_rfl
theorem tyf32 : TD.fits Tryd.prog 32 (.other) := trivial
theorem tyi32 : (Tryd.prog.info? 32).map (fun i => (i.size, i.bytes, i.zero)) = some (1, 8, some (.nilFunc)) := by kernel_rfl
theorem tyf33 : TD.fits Tryd.prog 33 (.other) := trivial
theorem tyi33 : (Tryd.prog.info? 33).map (fun i => (i.size, i.bytes, i.zero)) = some (1, 8, some (.nilFunc)) := by kernel_rfl
theorem tyf34 : Tryd.prog.underlying 34 = some (.int .u64) := by kernel_rfl
theorem tyi34 : (Tryd.prog.info? 34).map (fun i => (i.size, i.bytes, i.zero)) = some (1, 8, some (.int .u64 0)) := by kernel_rfl
theorem tyf35 : TD.fits Tryd.prog 35 (.other) := trivial
theorem tyi35 : (Tryd.prog.info? 35).map (fun i => (i.size, i.bytes, i.zero)) = some (1, 8, some (.nilFunc)) := by kernel_rfl
theorem tyf36 : TD.fits Tryd.prog 36 (.other) := trivial
theorem tyi36 : (Tryd.prog.info? 36).map (fun i => (i.size, i.bytes, i.zero)) = some (1, 8, some (.nilFunc)) := by kernel_rfl
theorem tyf37 : TD.fits Tryd.prog 37 (.other) := trivial
theorem tyi37 : (Tryd.prog.info? 37).map (fun i => (i.size, i.bytes, i.zero)) = some (1, 8, some (.nilFunc)) := by kernel_rfl
theorem tyf38 : TD.fits Tryd.prog 38 (.other) := trivial
theorem tyi38 : (Tryd.prog.info? 38).map (fun i => (i.size, i.bytes, i.zero)) = some (1, 8, some (.nilFunc)) := by kernel_rfl
theorem tyf40 : TD.fits Tryd.prog 40 (.other) := trivial
theorem tyi40 : (Tryd.prog.info? 40).map (fun i => (i.size, i.bytes, i.zero)) = some (1, 8, some (.nilFunc)) := by kernel_rfl
theorem tyf42 : TD.fits Tryd.prog 42 (.other) := trivial
theorem tyi42 : (Tryd.prog.info? 42).map (fun i => (i.size, i.bytes, i.zero)) = some (1, 8, some (.nilFunc)) := by kernel_rfl
theorem tyf43 : TD.fits Tryd.prog 43 (.other) := trivial
theorem tyi43 : (Tryd.prog.info? 43).map (fun i => (i.size, i.bytes, i.zero)) = some (1, 8, some (.nilFunc)) := by kernel_rfl
theorem tyf44 : TD.fits Tryd.prog 44 (.other) := trivial
theorem tyi44 : (Tryd.prog.info? 44).map (fun i => (i.size, i.bytes, i.zero)) = some (1, 8, some (.nilFunc)) := by kernel_rfl
theorem tyf45 : Tryd.prog.underlying 45 = some (.pointer 47) := by kernel_rfl
theorem tyi45 : (Tryd.prog.info? 45).map (fun i => (i.size, i.bytes, i.zero)) = some (1, 8, some (.pointer none)) := by kernel_rfl
theorem tyf46 : structOf Tryd.prog 46 = some [(9, 0, some 1), (3, 1, some 1)] := by kernel_rfl
theorem tyi46 : (Tryd.prog.info? 46).map (fun i => (i.size, i.bytes, i.zero)) = some (2, 24, some (.agg #[.string ⟨#[]⟩, .int .i64 0])) := by kernel_rfl
theorem tyf47 : structOf Tryd.prog 47 = some [(9, 0, some 1), (3, 1, some 1)] := by kernel_rfl
theorem tyi47 : (Tryd.prog.info? 47).map (fun i => (i.size, i.bytes, i.zero)) = some (2, 24, some (.agg #[.string ⟨#[]⟩, .int .i64 0])) := by kernel_rfl
theorem tyf48 : TD.fits Tryd.prog 48 (.other) := trivial
theorem tyi48 : (Tryd.prog.info? 48).map (fun i => (i.size, i.bytes, i.zero)) = some (1, 8, some (.nilFunc)) := by kernel_rfl
theorem tyf49 : Tryd.prog.underlying 49 = some (.pointer 51) := by kernel_rfl
theorem tyi49 : (Tryd.prog.info? 49).map (fun i => (i.size, i.bytes, i.zero)) = some (1, 8, some (.pointer none)) := by kernel_rfl
theorem tyf50 : structOf Tryd.prog 50 = some [(9, 0, some 1), (3, 1, some 1), (3, 2, some 1), (3, 3, some 1)] := by kernel_rfl
theorem tyi50 : (Tryd.prog.info? 50).map (fun i => (i.size, i.bytes, i.zero)) = some (4, 40, some (.agg #[.string ⟨#[]⟩, .int .i64 0, .int .i64 0, .int .i64 0])) := by kernel_rfl
theorem tyf51 : structOf Tryd.prog 51 = some [(9, 0, some 1), (3, 1, some 1), (3, 2, some 1), (3, 3, some 1)] := by kernel_rfl
theorem tyi51 : (Tryd.prog.info? 51).map (fun i => (i.size, i.bytes, i.zero)) = some (4, 40, some (.agg #[.string ⟨#[]⟩, .int .i64 0, .int .i64 0, .int .i64 0])) := by kernel_rfl
theorem tyf52 : TD.fits Tryd.prog 52 (.other) := trivial
theorem tyi52 : (Tryd.prog.info? 52).map (fun i => (i.size, i.bytes, i.zero)) = some (1, 8, some (.nilFunc)) := by kernel_rfl
theorem tyf53 : structOf Tryd.prog 53 = some [(3, 0, some 1), (9, 1, some 1)] := by kernel_rfl
theorem tyi53 : (Tryd.prog.info? 53).map (fun i => (i.size, i.bytes, i.zero)) = some (2, 24, some (.agg #[.int .i64 0, .string ⟨#[]⟩])) := by kernel_rfl
theorem tyf54 : structOf Tryd.prog 54 = some [(3, 0, some 1), (9, 1, some 1)] := by kernel_rfl
theorem tyi54 : (Tryd.prog.info? 54).map (fun i => (i.size, i.bytes, i.zero)) = some (2, 24, some (.agg #[.int .i64 0, .string ⟨#[]⟩])) := by kernel_rfl
theorem tyf55 : Tryd.prog.underlying 55 = some (.pointer 57) := by kernel_rfl
theorem tyi55 : (Tryd.prog.info? 55).map (fun i => (i.size, i.bytes, i.zero)) = some (1, 8, some (.pointer none)) := by kernel_rfl
theorem tyf56 : structOf Tryd.prog 56 = some [(3, 0, some 1)] := by kernel_rfl
theorem tyi56 : (Tryd.prog.info? 56).map (fun i => (i.size, i.bytes, i.zero)) = some (1, 8, some (.agg #[.int .i64 0])) := by kernel_rfl
theorem tyf57 : structOf Tryd.prog 57 = some [(3, 0, some 1)] := by kernel_rfl
theorem tyi57 : (Tryd.prog.info? 57).map (fun i => (i.size, i.bytes, i.zero)) = some (1, 8, some (.agg #[.int .i64 0])) := by kernel_rfl
theorem tyf58 : TD.fits Tryd.prog 58 (.other) := trivial
theorem tyi58 : (Tryd.prog.info? 58).map (fun i => (i.size, i.bytes, i.zero)) = some (1, 8, some (.nilFunc)) := by kernel_rfl
theorem tyf60 : TD.fits Tryd.prog 60 (.other) := trivial
theorem tyi60 : (Tryd.prog.info? 60).map (fun i => (i.size, i.bytes, i.zero)) = some (1, 8, some (.nilFunc)) := by kernel_rfl
theorem tyf61 : TD.fits Tryd.prog 61 (.other) := trivial
theorem tyi61 : (Tryd.prog.info? 61).map (fun i => (i.size, i.bytes, i.zero)) = some (1, 8, some (.nilFunc)) := by kernel_rfl
theorem tyf63 : TD.fits Tryd.prog 63 (.other) := trivial
theorem tyi63 : (Tryd.prog.info? 63).map (fun i => (i.size, i.bytes, i.zero)) = some (1, 8, some (.nilFunc)) := by kernel_rfl
theorem tyf64 : Tryd.prog.underlying 64 = some (.slice 9) := by kernel_rfl
theorem tyi64 : (Tryd.prog.info? 64).map (fun i => (i.size, i.bytes, i.zero)) = some (1, 24, some (.slice none 0 0)) := by kernel_rfl
theorem tyf65 : TD.fits Tryd.prog 65 (.other) := trivial
theorem tyi65 : (Tryd.prog.info? 65).map (fun i => (i.size, i.bytes, i.zero)) = some (1, 8, some (.nilFunc)) := by kernel_rfl
theorem tyf66 : TD.fits Tryd.prog 66 (.other) := trivial
theorem tyi66 : (Tryd.prog.info? 66).map (fun i => (i.size, i.bytes, i.zero)) = some (1, 8, some (.nilFunc)) := by kernel_rfl
theorem tyf67 : TD.fits Tryd.prog 67 (.other) := trivial
theorem tyi67 : (Tryd.prog.info? 67).map (fun i => (i.size, i.bytes, i.zero)) = some (1, 8, some (.nilFunc)) := by kernel_rfl
theorem tyf68 : TD.fits Tryd.prog 68 (.other) := trivial
theorem tyi68 : (Tryd.prog.info? 68).map (fun i => (i.size, i.bytes, i.zero)) = some (1, 8, some (.nilFunc)) := by kernel_rfl
theorem tyf69 : TD.fits Tryd.prog 69 (.other) := trivial
theorem tyi69 : (Tryd.prog.info? 69).map (fun i => (i.size, i.bytes, i.zero)) = some (1, 8, some (.nilFunc)) := by kernel_rfl
theorem tyf70 : Tryd.prog.underlying 70 = some (.array 4 3) := by kernel_rfl
theorem tyi70 : (Tryd.prog.info? 70).map (fun i => (i.size, i.bytes, i.zero)) = some (4, 32, some (.agg #[.int .i64 0, .int .i64 0, .int .i64 0, .int .i64 0])) := by kernel_rfl
theorem tyf71 : Tryd.prog.underlying 71 = some (.array 4 9) := by kernel_rfl
theorem tyi71 : (Tryd.prog.info? 71).map (fun i => (i.size, i.bytes, i.zero)) = some (4, 64, some (.agg #[.string ⟨#[]⟩, .string ⟨#[]⟩, .string ⟨#[]⟩, .string ⟨#[]⟩])) := by kernel_rfl
theorem tyf72 : TD.fits Tryd.prog 72 (.other) := trivial
theorem tyi72 : (Tryd.prog.info? 72).map (fun i => (i.size, i.bytes, i.zero)) = some (1, 8, some (.nilFunc)) := by kernel_rfl
theorem tyf73 : TD.fits Tryd.prog 73 (.other) := trivial
theorem tyi73 : (Tryd.prog.info? 73).map (fun i => (i.size, i.bytes, i.zero)) = some (1, 8, some (.nilFunc)) := by kernel_rfl
theorem tyf75 : TD.fits Tryd.prog 75 (.other) := trivial
theorem tyi75 : (Tryd.prog.info? 75).map (fun i => (i.size, i.bytes, i.zero)) = some (1, 8, some (.nilFunc)) := by kernel_rfl
theorem tyf76 : TD.fits Tryd.prog 76 (.other) := trivial
theorem tyi76 : (Tryd.prog.info? 76).map (fun i => (i.size, i.bytes, i.zero)) = some (1, 8, some (.nilFunc)) := by kernel_rfl
theorem tyf77 : TD.fits Tryd.prog 77 (.other) := trivial
theorem tyi77 : (Tryd.prog.info? 77).map (fun i => (i.size, i.bytes, i.zero)) = some (1, 8, some (.nilFunc)) := by kernel_rfl
theorem tyf78 : Tryd.prog.underlying 78 = some (.slice 5) := by kernel_rfl
theorem tyi78 : (Tryd.prog.info? 78).map (fun i => (i.size, i.bytes, i.zero)) = some (1, 24, some (.slice none 0 0)) := by kernel_rfl
theorem tyf79 : TD.fits Tryd.prog 79 (.other) := trivial
theorem tyi79 : (Tryd.prog.info? 79).map (fun i => (i.size, i.bytes, i.zero)) = some (1, 8, some (.nilFunc)) := by kernel_rfl
theorem tyf80 : TD.fits Tryd.prog 80 (.other) := trivial
theorem tyi80 : (Tryd.prog.info? 80).map (fun i => (i.size, i.bytes, i.zero)) = some (1, 8, some (.nilFunc)) := by kernel_rfl
theorem tyf81 : TD.fits Tryd.prog 81 (.other) := trivial
theorem tyi81 : (Tryd.prog.info? 81).map (fun i => (i.size, i.bytes, i.zero)) = some (1, 8, some (.nilFunc)) := by kernel_rfl
theorem tyf82 : TD.fits Tryd.prog 82 (.other) := trivial
theorem tyi82 : (Tryd.prog.info? 82).map (fun i => (i.size, i.bytes, i.zero)) = some (1, 8, some (.nilFunc)) := by kernel_rfl
theorem tyf83 : TD.fits Tryd.prog 83 (.other) := trivial
theorem tyi83 : (Tryd.prog.info? 83).map (fun i => (i.size, i.bytes, i.zero)) = some (1, 8, some (.nilFunc)) := by kernel_rfl
theorem tyf87 : TD.fits Tryd.prog 87 (.other) := trivial
theorem tyi87 : (Tryd.prog.info? 87).map (fun i => (i.size, i.bytes, i.zero)) = some (1, 8, some (.nilFunc)) := by kernel_rfl
theorem tyf88 : TD.fits Tryd.prog 88 (.other) := trivial
theorem tyi88 : (Tryd.prog.info? 88).map (fun i => (i.size, i.bytes, i.zero)) = some (1, 8, some (.nilFunc)) := by kernel_rfl
theorem tyf89 : TD.fits Tryd.prog 89 (.other) := trivial
theorem tyi89 : (Tryd.prog.info? 89).map (fun i => (i.size, i.bytes, i.zero)) = some (1, 8, some (.nilFunc)) := by kernel_rfl
theorem tyf90 : TD.fits Tryd.prog 90 (.other) := trivial
theorem tyi90 : (Tryd.prog.info? 90).map (fun i => (i.size, i.bytes, i.zero)) = some (1, 8, some (.nilFunc)) := by kernel_rfl
theorem tyf91 : Tryd.prog.underlying 91 = some (.pointer 85) := by kernel_rfl
theorem tyi91 : (Tryd.prog.info? 91).map (fun i => (i.size, i.bytes, i.zero)) = some (1, 8, some (.pointer none)) := by kernel_rfl
theorem tyf92 : TD.fits Tryd.prog 92 (.other) := trivial
theorem tyi92 : (Tryd.prog.info? 92).map (fun i => (i.size, i.bytes, i.zero)) = some (1, 8, some (.nilFunc)) := by kernel_rfl
theorem tyf94 : TD.fits Tryd.prog 94 (.other) := trivial
theorem tyi94 : (Tryd.prog.info? 94).map (fun i => (i.size, i.bytes, i.zero)) = some (1, 8, some (.nilFunc)) := by kernel_rfl
theorem tyf95 : TD.fits Tryd.prog 95 (.other) := trivial
theorem tyi95 : (Tryd.prog.info? 95).map (fun i => (i.size, i.bytes, i.zero)) = some (1, 8, some (.nilFunc)) := by kernel_rfl
theorem tyf97 : TD.fits Tryd.prog 97 (.other) := trivial
theorem tyi97 : (Tryd.prog.info? 97).map (fun i => (i.size, i.bytes, i.zero)) = some (1, 8, some (.nilFunc)) := by kernel_rfl
theorem tyf98 : Tryd.prog.underlying 98 = some (.int .u32) := by kernel_rfl
theorem tyi98 : (Tryd.prog.info? 98).map (fun i => (i.size, i.bytes, i.zero)) = some (1, 4, some (.int .u32 0)) := by kernel_rfl
theorem tyf100 : TD.fits Tryd.prog 100 (.other) := trivial
theorem tyi100 : (Tryd.prog.info? 100).map (fun i => (i.size, i.bytes, i.zero)) = some (1, 8, some (.nilFunc)) := by kernel_rfl
theorem tyf102 : structOf Tryd.prog 102 = some [(5, 0, some 1), (5, 1, some 1)] := by kernel_rfl
theorem tyi102 : (Tryd.prog.info? 102).map (fun i => (i.size, i.bytes, i.zero)) = some (2, 2, some (.agg #[.int .u8 0, .int .u8 0])) := by kernel_rfl
theorem tyf103 : structOf Tryd.prog 103 = some [(5, 0, some 1), (5, 1, some 1)] := by kernel_rfl
theorem tyi103 : (Tryd.prog.info? 103).map (fun i => (i.size, i.bytes, i.zero)) = some (2, 2, some (.agg #[.int .u8 0, .int .u8 0])) := by kernel_rfl
theorem tyf104 : Tryd.prog.underlying 104 = some (.array 16 103) := by kernel_rfl
theorem tyi104 : (Tryd.prog.info? 104).map (fun i => (i.size, i.bytes, i.zero)) = some (32, 32, some (.agg #[.int .u8 0, .int .u8 0, .int .u8 0, .int .u8 0, .int .u8 0, .int .u8 0, .int .u8 0, .int .u8 0, .int .u8 0, .int .u8 0, .int .u8 0, .int .u8 0, .int .u8 0, .int .u8 0, .int .u8 0, .int .u8 0, .int .u8 0, .int .u8 0, .int .u8 0, .int .u8 0, .int .u8 0, .int .u8 0, .int .u8 0, .int .u8 0, .int .u8 0, .int .u8 0, .int .u8 0, .int .u8 0, .int .u8 0, .int .u8 0, .int .u8 0, .int .u8 0])) := by kernel_rfl
theorem tyf105 : TD.fits Tryd.prog 105 (.other) := trivial
theorem tyi105 : (Tryd.prog.info? 105).map (fun i => (i.size, i.bytes, i.zero)) = some (1, 8, some (.nilFunc)) := by kernel_rfl
theorem tyf111 : TD.fits Tryd.prog 111 (.other) := trivial
theorem tyi111 : (Tryd.prog.info? 111).map (fun i => (i.size, i.bytes, i.zero)) = some (1, 8, some (.nilFunc)) := by kernel_rfl
theorem tyf114 : TD.fits Tryd.prog 114 (.other) := trivial
theorem tyi114 : (Tryd.prog.info? 114).map (fun i => (i.size, i.bytes, i.zero)) = some (1, 8, some (.nilFunc)) := by kernel_rfl
theorem tyf115 : Tryd.prog.underlying 115 = some (.pointer 5) := by kernel_rfl
theorem tyi115 : (Tryd.prog.info? 115).map (fun i => (i.size, i.bytes, i.zero)) = some (1, 8, some (.pointer none)) := by kernel_rfl
set_option maxRecDepth 20000 in
theorem tyOk : allOk Tryd.prog tyTab :=
  ⟨tyf1, tyi1,
  tyf2, tyi2,
  tyf3, tyi3,
  tyf4, tyi4,
  tyf5, tyi5,
  tyf9, tyi9,
  tyf12, tyi12,
  tyf13, tyi13,
  tyf20, tyi20,
  tyf21, tyi21,
  tyf22, tyi22,
  tyf23, tyi23,
  tyf24, tyi24,
  tyf25, tyi25,
  tyf26, tyi26,
  tyf28, tyi28,
  tyf30, tyi30,
  tyf31, tyi31,
  tyf32, tyi32,
  tyf33, tyi33,
  tyf34, tyi34,
  tyf35, tyi35,
  tyf36, tyi36,
  tyf37, tyi37,
  tyf38, tyi38,
  tyf40, tyi40,
  tyf42, tyi42,
  tyf43, tyi43,
  tyf44, tyi44,
  tyf45, tyi45,
  tyf46, tyi46,
  tyf47, tyi47,
  tyf48, tyi48,
  tyf49, tyi49,
  tyf50, tyi50,
  tyf51, tyi51,
  tyf52, tyi52,
  tyf53, tyi53,
  tyf54, tyi54,
  tyf55, tyi55,
  tyf56, tyi56,
  tyf57, tyi57,
  tyf58, tyi58,
  tyf60, tyi60,
  tyf61, tyi61,
  tyf63, tyi63,
  tyf64, tyi64,
  tyf65, tyi65,
  tyf66, tyi66,
  tyf67, tyi67,
  tyf68, tyi68,
  tyf69, tyi69,
  tyf70, tyi70,
  tyf71, tyi71,
  tyf72, tyi72,
  tyf73, tyi73,
  tyf75, tyi75,
  tyf76, tyi76,
  tyf77, tyi77,
  tyf78, tyi78,
  tyf79, tyi79,
  tyf80, tyi80,
  tyf81, tyi81,
  tyf82, tyi82,
  tyf83, tyi83,
  tyf87, tyi87,
  tyf88, tyi88,
  tyf89, tyi89,
  tyf90, tyi90,
  tyf91, tyi91,
  tyf92, tyi92,
  tyf94, tyi94,
  tyf95, tyi95,
  tyf97, tyi97,
  tyf98, tyi98,
  tyf100, tyi100,
  tyf102, tyi102,
  tyf103, tyi103,
  tyf104, tyi104,
  tyf105, tyi105,
  tyf111, tyi111,
  tyf114, tyi114,
  tyf115, tyi115, trivial⟩
/-- A type's row, by looking. -/
theorem tyy {t : Nat} {d : TD} {sz by_ : Nat} {z : Value} (h : tlook tyTab t = some ⟨d, sz, by_, z⟩) : Ty Tryd.prog t d sz by_ z := tlook_ok tyOk h
def slB (t : Nat) : Bool := match tlook tyTab t with
  | some ⟨.slice _, _, _, _⟩ => true
  | _ => false
theorem mixedOk : Tryd.prog.follows .mixedOrders = true := by kernel_rfl
end Go.Proofs.YtcghcdnmpjhifaaDoor
