/- The table of types of this seat's program, printed by tyenv.py. -/
import Derived.Test.YtahpemfnhepgoaaLtC
import Derived.Test.YtahpemfnhepgoaaProg
import Derived.KernelRfl
namespace Go.Proofs.Ytahpemfnhepgoaa

set_option linter.all false
def tyTab : List (Nat × TRow) := [(1, ⟨.other, 1, 8, .nilFunc⟩),
  (2, ⟨.int .i64, 1, 8, .int .i64 0⟩),
  (3, ⟨.int .i64, 1, 8, .int .i64 0⟩),
  (4, ⟨.bool, 1, 1, .bool false⟩),
  (5, ⟨.int .u8, 1, 1, .int .u8 0⟩),
  (9, ⟨.str, 1, 16, .string ⟨#[]⟩⟩),
  (12, ⟨.int .u64, 1, 8, .int .u64 0⟩),
  (13, ⟨.struct [(9, 0, 1), (12, 1, 1)], 2, 24, .agg #[.string ⟨#[]⟩, .int .u64 0]⟩),
  (20, ⟨.other, 1, 16, .nilIface⟩),
  (21, ⟨.int .i32, 1, 4, .int .i32 0⟩),
  (22, ⟨.slice 45, 1, 24, .slice none 0 0⟩),
  (23, ⟨.slice 45, 1, 24, .slice none 0 0⟩),
  (24, ⟨.int .i64, 1, 8, .int .i64 0⟩),
  (26, ⟨.other, 1, 8, .nilFunc⟩),
  (28, ⟨.other, 1, 8, .nilFunc⟩),
  (29, ⟨.other, 1, 8, .nilFunc⟩),
  (30, ⟨.other, 1, 8, .nilFunc⟩),
  (31, ⟨.other, 1, 8, .nilFunc⟩),
  (32, ⟨.other, 1, 8, .nilFunc⟩),
  (34, ⟨.other, 1, 8, .nilFunc⟩),
  (36, ⟨.other, 1, 8, .nilFunc⟩),
  (37, ⟨.other, 1, 8, .nilFunc⟩),
  (38, ⟨.other, 1, 8, .nilFunc⟩),
  (39, ⟨.other, 1, 8, .nilFunc⟩),
  (40, ⟨.slice 5, 1, 24, .slice none 0 0⟩),
  (41, ⟨.int .u64, 1, 8, .int .u64 0⟩),
  (42, ⟨.other, 1, 8, .nilFunc⟩),
  (43, ⟨.other, 1, 8, .nilFunc⟩),
  (44, ⟨.slice 51, 1, 24, .slice none 0 0⟩),
  (45, ⟨.slice 51, 1, 24, .slice none 0 0⟩),
  (47, ⟨.other, 1, 8, .nilFunc⟩),
  (48, ⟨.other, 1, 8, .nilFunc⟩),
  (49, ⟨.other, 1, 8, .nilFunc⟩),
  (50, ⟨.struct [(9, 0, 1), (9, 1, 1)], 2, 32, .agg #[.string ⟨#[]⟩, .string ⟨#[]⟩]⟩),
  (51, ⟨.struct [(9, 0, 1), (9, 1, 1)], 2, 32, .agg #[.string ⟨#[]⟩, .string ⟨#[]⟩]⟩),
  (53, ⟨.other, 1, 8, .nilFunc⟩),
  (54, ⟨.other, 1, 8, .nilFunc⟩),
  (55, ⟨.other, 1, 8, .nilFunc⟩),
  (56, ⟨.other, 1, 8, .nilFunc⟩),
  (57, ⟨.other, 1, 8, .nilFunc⟩),
  (58, ⟨.other, 1, 8, .nilFunc⟩),
  (59, ⟨.other, 1, 8, .nilFunc⟩),
  (60, ⟨.other, 1, 8, .nilFunc⟩),
  (61, ⟨.other, 1, 8, .nilFunc⟩),
  (62, ⟨.other, 1, 8, .nilFunc⟩),
  (63, ⟨.other, 1, 8, .nilFunc⟩),
  (65, ⟨.other, 1, 8, .nilFunc⟩),
  (66, ⟨.slice 9, 1, 24, .slice none 0 0⟩),
  (67, ⟨.other, 1, 8, .nilFunc⟩),
  (68, ⟨.other, 1, 8, .nilFunc⟩),
  (69, ⟨.slice 23, 1, 24, .slice none 0 0⟩),
  (70, ⟨.other, 1, 8, .nilFunc⟩),
  (71, ⟨.other, 1, 8, .nilFunc⟩),
  (72, ⟨.other, 1, 8, .nilFunc⟩),
  (74, ⟨.other, 1, 8, .nilFunc⟩),
  (75, ⟨.other, 1, 8, .nilFunc⟩),
  (76, ⟨.other, 1, 8, .nilFunc⟩),
  (77, ⟨.other, 1, 8, .nilFunc⟩),
  (78, ⟨.ptr 80, 1, 8, .pointer none⟩),
  (79, ⟨.struct [(78, 0, 1), (40, 1, 1)], 2, 32, .agg #[.pointer none, .slice none 0 0]⟩),
  (80, ⟨.struct [(78, 0, 1), (40, 1, 1)], 2, 32, .agg #[.pointer none, .slice none 0 0]⟩),
  (81, ⟨.other, 1, 8, .nilFunc⟩),
  (82, ⟨.other, 1, 16, .nilIface⟩),
  (83, ⟨.other, 1, 16, .nilIface⟩),
  (85, ⟨.other, 1, 8, .nilFunc⟩),
  (86, ⟨.other, 1, 8, .nilFunc⟩),
  (87, ⟨.other, 1, 8, .nilFunc⟩),
  (88, ⟨.other, 1, 8, .nilFunc⟩),
  (89, ⟨.int .i64, 1, 8, .int .i64 0⟩),
  (91, ⟨.other, 1, 8, .nilFunc⟩),
  (92, ⟨.other, 1, 8, .nilFunc⟩),
  (93, ⟨.other, 1, 8, .nilFunc⟩),
  (94, ⟨.other, 1, 8, .nilFunc⟩),
  (96, ⟨.other, 1, 8, .nilFunc⟩),
  (97, ⟨.other, 1, 8, .nilFunc⟩),
  (98, ⟨.int .u32, 1, 4, .int .u32 0⟩),
  (99, ⟨.other, 1, 8, .nilFunc⟩),
  (100, ⟨.int .u64, 1, 8, .int .u64 0⟩),
  (101, ⟨.ptr 5, 1, 8, .pointer none⟩),
  (103, ⟨.other, 1, 8, .nilFunc⟩),
  (104, ⟨.int .u64, 1, 8, .int .u64 0⟩),
  (105, ⟨.other, 1, 8, .nilFunc⟩),
  (106, ⟨.other, 1, 8, .nilFunc⟩),
  (107, ⟨.other, 1, 8, .nilFunc⟩),
  (108, ⟨.ptr 3, 1, 8, .pointer none⟩),
  (109, ⟨.other, 1, 8, .nilFunc⟩),
  (111, ⟨.other, 1, 8, .nilFunc⟩),
  (112, ⟨.other, 1, 8, .nilFunc⟩),
  (113, ⟨.ptr 104, 1, 8, .pointer none⟩),
  (115, ⟨.other, 1, 8, .nilFunc⟩),
  (121, ⟨.other, 1, 8, .nilFunc⟩),
  (124, ⟨.other, 1, 8, .nilFunc⟩)]
theorem tyf1 : TD.fits Try.prog 1 (.other) := trivial
theorem tyi1 : (Try.prog.info? 1).map (fun i => (i.size, i.bytes, i.zero)) = some (1, 8, some (.nilFunc)) := by kernel_rfl
theorem tyf2 : Try.prog.underlying 2 = some (.int .i64) := by kernel_rfl
theorem tyi2 : (Try.prog.info? 2).map (fun i => (i.size, i.bytes, i.zero)) = some (1, 8, some (.int .i64 0)) := by kernel_rfl
theorem tyf3 : Try.prog.underlying 3 = some (.int .i64) := by kernel_rfl
theorem tyi3 : (Try.prog.info? 3).map (fun i => (i.size, i.bytes, i.zero)) = some (1, 8, some (.int .i64 0)) := by kernel_rfl
theorem tyf4 : Try.prog.underlying 4 = some .bool := by kernel_rfl
theorem tyi4 : (Try.prog.info? 4).map (fun i => (i.size, i.bytes, i.zero)) = some (1, 1, some (.bool false)) := by kernel_rfl
theorem tyf5 : Try.prog.underlying 5 = some (.int .u8) := by kernel_rfl
theorem tyi5 : (Try.prog.info? 5).map (fun i => (i.size, i.bytes, i.zero)) = some (1, 1, some (.int .u8 0)) := by kernel_rfl
theorem tyf9 : Try.prog.underlying 9 = some .string := by kernel_rfl
theorem tyi9 : (Try.prog.info? 9).map (fun i => (i.size, i.bytes, i.zero)) = some (1, 16, some (.string ⟨#[]⟩)) := by kernel_rfl
theorem tyf12 : Try.prog.underlying 12 = some (.int .u64) := by kernel_rfl
theorem tyi12 : (Try.prog.info? 12).map (fun i => (i.size, i.bytes, i.zero)) = some (1, 8, some (.int .u64 0)) := by kernel_rfl
theorem tyf13 : structOf Try.prog 13 = some [(9, 0, some 1), (12, 1, some 1)] := by kernel_rfl
theorem tyi13 : (Try.prog.info? 13).map (fun i => (i.size, i.bytes, i.zero)) = some (2, 24, some (.agg #[.string ⟨#[]⟩, .int .u64 0])) := by kernel_rfl
theorem tyf20 : TD.fits Try.prog 20 (.other) := trivial
theorem tyi20 : (Try.prog.info? 20).map (fun i => (i.size, i.bytes, i.zero)) = some (1, 16, some (.nilIface)) := by kernel_rfl
theorem tyf21 : Try.prog.underlying 21 = some (.int .i32) := by kernel_rfl
theorem tyi21 : (Try.prog.info? 21).map (fun i => (i.size, i.bytes, i.zero)) = some (1, 4, some (.int .i32 0)) := by kernel_rfl
theorem tyf22 : Try.prog.underlying 22 = some (.slice 45) := by kernel_rfl
theorem tyi22 : (Try.prog.info? 22).map (fun i => (i.size, i.bytes, i.zero)) = some (1, 24, some (.slice none 0 0)) := by kernel_rfl
theorem tyf23 : Try.prog.underlying 23 = some (.slice 45) := by kernel_rfl
theorem tyi23 : (Try.prog.info? 23).map (fun i => (i.size, i.bytes, i.zero)) = some (1, 24, some (.slice none 0 0)) := by kernel_rfl
theorem tyf24 : Try.prog.underlying 24 = some (.int .i64) := by kernel_rfl
theorem tyi24 : (Try.prog.info? 24).map (fun i => (i.size, i.bytes, i.zero)) = some (1, 8, some (.int .i64 0)) := by kernel_rfl
theorem tyf26 : TD.fits Try.prog 26 (.other) := trivial
theorem tyi26 : (Try.prog.info? 26).map (fun i => (i.size, i.bytes, i.zero)) = some (1, 8, some (.nilFunc)) := by kernel_rfl
theorem tyf28 : TD.fits Try.prog 28 (.other) := trivial
theorem tyi28 : (Try.prog.info? 28).map (fun i => (i.size, i.bytes, i.zero)) = some (1, 8, some (.nilFunc)) := by kernel_rfl
theorem tyf29 : TD.fits Try.prog 29 (.other) := trivial
theorem tyi29 : (Try.prog.info? 29).map (fun i => (i.size, i.bytes, i.zero)) = some (1, 8, some (.nilFunc)) := by kernel_rfl
theorem tyf30 : TD.fits Try.prog 30 (.other) := trivial
theorem tyi30 : (Try.prog.info? 30).map (fun i => (i.size, i.bytes, i.zero)) = some (1, 8, some (.nilFunc)) := by kernel_rfl
theorem tyf31 : TD.fits Try.prog 31 (.other) := trivial
theorem tyi31 : (Try.prog.info? 31).map (fun i => (i.size, i.bytes, i.zero)) = some (1, 8, some (.nilFunc)) := by kernel_rfl
theorem tyf32 : TD.fits Try.prog 32 (.other) := trivial
theorem tyi32 : (Try.prog.info? 32).map (fun i => (i.size, i.bytes, i.zero)) = some (1, 8, some (.nilFunc)) := by kernel_rfl
theorem tyf34 : TD.fits Try.prog 34 (.other) := trivial
theorem tyi34 : (Try.prog.info? 34).map (fun i => (i.size, i.bytes, i.zero)) = some (1, 8, some (.nilFunc)) := by kernel_rfl
theorem tyf36 : TD.fits Try.prog 36 (.other) := trivial
theorem tyi36 : (Try.prog.info? 36).map (fun i => (i.size, i.bytes, i.zero)) = some (1, 8, some (.nilFunc)) := by kernel_rfl
theorem tyf37 : TD.fits Try.prog 37 (.other) := trivial
theorem tyi37 : (Try.prog.info? 37).map (fun i => (i.size, i.bytes, i.zero)) = some (1, 8, some (.nilFunc)) := by kernel_rfl
theorem tyf38 : TD.fits Try.prog 38 (.other) := trivial
theorem tyi38 : (Try.prog.info? 38).map (fun i => (i.size, i.bytes, i.zero)) = some (1, 8, some (.nilFunc)) := by kernel_rfl
theorem tyf39 : TD.fits Try.prog 39 (.other) := trivial
theorem tyi39 : (Try.prog.info? 39).map (fun i => (i.size, i.bytes, i.zero)) = some (1, 8, some (.nilFunc)) := by kernel_rfl
theorem tyf40 : Try.prog.underlying 40 = some (.slice 5) := by kernel_rfl
theorem tyi40 : (Try.prog.info? 40).map (fun i => (i.size, i.bytes, i.zero)) = some (1, 24, some (.slice none 0 0)) := by kernel_rfl
theorem tyf41 : Try.prog.underlying 41 = some (.int .u64) := by kernel_rfl
theorem tyi41 : (Try.prog.info? 41).map (fun i => (i.size, i.bytes, i.zero)) = some (1, 8, some (.int .u64 0)) := by kernel_rfl
theorem tyf42 : TD.fits Try.prog 42 (.other) := trivial
theorem tyi42 : (Try.prog.info? 42).map (fun i => (i.size, i.bytes, i.zero)) = some (1, 8, some (.nilFunc)) := by kernel_rfl
theorem tyf43 : TD.fits Try.prog 43 (.other) := trivial
theorem tyi43 : (Try.prog.info? 43).map (fun i => (i.size, i.bytes, i.zero)) = some (1, 8, some (.nilFunc)) := by kernel_rfl
theorem tyf44 : Try.prog.underlying 44 = some (.slice 51) := by kernel_rfl
theorem tyi44 : (Try.prog.info? 44).map (fun i => (i.size, i.bytes, i.zero)) = some (1, 24, some (.slice none 0 0)) := by kernel_rfl
theorem tyf45 : Try.prog.underlying 45 = some (.slice 51) := by kernel_rfl
theorem tyi45 : (Try.prog.info? 45).map (fun i => (i.size, i.bytes, i.zero)) = some (1, 24, some (.slice none 0 0)) := by kernel_rfl
theorem tyf47 : TD.fits Try.prog 47 (.other) := trivial
theorem tyi47 : (Try.prog.info? 47).map (fun i => (i.size, i.bytes, i.zero)) = some (1, 8, some (.nilFunc)) := by kernel_rfl
theorem tyf48 : TD.fits Try.prog 48 (.other) := trivial
theorem tyi48 : (Try.prog.info? 48).map (fun i => (i.size, i.bytes, i.zero)) = some (1, 8, some (.nilFunc)) := by kernel_rfl
theorem tyf49 : TD.fits Try.prog 49 (.other) := trivial
theorem tyi49 : (Try.prog.info? 49).map (fun i => (i.size, i.bytes, i.zero)) = some (1, 8, some (.nilFunc)) := by kernel_rfl
theorem tyf50 : structOf Try.prog 50 = some [(9, 0, some 1), (9, 1, some 1)] := by kernel_rfl
theorem tyi50 : (Try.prog.info? 50).map (fun i => (i.size, i.bytes, i.zero)) = some (2, 32, some (.agg #[.string ⟨#[]⟩, .string ⟨#[]⟩])) := by kernel_rfl
theorem tyf51 : structOf Try.prog 51 = some [(9, 0, some 1), (9, 1, some 1)] := by kernel_rfl
theorem tyi51 : (Try.prog.info? 51).map (fun i => (i.size, i.bytes, i.zero)) = some (2, 32, some (.agg #[.string ⟨#[]⟩, .string ⟨#[]⟩])) := by kernel_rfl
theorem tyf53 : TD.fits Try.prog 53 (.other) := trivial
theorem tyi53 : (Try.prog.info? 53).map (fun i => (i.size, i.bytes, i.zero)) = some (1, 8, some (.nilFunc)) := by kernel_rfl
theorem tyf54 : TD.fits Try.prog 54 (.other) := trivial
theorem tyi54 : (Try.prog.info? 54).map (fun i => (i.size, i.bytes, i.zero)) = some (1, 8, some (.nilFunc)) := by kernel_rfl
theorem tyf55 : TD.fits Try.prog 55 (.other) := trivial
theorem tyi55 : (Try.prog.info? 55).map (fun i => (i.size, i.bytes, i.zero)) = some (1, 8, some (.nilFunc)) := by kernel_rfl
theorem tyf56 : TD.fits Try.prog 56 (.other) := trivial
theorem tyi56 : (Try.prog.info? 56).map (fun i => (i.size, i.bytes, i.zero)) = some (1, 8, some (.nilFunc)) := by kernel_rfl
theorem tyf57 : TD.fits Try.prog 57 (.other) := trivial
theorem tyi57 : (Try.prog.info? 57).map (fun i => (i.size, i.bytes, i.zero)) = some (1, 8, some (.nilFunc)) := by kernel_rfl
theorem tyf58 : TD.fits Try.prog 58 (.other) := trivial
theorem tyi58 : (Try.prog.info? 58).map (fun i => (i.size, i.bytes, i.zero)) = some (1, 8, some (.nilFunc)) := by kernel_rfl
theorem tyf59 : TD.fits Try.prog 59 (.other) := trivial
theorem tyi59 : (Try.prog.info? 59).map (fun i => (i.size, i.bytes, i.zero)) = some (1, 8, some (.nilFunc)) := by kernel_rfl
theorem tyf60 : TD.fits Try.prog 60 (.other) := trivial
theorem tyi60 : (Try.prog.info? 60).map (fun i => (i.size, i.bytes, i.zero)) = some (1, 8, some (.nilFunc)) := by kernel_rfl
theorem tyf61 : TD.fits Try.prog 61 (.other) := trivial
theorem tyi61 : (Try.prog.info? 61).map (fun i => (i.size, i.bytes, i.zero)) = some (1, 8, some (.nilFunc)) := by kernel_rfl
theorem tyf62 : TD.fits Try.prog 62 (.other) := trivial
theorem tyi62 : (Try.prog.info? 62).map (fun i => (i.size, i.bytes, i.zero)) = some (1, 8, some (.nilFunc)) := by kernel_rfl
theorem tyf63 : TD.fits Try.prog 63 (.other) := trivial
theorem tyi63 : (Try.prog.info? 63).map (fun i => (i.size, i.bytes, i.zero)) = some (1, 8, some (.nilFunc)) := by kernel_rfl
theorem tyf65 : TD.fits Try.prog 65 (.other) := trivial
theorem tyi65 : (Try.prog.info? 65).map (fun i => (i.size, i.bytes, i.zero)) = some (1, 8, some (.nilFunc)) := by kernel_rfl
theorem tyf66 : Try.prog.underlying 66 = some (.slice 9) := by kernel_rfl
theorem tyi66 : (Try.prog.info? 66).map (fun i => (i.size, i.bytes, i.zero)) = some (1, 24, some (.slice none 0 0)) := by kernel_rfl
theorem tyf67 : TD.fits Try.prog 67 (.other) := trivial
theorem tyi67 : (Try.prog.info? 67).map (fun i => (i.size, i.bytes, i.zero)) = some (1, 8, some (.nilFunc)) := by kernel_rfl
theorem tyf68 : TD.fits Try.prog 68 (.other) := trivial
theorem tyi68 : (Try.prog.info? 68).map (fun i => (i.size, i.bytes, i.zero)) = some (1, 8, some (.nilFunc)) := by kernel_rfl
theorem tyf69 : Try.prog.underlying 69 = some (.slice 23) := by kernel_rfl
theorem tyi69 : (Try.prog.info? 69).map (fun i => (i.size, i.bytes, i.zero)) = some (1, 24, some (.slice none 0 0)) := by kernel_rfl
theorem tyf70 : TD.fits Try.prog 70 (.other) := trivial
theorem tyi70 : (Try.prog.info? 70).map (fun i => (i.size, i.bytes, i.zero)) = some (1, 8, some (.nilFunc)) := by kernel_rfl
theorem tyf71 : TD.fits Try.prog 71 (.other) := trivial
theorem tyi71 : (Try.prog.info? 71).map (fun i => (i.size, i.bytes, i.zero)) = some (1, 8, some (.nilFunc)) := by kernel_rfl
theorem tyf72 : TD.fits Try.prog 72 (.other) := trivial
theorem tyi72 : (Try.prog.info? 72).map (fun i => (i.size, i.bytes, i.zero)) = some (1, 8, some (.nilFunc)) := by kernel_rfl
theorem tyf74 : TD.fits Try.prog 74 (.other) := trivial
theorem tyi74 : (Try.prog.info? 74).map (fun i => (i.size, i.bytes, i.zero)) = some (1, 8, some (.nilFunc)) := by kernel_rfl
theorem tyf75 : TD.fits Try.prog 75 (.other) := trivial
theorem tyi75 : (Try.prog.info? 75).map (fun i => (i.size, i.bytes, i.zero)) = some (1, 8, some (.nilFunc)) := by kernel_rfl
theorem tyf76 : TD.fits Try.prog 76 (.other) := trivial
theorem tyi76 : (Try.prog.info? 76).map (fun i => (i.size, i.bytes, i.zero)) = some (1, 8, some (.nilFunc)) := by kernel_rfl
theorem tyf77 : TD.fits Try.prog 77 (.other) := trivial
theorem tyi77 : (Try.prog.info? 77).map (fun i => (i.size, i.bytes, i.zero)) = some (1, 8, some (.nilFunc)) := by kernel_rfl
theorem tyf78 : Try.prog.underlying 78 = some (.pointer 80) := by kernel_rfl
theorem tyi78 : (Try.prog.info? 78).map (fun i => (i.size, i.bytes, i.zero)) = some (1, 8, some (.pointer none)) := by kernel_rfl
theorem tyf79 : structOf Try.prog 79 = some [(78, 0, some 1), (40, 1, some 1)] := by kernel_rfl
theorem tyi79 : (Try.prog.info? 79).map (fun i => (i.size, i.bytes, i.zero)) = some (2, 32, some (.agg #[.pointer none, .slice none 0 0])) := by kernel_rfl
theorem tyf80 : structOf Try.prog 80 = some [(78, 0, some 1), (40, 1, some 1)] := by kernel_rfl
theorem tyi80 : (Try.prog.info? 80).map (fun i => (i.size, i.bytes, i.zero)) = some (2, 32, some (.agg #[.pointer none, .slice none 0 0])) := by kernel_rfl
theorem tyf81 : TD.fits Try.prog 81 (.other) := trivial
theorem tyi81 : (Try.prog.info? 81).map (fun i => (i.size, i.bytes, i.zero)) = some (1, 8, some (.nilFunc)) := by kernel_rfl
theorem tyf82 : TD.fits Try.prog 82 (.other) := trivial
theorem tyi82 : (Try.prog.info? 82).map (fun i => (i.size, i.bytes, i.zero)) = some (1, 16, some (.nilIface)) := by kernel_rfl
theorem tyf83 : TD.fits Try.prog 83 (.other) := trivial
theorem tyi83 : (Try.prog.info? 83).map (fun i => (i.size, i.bytes, i.zero)) = some (1, 16, some (.nilIface)) := by kernel_rfl
theorem tyf85 : TD.fits Try.prog 85 (.other) := trivial
theorem tyi85 : (Try.prog.info? 85).map (fun i => (i.size, i.bytes, i.zero)) = some (1, 8, some (.nilFunc)) := by kernel_rfl
theorem tyf86 : TD.fits Try.prog 86 (.other) := trivial
theorem tyi86 : (Try.prog.info? 86).map (fun i => (i.size, i.bytes, i.zero)) = some (1, 8, some (.nilFunc)) := by kernel_rfl
theorem tyf87 : TD.fits Try.prog 87 (.other) := trivial
theorem tyi87 : (Try.prog.info? 87).map (fun i => (i.size, i.bytes, i.zero)) = some (1, 8, some (.nilFunc)) := by kernel_rfl
theorem tyf88 : TD.fits Try.prog 88 (.other) := trivial
theorem tyi88 : (Try.prog.info? 88).map (fun i => (i.size, i.bytes, i.zero)) = some (1, 8, some (.nilFunc)) := by kernel_rfl
theorem tyf89 : Try.prog.underlying 89 = some (.int .i64) := by kernel_rfl
theorem tyi89 : (Try.prog.info? 89).map (fun i => (i.size, i.bytes, i.zero)) = some (1, 8, some (.int .i64 0)) := by kernel_rfl
theorem tyf91 : TD.fits Try.prog 91 (.other) := trivial
theorem tyi91 : (Try.prog.info? 91).map (fun i => (i.size, i.bytes, i.zero)) = some (1, 8, some (.nilFunc)) := by kernel_rfl
theorem tyf92 : TD.fits Try.prog 92 (.other) := trivial
theorem tyi92 : (Try.prog.info? 92).map (fun i => (i.size, i.bytes, i.zero)) = some (1, 8, some (.nilFunc)) := by kernel_rfl
theorem tyf93 : TD.fits Try.prog 93 (.other) := trivial
theorem tyi93 : (Try.prog.info? 93).map (fun i => (i.size, i.bytes, i.zero)) = some (1, 8, some (.nilFunc)) := by kernel_rfl
theorem tyf94 : TD.fits Try.prog 94 (.other) := trivial
theorem tyi94 : (Try.prog.info? 94).map (fun i => (i.size, i.bytes, i.zero)) = some (1, 8, some (.nilFunc)) := by kernel_rfl
theorem tyf96 : TD.fits Try.prog 96 (.other) := trivial
theorem tyi96 : (Try.prog.info? 96).map (fun i => (i.size, i.bytes, i.zero)) = some (1, 8, some (.nilFunc)) := by kernel_rfl
theorem tyf97 : TD.fits Try.prog 97 (.other) := trivial
theorem tyi97 : (Try.prog.info? 97).map (fun i => (i.size, i.bytes, i.zero)) = some (1, 8, some (.nilFunc)) := by kernel_rfl
theorem tyf98 : Try.prog.underlying 98 = some (.int .u32) := by kernel_rfl
theorem tyi98 : (Try.prog.info? 98).map (fun i => (i.size, i.bytes, i.zero)) = some (1, 4, some (.int .u32 0)) := by kernel_rfl
theorem tyf99 : TD.fits Try.prog 99 (.other) := trivial
theorem tyi99 : (Try.prog.info? 99).map (fun i => (i.size, i.bytes, i.zero)) = some (1, 8, some (.nilFunc)) := by kernel_rfl
theorem tyf100 : Try.prog.underlying 100 = some (.int .u64) := by kernel_rfl
theorem tyi100 : (Try.prog.info? 100).map (fun i => (i.size, i.bytes, i.zero)) = some (1, 8, some (.int .u64 0)) := by kernel_rfl
theorem tyf101 : Try.prog.underlying 101 = some (.pointer 5) := by kernel_rfl
theorem tyi101 : (Try.prog.info? 101).map (fun i => (i.size, i.bytes, i.zero)) = some (1, 8, some (.pointer none)) := by kernel_rfl
theorem tyf103 : TD.fits Try.prog 103 (.other) := trivial
theorem tyi103 : (Try.prog.info? 103).map (fun i => (i.size, i.bytes, i.zero)) = some (1, 8, some (.nilFunc)) := by kernel_rfl
theorem tyf104 : Try.prog.underlying 104 = some (.int .u64) := by kernel_rfl
theorem tyi104 : (Try.prog.info? 104).map (fun i => (i.size, i.bytes, i.zero)) = some (1, 8, some (.int .u64 0)) := by kernel_rfl
theorem tyf105 : TD.fits Try.prog 105 (.other) := trivial
theorem tyi105 : (Try.prog.info? 105).map (fun i => (i.size, i.bytes, i.zero)) = some (1, 8, some (.nilFunc)) := by kernel_rfl
theorem tyf106 : TD.fits Try.prog 106 (.other) := trivial
theorem tyi106 : (Try.prog.info? 106).map (fun i => (i.size, i.bytes, i.zero)) = some (1, 8, some (.nilFunc)) := by kernel_rfl
theorem tyf107 : TD.fits Try.prog 107 (.other) := trivial
theorem tyi107 : (Try.prog.info? 107).map (fun i => (i.size, i.bytes, i.zero)) = some (1, 8, some (.nilFunc)) := by kernel_rfl
theorem tyf108 : Try.prog.underlying 108 = some (.pointer 3) := by kernel_rfl
theorem tyi108 : (Try.prog.info? 108).map (fun i => (i.size, i.bytes, i.zero)) = some (1, 8, some (.pointer none)) := by kernel_rfl
theorem tyf109 : TD.fits Try.prog 109 (.other) := trivial
theorem tyi109 : (Try.prog.info? 109).map (fun i => (i.size, i.bytes, i.zero)) = some (1, 8, some (.nilFunc)) := by kernel_rfl
theorem tyf111 : TD.fits Try.prog 111 (.other) := trivial
theorem tyi111 : (Try.prog.info? 111).map (fun i => (i.size, i.bytes, i.zero)) = some (1, 8, some (.nilFunc)) := by kernel_rfl
theorem tyf112 : TD.fits Try.prog 112 (.other) := trivial
theorem tyi112 : (Try.prog.info? 112).map (fun i => (i.size, i.bytes, i.zero)) = some (1, 8, some (.nilFunc)) := by kernel_rfl
theorem tyf113 : Try.prog.underlying 113 = some (.pointer 104) := by kernel_rfl
theorem tyi113 : (Try.prog.info? 113).map (fun i => (i.size, i.bytes, i.zero)) = some (1, 8, some (.pointer none)) := by kernel_rfl
theorem tyf115 : TD.fits Try.prog 115 (.other) := trivial
theorem tyi115 : (Try.prog.info? 115).map (fun i => (i.size, i.bytes, i.zero)) = some (1, 8, some (.nilFunc)) := by kernel_rfl
theorem tyf121 : TD.fits Try.prog 121 (.other) := trivial
theorem tyi121 : (Try.prog.info? 121).map (fun i => (i.size, i.bytes, i.zero)) = some (1, 8, some (.nilFunc)) := by kernel_rfl
theorem tyf124 : TD.fits Try.prog 124 (.other) := trivial
theorem tyi124 : (Try.prog.info? 124).map (fun i => (i.size, i.bytes, i.zero)) = some (1, 8, some (.nilFunc)) := by kernel_rfl
set_option maxRecDepth 20000 in
theorem tyOk : allOk Try.prog tyTab :=
  ⟨tyf1, tyi1,
  tyf2, tyi2,
  tyf3, tyi3,
  tyf4, tyi4,
  tyf5, tyi5,
  tyf9, tyi9,
  tyf12, tyi12,
  tyf13, tyi13,
  tyf20, tyi20,
  tyf21, tyi21,
  tyf22, tyi22,
  tyf23, tyi23,
  tyf24, tyi24,
  tyf26, tyi26,
  tyf28, tyi28,
  tyf29, tyi29,
  tyf30, tyi30,
  tyf31, tyi31,
  tyf32, tyi32,
  tyf34, tyi34,
  tyf36, tyi36,
  tyf37, tyi37,
  tyf38, tyi38,
  tyf39, tyi39,
  tyf40, tyi40,
  tyf41, tyi41,
  tyf42, tyi42,
  tyf43, tyi43,
  tyf44, tyi44,
  tyf45, tyi45,
  tyf47, tyi47,
  tyf48, tyi48,
  tyf49, tyi49,
  tyf50, tyi50,
  tyf51, tyi51,
  tyf53, tyi53,
  tyf54, tyi54,
  tyf55, tyi55,
  tyf56, tyi56,
  tyf57, tyi57,
  tyf58, tyi58,
  tyf59, tyi59,
  tyf60, tyi60,
  tyf61, tyi61,
  tyf62, tyi62,
  tyf63, tyi63,
  tyf65, tyi65,
  tyf66, tyi66,
  tyf67, tyi67,
  tyf68, tyi68,
  tyf69, tyi69,
  tyf70, tyi70,
  tyf71, tyi71,
  tyf72, tyi72,
  tyf74, tyi74,
  tyf75, tyi75,
  tyf76, tyi76,
  tyf77, tyi77,
  tyf78, tyi78,
  tyf79, tyi79,
  tyf80, tyi80,
  tyf81, tyi81,
  tyf82, tyi82,
  tyf83, tyi83,
  tyf85, tyi85,
  tyf86, tyi86,
  tyf87, tyi87,
  tyf88, tyi88,
  tyf89, tyi89,
  tyf91, tyi91,
  tyf92, tyi92,
  tyf93, tyi93,
  tyf94, tyi94,
  tyf96, tyi96,
  tyf97, tyi97,
  tyf98, tyi98,
  tyf99, tyi99,
  tyf100, tyi100,
  tyf101, tyi101,
  tyf103, tyi103,
  tyf104, tyi104,
  tyf105, tyi105,
  tyf106, tyi106,
  tyf107, tyi107,
  tyf108, tyi108,
  tyf109, tyi109,
  tyf111, tyi111,
  tyf112, tyi112,
  tyf113, tyi113,
  tyf115, tyi115,
  tyf121, tyi121,
  tyf124, tyi124, trivial⟩
/-- A type's row, by looking. -/
theorem tyy {t : Nat} {d : TD} {sz by_ : Nat} {z : Value} (h : tlook tyTab t = some ⟨d, sz, by_, z⟩) : Ty Try.prog t d sz by_ z := tlook_ok tyOk h
def slB (t : Nat) : Bool := match tlook tyTab t with
  | some ⟨.slice _, _, _, _⟩ => true
  | _ => false
theorem mixedOk : Try.prog.follows .mixedOrders = true := by kernel_rfl
end Go.Proofs.Ytahpemfnhepgoaa
