/- The table of types of this seat's program, printed by tyenv.py. -/
import Derived.Test.YtklbhkalpajdgaaLtC
import Derived.Test.YtklbhkalpajdgaaProg
import Derived.KernelRfl
namespace Go.Proofs.Ytklbhkalpajdgaa

set_option linter.all false
def tyTab : List (Nat × TRow) := [(1, ⟨.other, 1, 8, .nilFunc⟩),
  (2, ⟨.int .i64, 1, 8, .int .i64 0⟩),
  (3, ⟨.int .i64, 1, 8, .int .i64 0⟩),
  (4, ⟨.bool, 1, 1, .bool false⟩),
  (5, ⟨.int .u8, 1, 1, .int .u8 0⟩),
  (9, ⟨.str, 1, 16, .string ⟨#[]⟩⟩),
  (12, ⟨.int .u64, 1, 8, .int .u64 0⟩),
  (13, ⟨.struct [(9, 0, 1), (12, 1, 1)], 2, 24, .agg #[.string ⟨#[]⟩, .int .u64 0]⟩),
  (20, ⟨.other, 1, 16, .nilIface⟩),
  (21, ⟨.int .i32, 1, 4, .int .i32 0⟩),
  (22, ⟨.slice 3, 1, 24, .slice none 0 0⟩),
  (23, ⟨.other, 1, 8, .nilFunc⟩),
  (24, ⟨.ptr 69, 1, 8, .pointer none⟩),
  (25, ⟨.other, 1, 8, .nilFunc⟩),
  (26, ⟨.other, 1, 8, .nilFunc⟩),
  (27, ⟨.slice 9, 1, 24, .slice none 0 0⟩),
  (28, ⟨.int .i64, 1, 8, .int .i64 0⟩),
  (30, ⟨.other, 1, 8, .nilFunc⟩),
  (31, ⟨.int .u64, 1, 8, .int .u64 0⟩),
  (32, ⟨.other, 1, 8, .nilFunc⟩),
  (33, ⟨.other, 1, 8, .nilFunc⟩),
  (34, ⟨.slice 36, 1, 24, .slice none 0 0⟩),
  (35, ⟨.struct [(3, 0, 1), (9, 1, 1), (34, 2, 1)], 3, 48, .agg #[.int .i64 0, .string ⟨#[]⟩, .slice none 0 0]⟩),
  (36, ⟨.struct [(3, 0, 1), (9, 1, 1), (34, 2, 1)], 3, 48, .agg #[.int .i64 0, .string ⟨#[]⟩, .slice none 0 0]⟩),
  (37, ⟨.other, 1, 8, .nilFunc⟩),
  (39, ⟨.other, 1, 8, .nilFunc⟩),
  (41, ⟨.other, 1, 8, .nilFunc⟩),
  (42, ⟨.other, 1, 8, .nilFunc⟩),
  (44, ⟨.other, 1, 8, .nilFunc⟩),
  (46, ⟨.other, 1, 8, .nilFunc⟩),
  (48, ⟨.other, 1, 8, .nilFunc⟩),
  (50, ⟨.other, 1, 8, .nilFunc⟩),
  (51, ⟨.other, 1, 8, .nilFunc⟩),
  (52, ⟨.other, 1, 8, .nilFunc⟩),
  (54, ⟨.other, 1, 8, .nilFunc⟩),
  (56, ⟨.other, 1, 8, .nilFunc⟩),
  (57, ⟨.other, 1, 8, .nilFunc⟩),
  (58, ⟨.other, 1, 8, .nilFunc⟩),
  (60, ⟨.other, 1, 8, .nilFunc⟩),
  (61, ⟨.other, 1, 8, .nilFunc⟩),
  (62, ⟨.other, 1, 8, .nilFunc⟩),
  (63, ⟨.slice 5, 1, 24, .slice none 0 0⟩),
  (64, ⟨.other, 1, 8, .nilFunc⟩),
  (65, ⟨.other, 1, 8, .nilFunc⟩),
  (66, ⟨.other, 1, 8, .nilFunc⟩),
  (67, ⟨.other, 1, 8, .nilFunc⟩),
  (68, ⟨.struct [(9, 0, 1), (28, 1, 1)], 2, 24, .agg #[.string ⟨#[]⟩, .int .i64 0]⟩),
  (69, ⟨.struct [(9, 0, 1), (28, 1, 1)], 2, 24, .agg #[.string ⟨#[]⟩, .int .i64 0]⟩),
  (70, ⟨.other, 1, 8, .nilFunc⟩),
  (72, ⟨.other, 1, 8, .nilFunc⟩),
  (73, ⟨.other, 1, 8, .nilFunc⟩),
  (74, ⟨.ptr 76, 1, 8, .pointer none⟩),
  (75, ⟨.struct [(9, 0, 1), (3, 1, 1), (3, 2, 1)], 3, 32, .agg #[.string ⟨#[]⟩, .int .i64 0, .int .i64 0]⟩),
  (76, ⟨.struct [(9, 0, 1), (3, 1, 1), (3, 2, 1)], 3, 32, .agg #[.string ⟨#[]⟩, .int .i64 0, .int .i64 0]⟩),
  (77, ⟨.other, 1, 8, .nilFunc⟩),
  (78, ⟨.int .u64, 1, 8, .int .u64 0⟩),
  (80, ⟨.other, 1, 8, .nilFunc⟩),
  (81, ⟨.other, 1, 8, .nilFunc⟩),
  (82, ⟨.other, 1, 8, .nilFunc⟩),
  (83, ⟨.other, 1, 8, .nilFunc⟩),
  (84, ⟨.other, 1, 8, .nilFunc⟩),
  (86, ⟨.other, 1, 8, .nilFunc⟩),
  (87, ⟨.other, 1, 8, .nilFunc⟩),
  (88, ⟨.other, 1, 8, .nilFunc⟩),
  (89, ⟨.other, 1, 8, .nilFunc⟩),
  (95, ⟨.int .u32, 1, 4, .int .u32 0⟩),
  (98, ⟨.other, 1, 8, .nilFunc⟩),
  (99, ⟨.ptr 5, 1, 8, .pointer none⟩)]
theorem tyf1 : TD.fits Try.prog 1 (.other) := trivial
theorem tyi1 : (Try.prog.info? 1).map (fun i => (i.size, i.bytes, i.zero)) = some (1, 8, some (.nilFunc)) := by kernel_rfl
theorem tyf2 : Try.prog.underlying 2 = some (.int .i64) := by kernel_rfl
theorem tyi2 : (Try.prog.info? 2).map (fun i => (i.size, i.bytes, i.zero)) = some (1, 8, some (.int .i64 0)) := by kernel_rfl
theorem tyf3 : Try.prog.underlying 3 = some (.int .i64) := by kernel_rfl
theorem tyi3 : (Try.prog.info? 3).map (fun i => (i.size, i.bytes, i.zero)) = some (1, 8, some (.int .i64 0)) := by kernel_rfl
theorem tyf4 : Try.prog.underlying 4 = some .bool := by kernel_rfl
theorem tyi4 : (Try.prog.info? 4).map (fun i => (i.size, i.bytes, i.zero)) = some (1, 1, some (.bool false)) := by kernel_rfl
theorem tyf5 : Try.prog.underlying 5 = some (.int .u8) := by kernel_rfl
theorem tyi5 : (Try.prog.info? 5).map (fun i => (i.size, i.bytes, i.zero)) = some (1, 1, some (.int .u8 0)) := by kernel_rfl
theorem tyf9 : Try.prog.underlying 9 = some .string := by kernel_rfl
theorem tyi9 : (Try.prog.info? 9).map (fun i => (i.size, i.bytes, i.zero)) = some (1, 16, some (.string ⟨#[]⟩)) := by kernel_rfl
theorem tyf12 : Try.prog.underlying 12 = some (.int .u64) := by kernel_rfl
theorem tyi12 : (Try.prog.info? 12).map (fun i => (i.size, i.bytes, i.zero)) = some (1, 8, some (.int .u64 0)) := by kernel_rfl
theorem tyf13 : structOf Try.prog 13 = some [(9, 0, some 1), (12, 1, some 1)] := by kernel_rfl
theorem tyi13 : (Try.prog.info? 13).map (fun i => (i.size, i.bytes, i.zero)) = some (2, 24, some (.agg #[.string ⟨#[]⟩, .int .u64 0])) := by kernel_rfl
theorem tyf20 : TD.fits Try.prog 20 (.other) := trivial
theorem tyi20 : (Try.prog.info? 20).map (fun i => (i.size, i.bytes, i.zero)) = some (1, 16, some (.nilIface)) := by kernel_rfl
theorem tyf21 : Try.prog.underlying 21 = some (.int .i32) := by kernel_rfl
theorem tyi21 : (Try.prog.info? 21).map (fun i => (i.size, i.bytes, i.zero)) = some (1, 4, some (.int .i32 0)) := by kernel_rfl
theorem tyf22 : Try.prog.underlying 22 = some (.slice 3) := by kernel_rfl
theorem tyi22 : (Try.prog.info? 22).map (fun i => (i.size, i.bytes, i.zero)) = some (1, 24, some (.slice none 0 0)) := by kernel_rfl
theorem tyf23 : TD.fits Try.prog 23 (.other) := trivial
theorem tyi23 : (Try.prog.info? 23).map (fun i => (i.size, i.bytes, i.zero)) = some (1, 8, some (.nilFunc)) := by kernel_rfl
theorem tyf24 : Try.prog.underlying 24 = some (.pointer 69) := by kernel_rfl
theorem tyi24 : (Try.prog.info? 24).map (fun i => (i.size, i.bytes, i.zero)) = some (1, 8, some (.pointer none)) := by kernel_rfl
theorem tyf25 : TD.fits Try.prog 25 (.other) := trivial
theorem tyi25 : (Try.prog.info? 25).map (fun i => (i.size, i.bytes, i.zero)) = some (1, 8, some (.nilFunc)) := by kernel_rfl
theorem tyf26 : TD.fits Try.prog 26 (.other) := trivial
theorem tyi26 : (Try.prog.info? 26).map (fun i => (i.size, i.bytes, i.zero)) = some (1, 8, some (.nilFunc)) := by kernel_rfl
theorem tyf27 : Try.prog.underlying 27 = some (.slice 9) := by kernel_rfl
theorem tyi27 : (Try.prog.info? 27).map (fun i => (i.size, i.bytes, i.zero)) = some (1, 24, some (.slice none 0 0)) := by kernel_rfl
theorem tyf28 : Try.prog.underlying 28 = some (.int .i64) := by kernel_rfl
theorem tyi28 : (Try.prog.info? 28).map (fun i => (i.size, i.bytes, i.zero)) = some (1, 8, some (.int .i64 0)) := by kernel_rfl
theorem tyf30 : TD.fits Try.prog 30 (.other) := trivial
theorem tyi30 : (Try.prog.info? 30).map (fun i => (i.size, i.bytes, i.zero)) = some (1, 8, some (.nilFunc)) := by kernel_rfl
theorem tyf31 : Try.prog.underlying 31 = some (.int .u64) := by kernel_rfl
theorem tyi31 : (Try.prog.info? 31).map (fun i => (i.size, i.bytes, i.zero)) = some (1, 8, some (.int .u64 0)) := by kernel_rfl
theorem tyf32 : TD.fits Try.prog 32 (.other) := trivial
theorem tyi32 : (Try.prog.info? 32).map (fun i => (i.size, i.bytes, i.zero)) = some (1, 8, some (.nilFunc)) := by kernel_rfl
theorem tyf33 : TD.fits Try.prog 33 (.other) := trivial
theorem tyi33 : (Try.prog.info? 33).map (fun i => (i.size, i.bytes, i.zero)) = some (1, 8, some (.nilFunc)) := by kernel_rfl
theorem tyf34 : Try.prog.underlying 34 = some (.slice 36) := by kernel_rfl
theorem tyi34 : (Try.prog.info? 34).map (fun i => (i.size, i.bytes, i.zero)) = some (1, 24, some (.slice none 0 0)) := by kernel_rfl
theorem tyf35 : structOf Try.prog 35 = some [(3, 0, some 1), (9, 1, some 1), (34, 2, some 1)] := by kernel_rfl
theorem tyi35 : (Try.prog.info? 35).map (fun i => (i.size, i.bytes, i.zero)) = some (3, 48, some (.agg #[.int .i64 0, .string ⟨#[]⟩, .slice none 0 0])) := by kernel_rfl
theorem tyf36 : structOf Try.prog 36 = some [(3, 0, some 1), (9, 1, some 1), (34, 2, some 1)] := by kernel_rfl
theorem tyi36 : (Try.prog.info? 36).map (fun i => (i.size, i.bytes, i.zero)) = some (3, 48, some (.agg #[.int .i64 0, .string ⟨#[]⟩, .slice none 0 0])) := by kernel_rfl
theorem tyf37 : TD.fits Try.prog 37 (.other) := trivial
theorem tyi37 : (Try.prog.info? 37).map (fun i => (i.size, i.bytes, i.zero)) = some (1, 8, some (.nilFunc)) := by kernel_rfl
theorem tyf39 : TD.fits Try.prog 39 (.other) := trivial
theorem tyi39 : (Try.prog.info? 39).map (fun i => (i.size, i.bytes, i.zero)) = some (1, 8, some (.nilFunc)) := by kernel_rfl
theorem tyf41 : TD.fits Try.prog 41 (.other) := trivial
theorem tyi41 : (Try.prog.info? 41).map (fun i => (i.size, i.bytes, i.zero)) = some (1, 8, some (.nilFunc)) := by kernel_rfl
theorem tyf42 : TD.fits Try.prog 42 (.other) := trivial
theorem tyi42 : (Try.prog.info? 42).map (fun i => (i.size, i.bytes, i.zero)) = some (1, 8, some (.nilFunc)) := by kernel_rfl
theorem tyf44 : TD.fits Try.prog 44 (.other) := trivial
theorem tyi44 : (Try.prog.info? 44).map (fun i => (i.size, i.bytes, i.zero)) = some (1, 8, some (.nilFunc)) := by kernel_rfl
theorem tyf46 : TD.fits Try.prog 46 (.other) := trivial
theorem tyi46 : (Try.prog.info? 46).map (fun i => (i.size, i.bytes, i.zero)) = some (1, 8, some (.nilFunc)) := by kernel_rfl
theorem tyf48 : TD.fits Try.prog 48 (.other) := trivial
theorem tyi48 : (Try.prog.info? 48).map (fun i => (i.size, i.bytes, i.zero)) = some (1, 8, some (.nilFunc)) := by kernel_rfl
theorem tyf50 : TD.fits Try.prog 50 (.other) := trivial
theorem tyi50 : (Try.prog.info? 50).map (fun i => (i.size, i.bytes, i.zero)) = some (1, 8, some (.nilFunc)) := by kernel_rfl
theorem tyf51 : TD.fits Try.prog 51 (.other) := trivial
theorem tyi51 : (Try.prog.info? 51).map (fun i => (i.size, i.bytes, i.zero)) = some (1, 8, some (.nilFunc)) := by kernel_rfl
theorem tyf52 : TD.fits Try.prog 52 (.other) := trivial
theorem tyi52 : (Try.prog.info? 52).map (fun i => (i.size, i.bytes, i.zero)) = some (1, 8, some (.nilFunc)) := by kernel_rfl
theorem tyf54 : TD.fits Try.prog 54 (.other) := trivial
theorem tyi54 : (Try.prog.info? 54).map (fun i => (i.size, i.bytes, i.zero)) = some (1, 8, some (.nilFunc)) := by kernel_rfl
theorem tyf56 : TD.fits Try.prog 56 (.other) := trivial
theorem tyi56 : (Try.prog.info? 56).map (fun i => (i.size, i.bytes, i.zero)) = some (1, 8, some (.nilFunc)) := by kernel_rfl
theorem tyf57 : TD.fits Try.prog 57 (.other) := trivial
theorem tyi57 : (Try.prog.info? 57).map (fun i => (i.size, i.bytes, i.zero)) = some (1, 8, some (.nilFunc)) := by kernel_rfl
theorem tyf58 : TD.fits Try.prog 58 (.other) := trivial
theorem tyi58 : (Try.prog.info? 58).map (fun i => (i.size, i.bytes, i.zero)) = some (1, 8, some (.nilFunc)) := by kernel_rfl
theorem tyf60 : TD.fits Try.prog 60 (.other) := trivial
theorem tyi60 : (Try.prog.info? 60).map (fun i => (i.size, i.bytes, i.zero)) = some (1, 8, some (.nilFunc)) := by kernel_rfl
theorem tyf61 : TD.fits Try.prog 61 (.other) := trivial
theorem tyi61 : (Try.prog.info? 61).map (fun i => (i.size, i.bytes, i.zero)) = some (1, 8, some (.nilFunc)) := by kernel_rfl
theorem tyf62 : TD.fits Try.prog 62 (.other) := trivial
theorem tyi62 : (Try.prog.info? 62).map (fun i => (i.size, i.bytes, i.zero)) = some (1, 8, some (.nilFunc)) := by kernel_rfl
theorem tyf63 : Try.prog.underlying 63 = some (.slice 5) := by kernel_rfl
theorem tyi63 : (Try.prog.info? 63).map (fun i => (i.size, i.bytes, i.zero)) = some (1, 24, some (.slice none 0 0)) := by kernel_rfl
theorem tyf64 : TD.fits Try.prog 64 (.other) := trivial
theorem tyi64 : (Try.prog.info? 64).map (fun i => (i.size, i.bytes, i.zero)) = some (1, 8, some (.nilFunc)) := by kernel_rfl
theorem tyf65 : TD.fits Try.prog 65 (.other) := trivial
theorem tyi65 : (Try.prog.info? 65).map (fun i => (i.size, i.bytes, i.zero)) = some (1, 8, some (.nilFunc)) := by kernel_rfl
theorem tyf66 : TD.fits Try.prog 66 (.other) := trivial
theorem tyi66 : (Try.prog.info? 66).map (fun i => (i.size, i.bytes, i.zero)) = some (1, 8, some (.nilFunc)) := by kernel_rfl
theorem tyf67 : TD.fits Try.prog 67 (.other) := trivial
theorem tyi67 : (Try.prog.info? 67).map (fun i => (i.size, i.bytes, i.zero)) = some (1, 8, some (.nilFunc)) := by kernel_rfl
theorem tyf68 : structOf Try.prog 68 = some [(9, 0, some 1), (28, 1, some 1)] := by kernel_rfl
theorem tyi68 : (Try.prog.info? 68).map (fun i => (i.size, i.bytes, i.zero)) = some (2, 24, some (.agg #[.string ⟨#[]⟩, .int .i64 0])) := by kernel_rfl
theorem tyf69 : structOf Try.prog 69 = some [(9, 0, some 1), (28, 1, some 1)] := by kernel_rfl
theorem tyi69 : (Try.prog.info? 69).map (fun i => (i.size, i.bytes, i.zero)) = some (2, 24, some (.agg #[.string ⟨#[]⟩, .int .i64 0])) := by kernel_rfl
theorem tyf70 : TD.fits Try.prog 70 (.other) := trivial
theorem tyi70 : (Try.prog.info? 70).map (fun i => (i.size, i.bytes, i.zero)) = some (1, 8, some (.nilFunc)) := by kernel_rfl
theorem tyf72 : TD.fits Try.prog 72 (.other) := trivial
theorem tyi72 : (Try.prog.info? 72).map (fun i => (i.size, i.bytes, i.zero)) = some (1, 8, some (.nilFunc)) := by kernel_rfl
theorem tyf73 : TD.fits Try.prog 73 (.other) := trivial
theorem tyi73 : (Try.prog.info? 73).map (fun i => (i.size, i.bytes, i.zero)) = some (1, 8, some (.nilFunc)) := by kernel_rfl
theorem tyf74 : Try.prog.underlying 74 = some (.pointer 76) := by kernel_rfl
theorem tyi74 : (Try.prog.info? 74).map (fun i => (i.size, i.bytes, i.zero)) = some (1, 8, some (.pointer none)) := by kernel_rfl
theorem tyf75 : structOf Try.prog 75 = some [(9, 0, some 1), (3, 1, some 1), (3, 2, some 1)] := by kernel_rfl
theorem tyi75 : (Try.prog.info? 75).map (fun i => (i.size, i.bytes, i.zero)) = some (3, 32, some (.agg #[.string ⟨#[]⟩, .int .i64 0, .int .i64 0])) := by kernel_rfl
theorem tyf76 : structOf Try.prog 76 = some [(9, 0, some 1), (3, 1, some 1), (3, 2, some 1)] := by kernel_rfl
theorem tyi76 : (Try.prog.info? 76).map (fun i => (i.size, i.bytes, i.zero)) = some (3, 32, some (.agg #[.string ⟨#[]⟩, .int .i64 0, .int .i64 0])) := by kernel_rfl
theorem tyf77 : TD.fits Try.prog 77 (.other) := trivial
theorem tyi77 : (Try.prog.info? 77).map (fun i => (i.size, i.bytes, i.zero)) = some (1, 8, some (.nilFunc)) := by kernel_rfl
theorem tyf78 : Try.prog.underlying 78 = some (.int .u64) := by kernel_rfl
theorem tyi78 : (Try.prog.info? 78).map (fun i => (i.size, i.bytes, i.zero)) = some (1, 8, some (.int .u64 0)) := by kernel_rfl
theorem tyf80 : TD.fits Try.prog 80 (.other) := trivial
theorem tyi80 : (Try.prog.info? 80).map (fun i => (i.size, i.bytes, i.zero)) = some (1, 8, some (.nilFunc)) := by kernel_rfl
theorem tyf81 : TD.fits Try.prog 81 (.other) := trivial
theorem tyi81 : (Try.prog.info? 81).map (fun i => (i.size, i.bytes, i.zero)) = some (1, 8, some (.nilFunc)) := by kernel_rfl
theorem tyf82 : TD.fits Try.prog 82 (.other) := trivial
theorem tyi82 : (Try.prog.info? 82).map (fun i => (i.size, i.bytes, i.zero)) = some (1, 8, some (.nilFunc)) := by kernel_rfl
theorem tyf83 : TD.fits Try.prog 83 (.other) := trivial
theorem tyi83 : (Try.prog.info? 83).map (fun i => (i.size, i.bytes, i.zero)) = some (1, 8, some (.nilFunc)) := by kernel_rfl
theorem tyf84 : TD.fits Try.prog 84 (.other) := trivial
theorem tyi84 : (Try.prog.info? 84).map (fun i => (i.size, i.bytes, i.zero)) = some (1, 8, some (.nilFunc)) := by kernel_rfl
theorem tyf86 : TD.fits Try.prog 86 (.other) := trivial
theorem tyi86 : (Try.prog.info? 86).map (fun i => (i.size, i.bytes, i.zero)) = some (1, 8, some (.nilFunc)) := by kernel_rfl
theorem tyf87 : TD.fits Try.prog 87 (.other) := trivial
theorem tyi87 : (Try.prog.info? 87).map (fun i => (i.size, i.bytes, i.zero)) = some (1, 8, some (.nilFunc)) := by kernel_rfl
theorem tyf88 : TD.fits Try.prog 88 (.other) := trivial
theorem tyi88 : (Try.prog.info? 88).map (fun i => (i.size, i.bytes, i.zero)) = some (1, 8, some (.nilFunc)) := by kernel_rfl
theorem tyf89 : TD.fits Try.prog 89 (.other) := trivial
theorem tyi89 : (Try.prog.info? 89).map (fun i => (i.size, i.bytes, i.zero)) = some (1, 8, some (.nilFunc)) := by kernel_rfl
theorem tyf95 : Try.prog.underlying 95 = some (.int .u32) := by kernel_rfl
theorem tyi95 : (Try.prog.info? 95).map (fun i => (i.size, i.bytes, i.zero)) = some (1, 4, some (.int .u32 0)) := by kernel_rfl
theorem tyf98 : TD.fits Try.prog 98 (.other) := trivial
theorem tyi98 : (Try.prog.info? 98).map (fun i => (i.size, i.bytes, i.zero)) = some (1, 8, some (.nilFunc)) := by kernel_rfl
theorem tyf99 : Try.prog.underlying 99 = some (.pointer 5) := by kernel_rfl
theorem tyi99 : (Try.prog.info? 99).map (fun i => (i.size, i.bytes, i.zero)) = some (1, 8, some (.pointer none)) := by kernel_rfl
theorem tyOk : allOk Try.prog tyTab :=
  ⟨tyf1, tyi1,
  tyf2, tyi2,
  tyf3, tyi3,
  tyf4, tyi4,
  tyf5, tyi5,
  tyf9, tyi9,
  tyf12, tyi12,
  tyf13, tyi13,
  tyf20, tyi20,
  tyf21, tyi21,
  tyf22, tyi22,
  tyf23, tyi23,
  tyf24, tyi24,
  tyf25, tyi25,
  tyf26, tyi26,
  tyf27, tyi27,
  tyf28, tyi28,
  tyf30, tyi30,
  tyf31, tyi31,
  tyf32, tyi32,
  tyf33, tyi33,
  tyf34, tyi34,
  tyf35, tyi35,
  tyf36, tyi36,
  tyf37, tyi37,
  tyf39, tyi39,
  tyf41, tyi41,
  tyf42, tyi42,
  tyf44, tyi44,
  tyf46, tyi46,
  tyf48, tyi48,
  tyf50, tyi50,
  tyf51, tyi51,
  tyf52, tyi52,
  tyf54, tyi54,
  tyf56, tyi56,
  tyf57, tyi57,
  tyf58, tyi58,
  tyf60, tyi60,
  tyf61, tyi61,
  tyf62, tyi62,
  tyf63, tyi63,
  tyf64, tyi64,
  tyf65, tyi65,
  tyf66, tyi66,
  tyf67, tyi67,
  tyf68, tyi68,
  tyf69, tyi69,
  tyf70, tyi70,
  tyf72, tyi72,
  tyf73, tyi73,
  tyf74, tyi74,
  tyf75, tyi75,
  tyf76, tyi76,
  tyf77, tyi77,
  tyf78, tyi78,
  tyf80, tyi80,
  tyf81, tyi81,
  tyf82, tyi82,
  tyf83, tyi83,
  tyf84, tyi84,
  tyf86, tyi86,
  tyf87, tyi87,
  tyf88, tyi88,
  tyf89, tyi89,
  tyf95, tyi95,
  tyf98, tyi98,
  tyf99, tyi99, trivial⟩
/-- A type's row, by looking. -/
theorem tyy {t : Nat} {d : TD} {sz by_ : Nat} {z : Value} (h : tlook tyTab t = some ⟨d, sz, by_, z⟩) : Ty Try.prog t d sz by_ z := tlook_ok tyOk h
def slB (t : Nat) : Bool := match tlook tyTab t with
  | some ⟨.slice _, _, _, _⟩ => true
  | _ => false
theorem mixedOk : Try.prog.follows .mixedOrders = true := by kernel_rfl
end Go.Proofs.Ytklbhkalpajdgaa
