/- The types of this program, as the told-heap calculus has them. -/
import Derived.Test.YthfdmcmjlkinaaaCmRun
import Derived.Test.YthfdmcmjlkinaaaProg
namespace Go.Proofs.Ythfdmcmjlkinaaa.Cm
set_option maxRecDepth 20000
def T : Tab
  | 1 => some ⟨.func, 1, 8, [.nilFunc]⟩
  | 2 => some ⟨.int .i64, 1, 8, [.int .i64 0]⟩
  | 3 => some ⟨.int .i64, 1, 8, [.int .i64 0]⟩
  | 4 => some ⟨.bool, 1, 1, [.bool false]⟩
  | 5 => some ⟨.int .u8, 1, 1, [.int .u8 0]⟩
  | 6 => some ⟨.int .u8, 1, 1, [.int .u8 0]⟩
  | 7 => some ⟨.struct [(0, 2), (1, 3), (2, 4), (3, 6)], 4, 24, [.int .i64 0, .int .i64 0, .bool false, .int .u8 0]⟩
  | 8 => some ⟨.struct [(0, 2), (1, 3), (2, 4), (3, 6)], 4, 24, [.int .i64 0, .int .i64 0, .bool false, .int .u8 0]⟩
  | 9 => some ⟨.string, 1, 16, [.string ⟨#[]⟩]⟩
  | 10 => some ⟨.string, 1, 16, [.string ⟨#[]⟩]⟩
  | 11 => some ⟨.string, 1, 16, [.string ⟨#[]⟩]⟩
  | 12 => some ⟨.int .u64, 1, 8, [.int .u64 0]⟩
  | 13 => some ⟨.struct [(0, 9), (1, 12)], 2, 24, [.string ⟨#[]⟩, .int .u64 0]⟩
  | 14 => some ⟨.struct [(0, 9), (1, 12)], 2, 24, [.string ⟨#[]⟩, .int .u64 0]⟩
  | 15 => some ⟨.pointer 64, 1, 8, [.pointer none]⟩
  | 16 => some ⟨.pointer 67, 1, 8, [.pointer none]⟩
  | 17 => some ⟨.pointer 76, 1, 8, [.pointer none]⟩
  | 18 => some ⟨.struct [(0, 17)], 1, 8, [.pointer none]⟩
  | 19 => some ⟨.struct [(0, 17)], 1, 8, [.pointer none]⟩
  | 20 => some ⟨.iface, 1, 16, [.nilIface]⟩
  | 21 => some ⟨.int .i32, 1, 4, [.int .i32 0]⟩
  | 22 => some ⟨.slice 45, 1, 24, [.slice none 0 0]⟩
  | 23 => some ⟨.func, 1, 8, [.nilFunc]⟩
  | 24 => some ⟨.func, 1, 8, [.nilFunc]⟩
  | 25 => some ⟨.slice 5, 1, 24, [.slice none 0 0]⟩
  | 26 => some ⟨.int .i64, 1, 8, [.int .i64 0]⟩
  | 28 => some ⟨.func, 1, 8, [.nilFunc]⟩
  | 29 => some ⟨.slice 44, 1, 24, [.slice none 0 0]⟩
  | 30 => some ⟨.func, 1, 8, [.nilFunc]⟩
  | 32 => some ⟨.func, 1, 8, [.nilFunc]⟩
  | 34 => some ⟨.func, 1, 8, [.nilFunc]⟩
  | 36 => some ⟨.func, 1, 8, [.nilFunc]⟩
  | 38 => some ⟨.func, 1, 8, [.nilFunc]⟩
  | 39 => some ⟨.func, 1, 8, [.nilFunc]⟩
  | 40 => some ⟨.func, 1, 8, [.nilFunc]⟩
  | 41 => some ⟨.func, 1, 8, [.nilFunc]⟩
  | 42 => some ⟨.func, 1, 8, [.nilFunc]⟩
  | 43 => some ⟨.struct [(0, 3), (1, 3), (2, 25)], 3, 40, [.int .i64 0, .int .i64 0, .slice none 0 0]⟩
  | 44 => some ⟨.struct [(0, 3), (1, 3), (2, 25)], 3, 40, [.int .i64 0, .int .i64 0, .slice none 0 0]⟩
  | 45 => some ⟨.struct [(0, 3), (1, 3), (2, 25)], 3, 40, [.int .i64 0, .int .i64 0, .slice none 0 0]⟩
  | 46 => some ⟨.func, 1, 8, [.nilFunc]⟩
  | 47 => some ⟨.int .u64, 1, 8, [.int .u64 0]⟩
  | 48 => some ⟨.func, 1, 8, [.nilFunc]⟩
  | 49 => some ⟨.func, 1, 8, [.nilFunc]⟩
  | 50 => some ⟨.pointer 59, 1, 8, [.pointer none]⟩
  | 51 => some ⟨.func, 1, 8, [.nilFunc]⟩
  | 52 => some ⟨.func, 1, 8, [.nilFunc]⟩
  | 53 => some ⟨.func, 1, 8, [.nilFunc]⟩
  | 54 => some ⟨.func, 1, 8, [.nilFunc]⟩
  | 55 => some ⟨.func, 1, 8, [.nilFunc]⟩
  | 56 => some ⟨.func, 1, 8, [.nilFunc]⟩
  | 57 => some ⟨.func, 1, 8, [.nilFunc]⟩
  | 58 => some ⟨.struct [(0, 4), (1, 25), (2, 26)], 3, 40, [.bool false, .slice none 0 0, .int .i64 0]⟩
  | 59 => some ⟨.struct [(0, 4), (1, 25), (2, 26)], 3, 40, [.bool false, .slice none 0 0, .int .i64 0]⟩
  | 60 => some ⟨.func, 1, 8, [.nilFunc]⟩
  | 61 => some ⟨.int .u64, 1, 8, [.int .u64 0]⟩
  | 62 => some ⟨.func, 1, 8, [.nilFunc]⟩
  | 63 => some ⟨.struct [(0, 17), (1, 17), (2, 17), (3, 9)], 4, 40, [.pointer none, .pointer none, .pointer none, .string ⟨#[]⟩]⟩
  | 64 => some ⟨.struct [(0, 17), (1, 17), (2, 17), (3, 9)], 4, 40, [.pointer none, .pointer none, .pointer none, .string ⟨#[]⟩]⟩
  | 65 => some ⟨.array 0 16, 0, 0, []⟩
  | 66 => some ⟨.struct [(0, 65)], 0, 0, []⟩
  | 67 => some ⟨.struct [(0, 65)], 0, 0, []⟩
  | 68 => some ⟨.int .u32, 1, 4, [.int .u32 0]⟩
  | 69 => some ⟨.int .u8, 1, 1, [.int .u8 0]⟩
  | 70 => some ⟨.int .u8, 1, 1, [.int .u8 0]⟩
  | 71 => some ⟨.func, 1, 8, [.nilFunc]⟩
  | 72 => some ⟨.pointer 5, 1, 8, [.pointer none]⟩
  | 73 => some ⟨.int .i32, 1, 4, [.int .i32 0]⟩
  | 74 => some ⟨.int .i32, 1, 4, [.int .i32 0]⟩
  | 75 => some ⟨.struct [(0, 12), (1, 12), (2, 68), (3, 69), (4, 5), (5, 5), (6, 70), (7, 71), (8, 72), (9, 73), (10, 74)], 11, 48, [.int .u64 0, .int .u64 0, .int .u32 0, .int .u8 0, .int .u8 0, .int .u8 0, .int .u8 0, .nilFunc, .pointer none, .int .i32 0, .int .i32 0]⟩
  | 76 => some ⟨.struct [(0, 12), (1, 12), (2, 68), (3, 69), (4, 5), (5, 5), (6, 70), (7, 71), (8, 72), (9, 73), (10, 74)], 11, 48, [.int .u64 0, .int .u64 0, .int .u32 0, .int .u8 0, .int .u8 0, .int .u8 0, .int .u8 0, .nilFunc, .pointer none, .int .i32 0, .int .i32 0]⟩
  | _ => none
theorem hT : TOk Try.prog T := by
  intro t ti h
  unfold T at h
  split at h
  all_goals first | (cases h; exact tiB_ok (P := Try.prog) (e := (_, _)) (by kernel_rfl)) | cases h
theorem fn3 : FnOk Try.prog 3 := ⟨_, _, Try.func3, by decide, rfl⟩
theorem fn4 : FnOk Try.prog 4 := ⟨_, _, Try.func4, by decide, rfl⟩
theorem fn5 : FnOk Try.prog 5 := ⟨_, _, Try.func5, by decide, rfl⟩
theorem fn6 : FnOk Try.prog 6 := ⟨_, _, Try.func6, by decide, rfl⟩
theorem fn7 : FnOk Try.prog 7 := ⟨_, _, Try.func7, by decide, rfl⟩
theorem fn8 : FnOk Try.prog 8 := ⟨_, _, Try.func8, by decide, rfl⟩
theorem fn9 : FnOk Try.prog 9 := ⟨_, _, Try.func9, by decide, rfl⟩
theorem fn10 : FnOk Try.prog 10 := ⟨_, _, Try.func10, by decide, rfl⟩
theorem fn11 : FnOk Try.prog 11 := ⟨_, _, Try.func11, by decide, rfl⟩
theorem fn12 : FnOk Try.prog 12 := ⟨_, _, Try.func12, by decide, rfl⟩
theorem fn13 : FnOk Try.prog 13 := ⟨_, _, Try.func13, by decide, rfl⟩
theorem fn14 : FnOk Try.prog 14 := ⟨_, _, Try.func14, by decide, rfl⟩
theorem fn15 : FnOk Try.prog 15 := ⟨_, _, Try.func15, by decide, rfl⟩
theorem fn16 : FnOk Try.prog 16 := ⟨_, _, Try.func16, by decide, rfl⟩
theorem fn17 : FnOk Try.prog 17 := ⟨_, _, Try.func17, by decide, rfl⟩
theorem fn18 : FnOk Try.prog 18 := ⟨_, _, Try.func18, by decide, rfl⟩
theorem fn19 : FnOk Try.prog 19 := ⟨_, _, Try.func19, by decide, rfl⟩
theorem fn20 : FnOk Try.prog 20 := ⟨_, _, Try.func20, by decide, rfl⟩
theorem fn21 : FnOk Try.prog 21 := ⟨_, _, Try.func21, by decide, rfl⟩
theorem fn22 : FnOk Try.prog 22 := ⟨_, _, Try.func22, by decide, rfl⟩
theorem fn23 : FnOk Try.prog 23 := ⟨_, _, Try.func23, by decide, rfl⟩
theorem fn24 : FnOk Try.prog 24 := ⟨_, _, Try.func24, by decide, rfl⟩
theorem fn25 : FnOk Try.prog 25 := ⟨_, _, Try.func25, by decide, rfl⟩
theorem fn26 : FnOk Try.prog 26 := ⟨_, _, Try.func26, by decide, rfl⟩
theorem fn27 : FnOk Try.prog 27 := ⟨_, _, Try.func27, by decide, rfl⟩
theorem fn28 : FnOk Try.prog 28 := ⟨_, _, Try.func28, by decide, rfl⟩
theorem mix : Try.prog.follows .mixedOrders = true := by kernel_rfl
end Go.Proofs.Ythfdmcmjlkinaaa.Cm
