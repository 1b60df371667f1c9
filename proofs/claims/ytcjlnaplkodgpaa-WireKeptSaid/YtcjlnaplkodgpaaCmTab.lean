/- The types of this program, as the told-heap calculus has them. -/
import Derived.Test.YtcjlnaplkodgpaaCmRun
import Derived.Test.YtcjlnaplkodgpaaProg
namespace Go.Proofs.Ytcjlnaplkodgpaa.Cm
set_option maxRecDepth 20000
def T : Tab
  | 1 => some ⟨.func, 1, 8, [.nilFunc]⟩
  | 2 => some ⟨.int .i64, 1, 8, [.int .i64 0]⟩
  | 3 => some ⟨.int .i64, 1, 8, [.int .i64 0]⟩
  | 4 => some ⟨.bool, 1, 1, [.bool false]⟩
  | 5 => some ⟨.int .u8, 1, 1, [.int .u8 0]⟩
  | 6 => some ⟨.int .u8, 1, 1, [.int .u8 0]⟩
  | 7 => some ⟨.struct [(0, 2), (1, 3), (2, 4), (3, 6)] false, 4, 24, [.int .i64 0, .int .i64 0, .bool false, .int .u8 0]⟩
  | 8 => some ⟨.struct [(0, 2), (1, 3), (2, 4), (3, 6)] false, 4, 24, [.int .i64 0, .int .i64 0, .bool false, .int .u8 0]⟩
  | 9 => some ⟨.string, 1, 16, [.string ⟨#[]⟩]⟩
  | 10 => some ⟨.string, 1, 16, [.string ⟨#[]⟩]⟩
  | 11 => some ⟨.string, 1, 16, [.string ⟨#[]⟩]⟩
  | 12 => some ⟨.int .u64, 1, 8, [.int .u64 0]⟩
  | 13 => some ⟨.struct [(0, 9), (1, 12)] false, 2, 24, [.string ⟨#[]⟩, .int .u64 0]⟩
  | 14 => some ⟨.struct [(0, 9), (1, 12)] false, 2, 24, [.string ⟨#[]⟩, .int .u64 0]⟩
  | 15 => some ⟨.pointer 70, 1, 8, [.pointer none]⟩
  | 16 => some ⟨.pointer 73, 1, 8, [.pointer none]⟩
  | 17 => some ⟨.pointer 82, 1, 8, [.pointer none]⟩
  | 18 => some ⟨.struct [(0, 17)] false, 1, 8, [.pointer none]⟩
  | 19 => some ⟨.struct [(0, 17)] false, 1, 8, [.pointer none]⟩
  | 20 => some ⟨.iface, 1, 16, [.nilIface]⟩
  | 21 => some ⟨.int .i32, 1, 4, [.int .i32 0]⟩
  | 22 => some ⟨.slice 28, 1, 24, [.slice none 0 0]⟩
  | 23 => some ⟨.func, 1, 8, [.nilFunc]⟩
  | 24 => some ⟨.pointer 59, 1, 8, [.pointer none]⟩
  | 25 => some ⟨.func, 1, 8, [.nilFunc]⟩
  | 26 => some ⟨.slice 5, 1, 24, [.slice none 0 0]⟩
  | 27 => some ⟨.struct [(0, 3), (1, 3), (2, 3), (3, 26)] false, 4, 48, [.int .i64 0, .int .i64 0, .int .i64 0, .slice none 0 0]⟩
  | 28 => some ⟨.struct [(0, 3), (1, 3), (2, 3), (3, 26)] false, 4, 48, [.int .i64 0, .int .i64 0, .int .i64 0, .slice none 0 0]⟩
  | 29 => some ⟨.int .i64, 1, 8, [.int .i64 0]⟩
  | 30 => some ⟨.func, 1, 8, [.nilFunc]⟩
  | 31 => some ⟨.struct [(0, 3), (1, 3), (2, 3), (3, 26)] false, 4, 48, [.int .i64 0, .int .i64 0, .int .i64 0, .slice none 0 0]⟩
  | 32 => some ⟨.func, 1, 8, [.nilFunc]⟩
  | 34 => some ⟨.func, 1, 8, [.nilFunc]⟩
  | 35 => some ⟨.func, 1, 8, [.nilFunc]⟩
  | 36 => some ⟨.func, 1, 8, [.nilFunc]⟩
  | 37 => some ⟨.func, 1, 8, [.nilFunc]⟩
  | 38 => some ⟨.func, 1, 8, [.nilFunc]⟩
  | 39 => some ⟨.slice 43, 1, 24, [.slice none 0 0]⟩
  | 40 => some ⟨.struct [(0, 22), (1, 3), (2, 3)] false, 3, 40, [.slice none 0 0, .int .i64 0, .int .i64 0]⟩
  | 41 => some ⟨.struct [(0, 22), (1, 3), (2, 3)] false, 3, 40, [.slice none 0 0, .int .i64 0, .int .i64 0]⟩
  | 42 => some ⟨.struct [(0, 5), (1, 28), (5, 3)] false, 6, 64, [.int .u8 0, .int .i64 0, .int .i64 0, .int .i64 0, .slice none 0 0, .int .i64 0]⟩
  | 43 => some ⟨.struct [(0, 5), (1, 28), (5, 3)] false, 6, 64, [.int .u8 0, .int .i64 0, .int .i64 0, .int .i64 0, .slice none 0 0, .int .i64 0]⟩
  | 45 => some ⟨.func, 1, 8, [.nilFunc]⟩
  | 47 => some ⟨.func, 1, 8, [.nilFunc]⟩
  | 48 => some ⟨.func, 1, 8, [.nilFunc]⟩
  | 49 => some ⟨.func, 1, 8, [.nilFunc]⟩
  | 50 => some ⟨.func, 1, 8, [.nilFunc]⟩
  | 51 => some ⟨.func, 1, 8, [.nilFunc]⟩
  | 52 => some ⟨.slice 31, 1, 24, [.slice none 0 0]⟩
  | 53 => some ⟨.func, 1, 8, [.nilFunc]⟩
  | 54 => some ⟨.func, 1, 8, [.nilFunc]⟩
  | 55 => some ⟨.map 9 3, 1, 8, [.map none]⟩
  | 56 => some ⟨.int .u64, 1, 8, [.int .u64 0]⟩
  | 57 => some ⟨.func, 1, 8, [.nilFunc]⟩
  | 58 => some ⟨.struct [(0, 3), (1, 52), (2, 3)] false, 3, 40, [.int .i64 0, .slice none 0 0, .int .i64 0]⟩
  | 59 => some ⟨.struct [(0, 3), (1, 52), (2, 3)] false, 3, 40, [.int .i64 0, .slice none 0 0, .int .i64 0]⟩
  | 60 => some ⟨.slice 24, 1, 24, [.slice none 0 0]⟩
  | 61 => some ⟨.func, 1, 8, [.nilFunc]⟩
  | 62 => some ⟨.func, 1, 8, [.nilFunc]⟩
  | 63 => some ⟨.func, 1, 8, [.nilFunc]⟩
  | 64 => some ⟨.func, 1, 8, [.nilFunc]⟩
  | 65 => some ⟨.func, 1, 8, [.nilFunc]⟩
  | 66 => some ⟨.func, 1, 8, [.nilFunc]⟩
  | 67 => some ⟨.func, 1, 8, [.nilFunc]⟩
  | 68 => some ⟨.func, 1, 8, [.nilFunc]⟩
  | 69 => some ⟨.struct [(0, 17), (1, 17), (2, 17), (3, 9)] false, 4, 40, [.pointer none, .pointer none, .pointer none, .string ⟨#[]⟩]⟩
  | 70 => some ⟨.struct [(0, 17), (1, 17), (2, 17), (3, 9)] false, 4, 40, [.pointer none, .pointer none, .pointer none, .string ⟨#[]⟩]⟩
  | 71 => some ⟨.array 0 16 false, 0, 0, []⟩
  | 72 => some ⟨.struct [(0, 71)] false, 0, 0, []⟩
  | 73 => some ⟨.struct [(0, 71)] false, 0, 0, []⟩
  | 74 => some ⟨.int .u32, 1, 4, [.int .u32 0]⟩
  | 75 => some ⟨.int .u8, 1, 1, [.int .u8 0]⟩
  | 76 => some ⟨.int .u8, 1, 1, [.int .u8 0]⟩
  | 77 => some ⟨.func, 1, 8, [.nilFunc]⟩
  | 78 => some ⟨.pointer 5, 1, 8, [.pointer none]⟩
  | 79 => some ⟨.int .i32, 1, 4, [.int .i32 0]⟩
  | 80 => some ⟨.int .i32, 1, 4, [.int .i32 0]⟩
  | 81 => some ⟨.struct [(0, 12), (1, 12), (2, 74), (3, 75), (4, 5), (5, 5), (6, 76), (7, 77), (8, 78), (9, 79), (10, 80)] false, 11, 48, [.int .u64 0, .int .u64 0, .int .u32 0, .int .u8 0, .int .u8 0, .int .u8 0, .int .u8 0, .nilFunc, .pointer none, .int .i32 0, .int .i32 0]⟩
  | 82 => some ⟨.struct [(0, 12), (1, 12), (2, 74), (3, 75), (4, 5), (5, 5), (6, 76), (7, 77), (8, 78), (9, 79), (10, 80)] false, 11, 48, [.int .u64 0, .int .u64 0, .int .u32 0, .int .u8 0, .int .u8 0, .int .u8 0, .int .u8 0, .nilFunc, .pointer none, .int .i32 0, .int .i32 0]⟩
  | _ => none
theorem hT : TOk Try.prog T := by
  intro t ti h
  unfold T at h
  split at h
  all_goals first | (cases h; exact tiB_ok (P := Try.prog) (e := (_, _)) (by kernel_rfl)) | cases h
theorem fn3 : FnOk Try.prog 3 := ⟨_, _, Try.func3, by decide, rfl⟩
theorem fn4 : FnOk Try.prog 4 := ⟨_, _, Try.func4, by decide, rfl⟩
theorem fn5 : FnOk Try.prog 5 := ⟨_, _, Try.func5, by decide, rfl⟩
theorem fn6 : FnOk Try.prog 6 := ⟨_, _, Try.func6, by decide, rfl⟩
theorem fn7 : FnOk Try.prog 7 := ⟨_, _, Try.func7, by decide, rfl⟩
theorem fn8 : FnOk Try.prog 8 := ⟨_, _, Try.func8, by decide, rfl⟩
theorem fn9 : FnOk Try.prog 9 := ⟨_, _, Try.func9, by decide, rfl⟩
theorem fn10 : FnOk Try.prog 10 := ⟨_, _, Try.func10, by decide, rfl⟩
theorem fn11 : FnOk Try.prog 11 := ⟨_, _, Try.func11, by decide, rfl⟩
theorem fn12 : FnOk Try.prog 12 := ⟨_, _, Try.func12, by decide, rfl⟩
theorem fn13 : FnOk Try.prog 13 := ⟨_, _, Try.func13, by decide, rfl⟩
theorem fn14 : FnOk Try.prog 14 := ⟨_, _, Try.func14, by decide, rfl⟩
theorem fn15 : FnOk Try.prog 15 := ⟨_, _, Try.func15, by decide, rfl⟩
theorem fn16 : FnOk Try.prog 16 := ⟨_, _, Try.func16, by decide, rfl⟩
theorem fn17 : FnOk Try.prog 17 := ⟨_, _, Try.func17, by decide, rfl⟩
theorem fn18 : FnOk Try.prog 18 := ⟨_, _, Try.func18, by decide, rfl⟩
theorem fn19 : FnOk Try.prog 19 := ⟨_, _, Try.func19, by decide, rfl⟩
theorem fn20 : FnOk Try.prog 20 := ⟨_, _, Try.func20, by decide, rfl⟩
theorem fn21 : FnOk Try.prog 21 := ⟨_, _, Try.func21, by decide, rfl⟩
theorem fn22 : FnOk Try.prog 22 := ⟨_, _, Try.func22, by decide, rfl⟩
theorem fn23 : FnOk Try.prog 23 := ⟨_, _, Try.func23, by decide, rfl⟩
theorem fn24 : FnOk Try.prog 24 := ⟨_, _, Try.func24, by decide, rfl⟩
theorem fn25 : FnOk Try.prog 25 := ⟨_, _, Try.func25, by decide, rfl⟩
theorem fn26 : FnOk Try.prog 26 := ⟨_, _, Try.func26, by decide, rfl⟩
theorem fn27 : FnOk Try.prog 27 := ⟨_, _, Try.func27, by decide, rfl⟩
theorem fn28 : FnOk Try.prog 28 := ⟨_, _, Try.func28, by decide, rfl⟩
theorem fn29 : FnOk Try.prog 29 := ⟨_, _, Try.func29, by decide, rfl⟩
theorem fn30 : FnOk Try.prog 30 := ⟨_, _, Try.func30, by decide, rfl⟩
theorem fn31 : FnOk Try.prog 31 := ⟨_, _, Try.func31, by decide, rfl⟩
theorem mix : Try.prog.follows .mixedOrders = true := by kernel_rfl
end Go.Proofs.Ytcjlnaplkodgpaa.Cm
