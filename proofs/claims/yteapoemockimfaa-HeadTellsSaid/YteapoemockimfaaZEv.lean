/-
  Tables of the program's types.
-/
import Derived.Test.YteapoemockimfaaZXc
namespace Go.Proofs.Yteapoemockimfaa
open Go.RowKit Pl
set_option maxRecDepth 100000
instance env : Env Try.prog where
  ty := [(2, none), (3, none), (5, none), (9, none), (23, some 32), (24, none), (26, some 2), (28, some 69), (29, none), (38, none), (51, none), (62, some 3), (64, some 4), (69, some 70), (106, none), (122, some 64)]
  hty := by show _ = _; kernel_rfl
  fo := [(26, 0, 0), (26, 1, 1), (28, 0, 0), (28, 1, 1), (28, 2, 2), (28, 3, 3), (28, 4, 35), (28, 5, 67), (62, 0, 0), (62, 1, 1), (62, 2, 2), (64, 0, 0), (64, 1, 3), (69, 0, 0), (84, 0, 0), (84, 1, 1), (98, 0, 0), (98, 1, 1), (122, 0, 0), (122, 1, 32)]
  hfo := by show _ = _; kernel_rfl
  sl := [(9, false), (29, true), (33, true), (34, true), (46, true), (59, true), (106, true), (109, true)]
  hsl := by show _ = _; kernel_rfl
  zc := [(5, [.int .u8 0]), (9, [.string ⟨#[]⟩]), (23, List.replicate 32 (.int .u8 0)), (24, [.int .u64 0]), (28, [.int .i64 0, .int .i64 0, .int .i64 0] ++ List.replicate 64 (.int .u8 0) ++ [.int .u64 0, .int .u64 0]), (29, [.slice none 0 0]), (62, [.string ⟨#[]⟩, .int .i64 0, .int .u64 0]), (64, [.string ⟨#[]⟩, .int .i64 0, .int .u64 0, .int .i64 0]), (69, [.int .i64 0, .int .i64 0, .int .i64 0] ++ List.replicate 64 (.int .u8 0) ++ [.int .u64 0, .int .u64 0] ++ [.slice none 0 0]), (122, List.replicate 64 (.int .u8 0))]
  hzc := by show _ = _; kernel_rfl
  sz := [(2, 1), (3, 1), (5, 1), (23, 32), (24, 1), (26, 2), (28, 69), (29, 1), (38, 1), (62, 3), (64, 4), (69, 70), (122, 64)]
  hsz := by show _ = _; kernel_rfl
  sp := [(26, ([.int .u64 0, .int .u64 0], [(0, 1), (1, 1)])), (28, ([.int .i64 0, .int .i64 0, .int .i64 0] ++ List.replicate 64 (.int .u8 0) ++ [.int .u64 0, .int .u64 0], [(0, 1), (1, 1), (2, 1), (3, 32), (35, 32), (67, 2)])), (62, ([.string ⟨#[]⟩, .int .i64 0, .int .u64 0], [(0, 1), (1, 1), (2, 1)])), (64, ([.string ⟨#[]⟩, .int .i64 0, .int .u64 0, .int .i64 0], [(0, 3), (3, 1)])), (69, ([.int .i64 0, .int .i64 0, .int .i64 0] ++ List.replicate 64 (.int .u8 0) ++ [.int .u64 0, .int .u64 0] ++ [.slice none 0 0], [(0, 69), (69, 1)])), (84, ([.slice none 0 0, .int .i64 0], [(0, 1), (1, 1)])), (98, ([.slice none 0 0, .int .i64 0], [(0, 1), (1, 1)])), (122, (List.replicate 64 (.int .u8 0), [(0, 32), (32, 32)]))]
  hsp := by show _ = _; kernel_rfl
  uk := [(2, .i64), (3, .i64), (5, .u8), (24, .u64), (94, .u64)]
  huk := by show _ = _; kernel_rfl
  fl := []
  hfl := by show _ = _; kernel_rfl
  el := [(29, (5, 1)), (33, (64, 4)), (34, (28, 69)), (46, (24, 1)), (59, (62, 3)), (90, (9, 1)), (106, (122, 64)), (109, (23, 32))]
  hel := by show _ = _; kernel_rfl
  ar := [(23, (32, 1))]
  har := by show _ = _; kernel_rfl
  ap := [(29, (5, 1, 1)), (32, (69, 70, 128)), (33, (64, 4, 40)), (34, (28, 69, 104)), (46, (24, 1, 8)), (52, (29, 1, 24)), (59, (62, 3, 32)), (90, (9, 1, 16)), (106, (122, 64, 64)), (109, (23, 32, 32))]
  hap := by show _ = _; kernel_rfl
  cf := [6, 7, 8, 9, 10, 11, 12, 13, 14, 15, 16, 17, 18, 19, 20, 21, 23, 24, 25, 26, 27, 28, 29, 30, 31, 32, 34, 35, 36, 37, 38, 39, 40, 41, 42, 43, 45, 49, 50, 61, 62, 63, 64, 67, 68, 69, 70, 71, 78, 79, 82, 83, 84, 85, 86, 87, 88, 94, 95, 96, 97, 98, 99, 100, 104]
  hcf := by kernel_rfl
instance mixd : Mix Try.prog := ⟨by kernel_rfl⟩
end Go.Proofs.Yteapoemockimfaa

