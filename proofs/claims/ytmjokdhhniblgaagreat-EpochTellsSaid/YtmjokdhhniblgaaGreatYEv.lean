import Derived.Test.YtmjokdhhniblgaaGreatYXc
/-
  Tables of the program's types.
-/
namespace Go.Proofs.YtmjokdhhniblgaaGreat
open Go.RowKit Pl
set_option maxRecDepth 100000
instance env : Env Tryz.prog where
  ty := [(2, none), (3, none), (5, none), (9, none), (22, none), (23, none), (24, none), (26, some 32), (28, some 2), (30, some 69), (38, some 3), (40, some 4), (48, some 70), (49, none), (66, none), (86, some 64), (130, some 6)]
  hty := by show _ = _; kernel_rfl
  fo := [(30, 0, 0), (30, 1, 1), (30, 2, 2), (30, 3, 3), (30, 4, 35), (30, 5, 67), (38, 0, 0), (38, 1, 1), (38, 2, 2), (40, 0, 0), (40, 1, 3), (48, 0, 0), (48, 1, 69), (86, 0, 0), (86, 1, 32), (130, 0, 0), (130, 1, 1), (130, 2, 2), (130, 3, 3), (176, 0, 0), (176, 1, 1)]
  hfo := by show _ = _; kernel_rfl
  sl := [(9, false), (22, true), (23, true), (32, true), (33, true), (34, true), (45, true), (46, true), (57, true), (61, true), (66, true), (171, true), (180, true)]
  hsl := by show _ = _; kernel_rfl
  zc := [(2, [.int .i64 0]), (3, [.int .i64 0]), (5, [.int .u8 0]), (9, [.string ⟨#[]⟩]), (22, [.slice none 0 0]), (23, [.slice none 0 0]), (24, [.int .u64 0]), (26, List.replicate 32 (.int .u8 0)), (30, [.int .i64 0, .int .i64 0, .int .i64 0] ++ List.replicate 64 (.int .u8 0) ++ [.int .u64 0, .int .u64 0]), (38, [.string ⟨#[]⟩, .int .i64 0, .int .u64 0]), (40, [.string ⟨#[]⟩, .int .i64 0, .int .u64 0, .int .i64 0]), (48, [.int .i64 0, .int .i64 0, .int .i64 0] ++ List.replicate 64 (.int .u8 0) ++ [.int .u64 0, .int .u64 0] ++ [.slice none 0 0]), (66, [.slice none 0 0]), (86, List.replicate 64 (.int .u8 0))]
  hzc := by show _ = _; kernel_rfl
  sz := [(2, 1), (3, 1), (5, 1), (22, 1), (24, 1), (26, 32), (28, 2), (30, 69), (38, 3), (40, 4), (48, 70), (49, 1), (86, 64)]
  hsz := by show _ = _; kernel_rfl
  sp := [(30, ([.int .i64 0, .int .i64 0, .int .i64 0] ++ List.replicate 64 (.int .u8 0) ++ [.int .u64 0, .int .u64 0], [(0, 1), (1, 1), (2, 1), (3, 32), (35, 32), (67, 2)])), (38, ([.string ⟨#[]⟩, .int .i64 0, .int .u64 0], [(0, 1), (1, 1), (2, 1)])), (40, ([.string ⟨#[]⟩, .int .i64 0, .int .u64 0, .int .i64 0], [(0, 3), (3, 1)])), (48, ([.int .i64 0, .int .i64 0, .int .i64 0] ++ List.replicate 64 (.int .u8 0) ++ [.int .u64 0, .int .u64 0] ++ [.slice none 0 0], [(0, 69), (69, 1)])), (86, (List.replicate 64 (.int .u8 0), [(0, 32), (32, 32)])), (130, ([.string ⟨#[]⟩] ++ [.int .i64 0] ++ [.int .u64 0] ++ [.int .i64 0] ++ [.int .u64 0, .int .u64 0], [(0, 1), (1, 1), (2, 1), (3, 1), (4, 2)])), (176, ([.slice none 0 0, .int .i64 0], [(0, 1), (1, 1)]))]
  hsp := by show _ = _; kernel_rfl
  uk := [(2, .i64), (3, .i64), (5, .u8), (24, .u64), (97, .u64)]
  huk := by show _ = _; kernel_rfl
  fl := []
  hfl := by show _ = _; kernel_rfl
  el := [(22, (5, 1)), (23, (38, 3)), (32, (48, 70)), (33, (40, 4)), (34, (30, 69)), (45, (23, 1)), (46, (2, 1)), (57, (24, 1)), (61, (26, 32)), (66, (86, 64)), (71, (9, 1)), (171, (66, 1)), (180, (3, 1))]
  hel := by show _ = _; kernel_rfl
  ar := [(26, (32, 1))]
  har := by show _ = _; kernel_rfl
  ap := [(22, (5, 1, 1)), (23, (38, 3, 32)), (32, (48, 70, 128)), (33, (40, 4, 40)), (34, (30, 69, 104)), (45, (23, 1, 24)), (46, (2, 1, 8)), (57, (24, 1, 8)), (61, (26, 32, 32)), (66, (86, 64, 64)), (71, (9, 1, 16)), (107, (22, 1, 24)), (171, (66, 1, 24)), (180, (3, 1, 8))]
  hap := by show _ = _; kernel_rfl
  cf := [7, 8, 9, 10, 11, 12, 13, 14, 15, 16, 17, 18, 19, 20, 21, 22, 23, 24, 25, 26, 27, 28, 29, 30, 31, 33, 34, 35, 36, 37, 38, 39, 40, 41, 42, 43, 44, 45, 46, 47, 48, 49, 50, 51, 52, 53, 54, 55, 56, 57, 58, 59, 62, 63, 64, 65, 66, 67, 68, 69, 70, 71, 72, 73, 74, 78, 79, 80, 81, 82, 83, 84, 85, 86, 87, 88, 89, 90, 91, 92, 93, 100, 107, 111, 112, 113, 114, 117, 126, 127, 128, 129, 130, 131, 132, 133, 134, 135, 136, 137, 138, 139, 140, 151, 152, 153, 154, 161, 162, 163, 164, 165, 166, 167, 168, 169, 170, 174, 177, 178, 180, 183, 185]
  hcf := by kernel_rfl
instance mixd : Mix Tryz.prog := ⟨by kernel_rfl⟩
end Go.Proofs.YtmjokdhhniblgaaGreat

