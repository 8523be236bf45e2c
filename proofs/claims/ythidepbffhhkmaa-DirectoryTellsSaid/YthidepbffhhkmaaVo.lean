/-
  The reference's sides and root. Entries' hashes: both sides.
-/
import Derived.Test.YthidepbffhhkmaaVm
import Derived.Test.YthidepbffhhkmaaQ3
namespace Go.Proofs.Ythidepbffhhkmaa
set_option linter.unusedVariables false
set_option linter.unusedSimpArgs false
open Go.RowKit Pl



theorem ap91 : apt Try.prog 91 = some (22, 1, 24) := by kernel_rfl
theorem cf27 : cfn Try.prog 27 = true := by kernel_rfl
theorem cf28 : cfn Try.prog 28 = true := by kernel_rfl
theorem cf37 : cfn Try.prog 37 = true := by kernel_rfl
theorem cf38 : cfn Try.prog 38 = true := by kernel_rfl
theorem cf46 : cfn Try.prog 46 = true := by kernel_rfl
theorem cf47 : cfn Try.prog 47 = true := by kernel_rfl
theorem cf55 : cfn Try.prog 55 = true := by kernel_rfl
theorem cf56 : cfn Try.prog 56 = true := by kernel_rfl
theorem fo30_0 : fo Try.prog 30 0 = some 0 := by kernel_rfl
theorem fo30_1 : fo Try.prog 30 1 = some 1 := by kernel_rfl
theorem fo30_2 : fo Try.prog 30 2 = some 2 := by kernel_rfl
theorem sp36 : stp Try.prog 36 = some ([.int .u8 0, .int .u8 0, .int .u8 0, .int .u8 0, .int .u8 0, .int .u8 0, .int .u8 0, .int .u8 0, .int .u8 0, .int .u8 0, .int .u8 0, .int .u8 0, .int .u8 0, .int .u8 0, .int .u8 0, .int .u8 0, .int .u8 0, .int .u8 0, .int .u8 0, .int .u8 0, .int .u8 0, .int .u8 0, .int .u8 0, .int .u8 0, .int .u8 0, .int .u8 0, .int .u8 0, .int .u8 0, .int .u8 0, .int .u8 0, .int .u8 0, .int .u8 0, .int .u8 0, .int .u8 0, .int .u8 0, .int .u8 0, .int .u8 0, .int .u8 0, .int .u8 0, .int .u8 0, .int .u8 0, .int .u8 0, .int .u8 0, .int .u8 0, .int .u8 0, .int .u8 0, .int .u8 0, .int .u8 0, .int .u8 0, .int .u8 0, .int .u8 0, .int .u8 0, .int .u8 0, .int .u8 0, .int .u8 0, .int .u8 0, .int .u8 0, .int .u8 0, .int .u8 0, .int .u8 0, .int .u8 0, .int .u8 0, .int .u8 0, .int .u8 0], [(0, 32), (32, 32)]) := by kernel_rfl
theorem sz34 : szt Try.prog 34 = some 32 := by kernel_rfl
theorem tk28 : tyk Try.prog 28 = some none := by kernel_rfl
theorem tk3 : tyk Try.prog 3 = some none := by kernel_rfl
theorem tk9 : tyk Try.prog 9 = some none := by kernel_rfl
theorem uk28 : ukd Try.prog 28 = some .u64 := by kernel_rfl
theorem zc22 : zc Try.prog 22 = some [.slice none 0 0] := by kernel_rfl
theorem zc34 : zc Try.prog 34 = some [.int .u8 0, .int .u8 0, .int .u8 0, .int .u8 0, .int .u8 0, .int .u8 0, .int .u8 0, .int .u8 0, .int .u8 0, .int .u8 0, .int .u8 0, .int .u8 0, .int .u8 0, .int .u8 0, .int .u8 0, .int .u8 0, .int .u8 0, .int .u8 0, .int .u8 0, .int .u8 0, .int .u8 0, .int .u8 0, .int .u8 0, .int .u8 0, .int .u8 0, .int .u8 0, .int .u8 0, .int .u8 0, .int .u8 0, .int .u8 0, .int .u8 0, .int .u8 0] := by kernel_rfl

set_option maxRecDepth 100000 in
set_option maxHeartbeats 1600000 in
theorem index_pf (nm : List UInt8) (hn : nm.length ≤ 1048576) : PF Try.prog 37 [.v (.string ⟨⟨nm⟩⟩)] (.ag (hdv (indexH nm))) := by
  refine PF.enter (fn := Try.f37) Try.func37 rfl Try.ntmps37 rfl (fun w0 => ?_)
  refine .seq ?_
  refine .region ?_
  refine .step rfl (.alloc 1 rfl rfl zc34 rfl) ?_
  refine .nil ?_
  refine .next ?_
  refine .seq ?_
  refine .region ?_
  refine .step rfl (.move rfl rfl) ?_
  refine .step rfl (.convsb rfl rfl us9 u822 (by omega)) ?_
  refine .step rfl (.buildsl (ds := [slT bdv 1 nm]) 2 rfl rfl rfl ap91 zc22 rfl rfl rfl) ?_
  refine .step rfl (.callf rfl cf55 rfl ⟨trivial, okA_len rfl rfl, trivial⟩ (tag_pf 105 [nm] (by decide) (by decide) (by simp [textLen, totalLen]; omega))) ?_
  refine .step rfl (.store rfl rfl rfl sz34 rfl rfl) ?_
  refine .nil ?_
  refine .next ?_
  refine .ret ?_
  exact TE.retf rfl rfl rfl (pl_ag (pl_h _))

set_option maxRecDepth 100000 in
set_option maxHeartbeats 1600000 in
theorem value_pf (ver key : Int) (h0 : 0 ≤ key) (h1 : key < 18446744073709551616) : PF Try.prog 38 [.v (.int .i64 ver), .v (.int .u64 key)] (.ag (hdv (valueH ver key))) := by
  refine PF.enter (fn := Try.f38) Try.func38 rfl Try.ntmps38 rfl (fun w0 => ?_)
  refine .seq ?_
  refine .region ?_
  refine .step rfl (.alloc 1 rfl rfl zc34 rfl) ?_
  refine .nil ?_
  refine .next ?_
  refine .seq ?_
  refine .region ?_
  refine .step rfl (.move rfl rfl) ?_
  refine .step rfl (.conviv (u64w ver) rfl rfl uk3 uk28 (IntKind.wrap_u64 _)) ?_
  refine .step rfl (.callf rfl cf56 rfl ⟨trivial, trivial⟩ (num_pf (u64w ver) (u64w_bd ver).1 (u64w_bd ver).2)) ?_
  refine .step rfl (.move rfl rfl) ?_
  refine .step rfl (.callf rfl cf56 rfl ⟨trivial, trivial⟩ (num_pf key h0 h1)) ?_
  refine .step rfl (.buildsl (ds := [slT bdv 1 (numB (u64w ver)), slT bdv 1 (numB key)]) 2 rfl rfl rfl ap91 zc22 rfl rfl rfl) ?_
  refine .step rfl (.callf rfl cf55 rfl ⟨trivial, okA_len rfl rfl, trivial⟩ (tag_pf 118 [numB (u64w ver), numB key] (by decide) (by decide) (by simp [textLen, totalLen, numB_len]))) ?_
  refine .step rfl (.store rfl rfl rfl sz34 rfl rfl) ?_
  refine .nil ?_
  refine .next ?_
  refine .ret ?_
  exact TE.retf rfl rfl rfl (pl_ag (pl_h _))

set_option maxRecDepth 100000 in
set_option maxHeartbeats 1600000 in
theorem item_pf (nm : List UInt8) (ver key : Int) (hn : nm.length ≤ 1048576) (h0 : 0 ≤ key) (h1 : key < 18446744073709551616) : PF Try.prog 25 [.ag (entD nm ver key)] (.ag (itemI nm ver key).dv) := by
  refine PF.enter (fn := Try.f25) Try.func25 rfl Try.ntmps25 rfl (fun w0 => ?_)
  refine .seq ?_
  refine .region ?_
  refine .step rfl (.box 1 rfl rfl rfl rfl) ?_
  refine .step rfl (.alloc 2 rfl rfl zc36 rfl) ?_
  refine .nil ?_
  refine TE.frzb 1 rfl rfl rfl rfl ?_
  refine .next ?_
  refine .seq ?_
  refine .draw mixed [Ro.mk _ (Eff.mk (some (3, _)) []) [], Ro.mk _ (Eff.mk (some (4, _)) []) [], Ro.mk _ (Eff.mk (some (5, _)) []) [], Ro.mk _ (Eff.mk (some (6, _)) []) [], Ro.mk _ (Eff.mk (some (7, _)) []) [], Ro.mk _ (Eff.mk (some (8, _)) []) [], Ro.mk _ (Eff.mk (some (9, _)) []) [], Ro.mk _ (Eff.mk (some (10, _)) []) [], Ro.mk _ (Eff.mk (some (11, _)) []) [], Ro.mk _ (Eff.mk none [(2, _)]) [2]] rfl ⟨(fun _ _ => .fielde rfl rfl rfl fo30_0), (fun _ _ => .lde rfl rfl rfl rfl tk9), (fun _ _ => .callf rfl cf37 rfl ⟨trivial, trivial⟩ (index_pf nm hn)), (fun _ _ => .fielde rfl rfl rfl fo30_1), (fun _ _ => .lde rfl rfl rfl rfl tk3), (fun _ _ => .fielde rfl rfl rfl fo30_2), (fun _ _ => .lde rfl rfl rfl rfl tk28), (fun _ _ => .callf rfl cf38 rfl ⟨trivial, trivial, trivial⟩ (value_pf ver key h0 h1)), (fun _ _ => .build (ds := (itemI nm ver key).dv) rfl rfl sp36 rfl rfl), (fun _ _ => .store rfl rfl rfl sz36 rfl rfl), trivial⟩ (by kernel_rfl) ?_
  refine .next ?_
  refine .ret ?_
  exact TE.retf rfl rfl rfl (pl_ag (pl_it _))

set_option maxRecDepth 100000 in
set_option maxHeartbeats 1600000 in
theorem rindex_pf (nm : List UInt8) (hn : nm.length ≤ 1048576) : PF Try.prog 27 [.v (.string ⟨⟨nm⟩⟩)] (.ag (hdv (indexH nm))) := by
  refine PF.enter (fn := Try.f27) Try.func27 rfl Try.ntmps27 rfl (fun w0 => ?_)
  refine .seq ?_
  refine .region ?_
  refine .step rfl (.alloc 1 rfl rfl zc34 rfl) ?_
  refine .nil ?_
  refine .next ?_
  refine .seq ?_
  refine .region ?_
  refine .step rfl (.move rfl rfl) ?_
  refine .step rfl (.convsb rfl rfl us9 u822 (by omega)) ?_
  refine .step rfl (.buildsl (ds := [slT bdv 1 nm]) 2 rfl rfl rfl ap91 zc22 rfl rfl rfl) ?_
  refine .step rfl (.callf rfl cf46 rfl ⟨trivial, okA_len rfl rfl, trivial⟩ (rtag_pf 105 [nm] (by decide) (by decide) (by simp [textLen, totalLen]; omega))) ?_
  refine .step rfl (.store rfl rfl rfl sz34 rfl rfl) ?_
  refine .nil ?_
  refine .next ?_
  refine .ret ?_
  exact TE.retf rfl rfl rfl (pl_ag (pl_h _))

set_option maxRecDepth 100000 in
set_option maxHeartbeats 1600000 in
theorem rvalue_pf (ver key : Int) (h0 : 0 ≤ key) (h1 : key < 18446744073709551616) : PF Try.prog 28 [.v (.int .i64 ver), .v (.int .u64 key)] (.ag (hdv (valueH ver key))) := by
  refine PF.enter (fn := Try.f28) Try.func28 rfl Try.ntmps28 rfl (fun w0 => ?_)
  refine .seq ?_
  refine .region ?_
  refine .step rfl (.alloc 1 rfl rfl zc34 rfl) ?_
  refine .nil ?_
  refine .next ?_
  refine .seq ?_
  refine .region ?_
  refine .step rfl (.move rfl rfl) ?_
  refine .step rfl (.conviv (u64w ver) rfl rfl uk3 uk28 (IntKind.wrap_u64 _)) ?_
  refine .step rfl (.callf rfl cf47 rfl ⟨trivial, trivial⟩ (rnum_pf (u64w ver) (u64w_bd ver).1 (u64w_bd ver).2)) ?_
  refine .step rfl (.move rfl rfl) ?_
  refine .step rfl (.callf rfl cf47 rfl ⟨trivial, trivial⟩ (rnum_pf key h0 h1)) ?_
  refine .step rfl (.buildsl (ds := [slT bdv 1 (numB (u64w ver)), slT bdv 1 (numB key)]) 2 rfl rfl rfl ap91 zc22 rfl rfl rfl) ?_
  refine .step rfl (.callf rfl cf46 rfl ⟨trivial, okA_len rfl rfl, trivial⟩ (rtag_pf 118 [numB (u64w ver), numB key] (by decide) (by decide) (by simp [textLen, totalLen, numB_len]))) ?_
  refine .step rfl (.store rfl rfl rfl sz34 rfl rfl) ?_
  refine .nil ?_
  refine .next ?_
  refine .ret ?_
  exact TE.retf rfl rfl rfl (pl_ag (pl_h _))

set_option maxRecDepth 100000 in
set_option maxHeartbeats 1600000 in
theorem ritem_pf (nm : List UInt8) (ver key : Int) (hn : nm.length ≤ 1048576) (h0 : 0 ≤ key) (h1 : key < 18446744073709551616) : PF Try.prog 11 [.ag (entD nm ver key)] (.ag (itemI nm ver key).dv) := by
  refine PF.enter (fn := Try.f11) Try.func11 rfl Try.ntmps11 rfl (fun w0 => ?_)
  refine .seq ?_
  refine .region ?_
  refine .step rfl (.box 1 rfl rfl rfl rfl) ?_
  refine .step rfl (.alloc 2 rfl rfl zc36 rfl) ?_
  refine .nil ?_
  refine TE.frzb 1 rfl rfl rfl rfl ?_
  refine .next ?_
  refine .seq ?_
  refine .draw mixed [Ro.mk _ (Eff.mk (some (3, _)) []) [], Ro.mk _ (Eff.mk (some (4, _)) []) [], Ro.mk _ (Eff.mk (some (5, _)) []) [], Ro.mk _ (Eff.mk (some (6, _)) []) [], Ro.mk _ (Eff.mk (some (7, _)) []) [], Ro.mk _ (Eff.mk (some (8, _)) []) [], Ro.mk _ (Eff.mk (some (9, _)) []) [], Ro.mk _ (Eff.mk (some (10, _)) []) [], Ro.mk _ (Eff.mk (some (11, _)) []) [], Ro.mk _ (Eff.mk none [(2, _)]) [2]] rfl ⟨(fun _ _ => .fielde rfl rfl rfl fo30_0), (fun _ _ => .lde rfl rfl rfl rfl tk9), (fun _ _ => .callf rfl cf27 rfl ⟨trivial, trivial⟩ (rindex_pf nm hn)), (fun _ _ => .fielde rfl rfl rfl fo30_1), (fun _ _ => .lde rfl rfl rfl rfl tk3), (fun _ _ => .fielde rfl rfl rfl fo30_2), (fun _ _ => .lde rfl rfl rfl rfl tk28), (fun _ _ => .callf rfl cf28 rfl ⟨trivial, trivial, trivial⟩ (rvalue_pf ver key h0 h1)), (fun _ _ => .build (ds := (itemI nm ver key).dv) rfl rfl sp36 rfl rfl), (fun _ _ => .store rfl rfl rfl sz36 rfl rfl), trivial⟩ (by kernel_rfl) ?_
  refine .next ?_
  refine .ret ?_
  exact TE.retf rfl rfl rfl (pl_ag (pl_it _))

end Go.Proofs.Ythidepbffhhkmaa
