/-
  Entries' hashes: both sides.
-/
import Derived.Test.YthbcbfghfhecjaaVn
import Derived.Test.YthbcbfghfhecjaaTi
namespace Go.Proofs.Ythbcbfghfhecjaa
set_option linter.unusedVariables false
set_option linter.unusedSimpArgs false
open Go.RowKit Pl

theorem cf14 : cfn Try.prog 14 = true := by kernel_rfl
theorem cf15 : cfn Try.prog 15 = true := by kernel_rfl
theorem cf16 : cfn Try.prog 16 = true := by kernel_rfl
theorem cf17 : cfn Try.prog 17 = true := by kernel_rfl
theorem cf41 : cfn Try.prog 41 = true := by kernel_rfl
theorem cf42 : cfn Try.prog 42 = true := by kernel_rfl
theorem fo52_0 : fo Try.prog 52 0 = some 0 := by kernel_rfl
theorem fo52_1 : fo Try.prog 52 1 = some 1 := by kernel_rfl
theorem fo52_2 : fo Try.prog 52 2 = some 2 := by kernel_rfl
theorem tk22 : tyk Try.prog 22 = some none := by kernel_rfl
theorem tk9 : tyk Try.prog 9 = some none := by kernel_rfl
theorem uk22 : ukd Try.prog 22 = some .u64 := by kernel_rfl

set_option maxRecDepth 100000 in
set_option maxHeartbeats 1600000 in
theorem index_pf (nm : List UInt8) (hn : nm.length ≤ 1048576) : PF Try.prog 14 [.v (.string ⟨⟨nm⟩⟩)] (.ag (hdv (indexH nm))) := by
  refine PF.enter (fn := Try.f14) Try.func14 rfl Try.ntmps14 rfl (fun w0 => ?_)
  refine .seq ?_
  refine .region ?_
  refine .step rfl (.alloc 1 rfl rfl zc24 rfl) ?_
  refine .nil ?_
  refine .next ?_
  refine .seq ?_
  refine .region ?_
  refine .step rfl (.move rfl rfl) ?_
  refine .step rfl (.convsb rfl rfl us9 u843 (by omega)) ?_
  refine .step rfl (.buildsl (ds := [slT bdv 1 nm]) 2 rfl rfl rfl ap71 zc43 rfl rfl rfl) ?_
  refine .step rfl (.callf rfl cf39 rfl ⟨trivial, okA_len rfl rfl, trivial⟩ (tag_pf 105 [nm] (by decide) (by decide) (by simp [textLen, totalLen]; omega))) ?_
  refine .step rfl (.store rfl rfl rfl sz24 rfl rfl) ?_
  refine .nil ?_
  refine .next ?_
  refine .ret ?_
  exact TE.retf rfl rfl rfl (pl_ag (pl_h _))

set_option maxRecDepth 100000 in
set_option maxHeartbeats 1600000 in
theorem value_pf (ver key : Int) (h0 : 0 ≤ key) (h1 : key < 18446744073709551616) : PF Try.prog 16 [.v (.int .i64 ver), .v (.int .u64 key)] (.ag (hdv (valueH ver key))) := by
  refine PF.enter (fn := Try.f16) Try.func16 rfl Try.ntmps16 rfl (fun w0 => ?_)
  refine .seq ?_
  refine .region ?_
  refine .step rfl (.alloc 1 rfl rfl zc24 rfl) ?_
  refine .nil ?_
  refine .next ?_
  refine .seq ?_
  refine .region ?_
  refine .step rfl (.move rfl rfl) ?_
  refine .step rfl (.conviv (u64w ver) rfl rfl uk3 uk22 (IntKind.wrap_u64 _)) ?_
  refine .step rfl (.callf rfl cf41 rfl ⟨trivial, trivial⟩ (num_pf (u64w ver) (u64w_bd ver).1 (u64w_bd ver).2)) ?_
  refine .step rfl (.move rfl rfl) ?_
  refine .step rfl (.callf rfl cf41 rfl ⟨trivial, trivial⟩ (num_pf key h0 h1)) ?_
  refine .step rfl (.buildsl (ds := [slT bdv 1 (numB (u64w ver)), slT bdv 1 (numB key)]) 2 rfl rfl rfl ap71 zc43 rfl rfl rfl) ?_
  refine .step rfl (.callf rfl cf39 rfl ⟨trivial, okA_len rfl rfl, trivial⟩ (tag_pf 118 [numB (u64w ver), numB key] (by decide) (by decide) (by simp [textLen, totalLen, numB_len]))) ?_
  refine .step rfl (.store rfl rfl rfl sz24 rfl rfl) ?_
  refine .nil ?_
  refine .next ?_
  refine .ret ?_
  exact TE.retf rfl rfl rfl (pl_ag (pl_h _))

set_option maxRecDepth 100000 in
set_option maxHeartbeats 1600000 in
theorem item_pf (nm : List UInt8) (ver key : Int) (hn : nm.length ≤ 1048576) (h0 : 0 ≤ key) (h1 : key < 18446744073709551616) : PF Try.prog 27 [.ag (entD nm ver key)] (.ag (itemI nm ver key).dv) := by
  refine PF.enter (fn := Try.f27) Try.func27 rfl Try.ntmps27 rfl (fun w0 => ?_)
  refine .seq ?_
  refine .region ?_
  refine .step rfl (.box 1 rfl rfl rfl rfl) ?_
  refine .step rfl (.alloc 2 rfl rfl zc35 rfl) ?_
  refine .nil ?_
  refine TE.frzb 1 rfl rfl rfl rfl ?_
  refine .next ?_
  refine .seq ?_
  refine .draw mixed [Ro.mk _ (Eff.mk (some (3, _)) []) [], Ro.mk _ (Eff.mk (some (4, _)) []) [], Ro.mk _ (Eff.mk (some (5, _)) []) [], Ro.mk _ (Eff.mk (some (6, _)) []) [], Ro.mk _ (Eff.mk (some (7, _)) []) [], Ro.mk _ (Eff.mk (some (8, _)) []) [], Ro.mk _ (Eff.mk (some (9, _)) []) [], Ro.mk _ (Eff.mk (some (10, _)) []) [], Ro.mk _ (Eff.mk (some (11, _)) []) [], Ro.mk _ (Eff.mk none [(2, _)]) [2]] rfl ⟨(fun _ _ => .fielde rfl rfl rfl fo52_0), (fun _ _ => .lde rfl rfl rfl rfl tk9), (fun _ _ => .callf rfl cf14 rfl ⟨trivial, trivial⟩ (index_pf nm hn)), (fun _ _ => .fielde rfl rfl rfl fo52_1), (fun _ _ => .lde rfl rfl rfl rfl tk3), (fun _ _ => .fielde rfl rfl rfl fo52_2), (fun _ _ => .lde rfl rfl rfl rfl tk22), (fun _ _ => .callf rfl cf16 rfl ⟨trivial, trivial, trivial⟩ (value_pf ver key h0 h1)), (fun _ _ => .build (ds := (itemI nm ver key).dv) rfl rfl sp35 rfl rfl), (fun _ _ => .store rfl rfl rfl sz35 rfl rfl), trivial⟩ (by kernel_rfl) ?_
  refine .next ?_
  refine .ret ?_
  exact TE.retf rfl rfl rfl (pl_ag (pl_it _))

set_option maxRecDepth 100000 in
set_option maxHeartbeats 1600000 in
theorem rindex_pf (nm : List UInt8) (hn : nm.length ≤ 1048576) : PF Try.prog 15 [.v (.string ⟨⟨nm⟩⟩)] (.ag (hdv (indexH nm))) := by
  refine PF.enter (fn := Try.f15) Try.func15 rfl Try.ntmps15 rfl (fun w0 => ?_)
  refine .seq ?_
  refine .region ?_
  refine .step rfl (.alloc 1 rfl rfl zc24 rfl) ?_
  refine .nil ?_
  refine .next ?_
  refine .seq ?_
  refine .region ?_
  refine .step rfl (.move rfl rfl) ?_
  refine .step rfl (.convsb rfl rfl us9 u843 (by omega)) ?_
  refine .step rfl (.buildsl (ds := [slT bdv 1 nm]) 2 rfl rfl rfl ap71 zc43 rfl rfl rfl) ?_
  refine .step rfl (.callf rfl cf40 rfl ⟨trivial, okA_len rfl rfl, trivial⟩ (rtag_pf 105 [nm] (by decide) (by decide) (by simp [textLen, totalLen]; omega))) ?_
  refine .step rfl (.store rfl rfl rfl sz24 rfl rfl) ?_
  refine .nil ?_
  refine .next ?_
  refine .ret ?_
  exact TE.retf rfl rfl rfl (pl_ag (pl_h _))

set_option maxRecDepth 100000 in
set_option maxHeartbeats 1600000 in
theorem rvalue_pf (ver key : Int) (h0 : 0 ≤ key) (h1 : key < 18446744073709551616) : PF Try.prog 17 [.v (.int .i64 ver), .v (.int .u64 key)] (.ag (hdv (valueH ver key))) := by
  refine PF.enter (fn := Try.f17) Try.func17 rfl Try.ntmps17 rfl (fun w0 => ?_)
  refine .seq ?_
  refine .region ?_
  refine .step rfl (.alloc 1 rfl rfl zc24 rfl) ?_
  refine .nil ?_
  refine .next ?_
  refine .seq ?_
  refine .region ?_
  refine .step rfl (.move rfl rfl) ?_
  refine .step rfl (.conviv (u64w ver) rfl rfl uk3 uk22 (IntKind.wrap_u64 _)) ?_
  refine .step rfl (.callf rfl cf42 rfl ⟨trivial, trivial⟩ (rnum_pf (u64w ver) (u64w_bd ver).1 (u64w_bd ver).2)) ?_
  refine .step rfl (.move rfl rfl) ?_
  refine .step rfl (.callf rfl cf42 rfl ⟨trivial, trivial⟩ (rnum_pf key h0 h1)) ?_
  refine .step rfl (.buildsl (ds := [slT bdv 1 (numB (u64w ver)), slT bdv 1 (numB key)]) 2 rfl rfl rfl ap71 zc43 rfl rfl rfl) ?_
  refine .step rfl (.callf rfl cf40 rfl ⟨trivial, okA_len rfl rfl, trivial⟩ (rtag_pf 118 [numB (u64w ver), numB key] (by decide) (by decide) (by simp [textLen, totalLen, numB_len]))) ?_
  refine .step rfl (.store rfl rfl rfl sz24 rfl rfl) ?_
  refine .nil ?_
  refine .next ?_
  refine .ret ?_
  exact TE.retf rfl rfl rfl (pl_ag (pl_h _))

set_option maxRecDepth 100000 in
set_option maxHeartbeats 1600000 in
theorem ritem_pf (nm : List UInt8) (ver key : Int) (hn : nm.length ≤ 1048576) (h0 : 0 ≤ key) (h1 : key < 18446744073709551616) : PF Try.prog 28 [.ag (entD nm ver key)] (.ag (itemI nm ver key).dv) := by
  refine PF.enter (fn := Try.f28) Try.func28 rfl Try.ntmps28 rfl (fun w0 => ?_)
  refine .seq ?_
  refine .region ?_
  refine .step rfl (.box 1 rfl rfl rfl rfl) ?_
  refine .step rfl (.alloc 2 rfl rfl zc35 rfl) ?_
  refine .nil ?_
  refine TE.frzb 1 rfl rfl rfl rfl ?_
  refine .next ?_
  refine .seq ?_
  refine .draw mixed [Ro.mk _ (Eff.mk (some (3, _)) []) [], Ro.mk _ (Eff.mk (some (4, _)) []) [], Ro.mk _ (Eff.mk (some (5, _)) []) [], Ro.mk _ (Eff.mk (some (6, _)) []) [], Ro.mk _ (Eff.mk (some (7, _)) []) [], Ro.mk _ (Eff.mk (some (8, _)) []) [], Ro.mk _ (Eff.mk (some (9, _)) []) [], Ro.mk _ (Eff.mk (some (10, _)) []) [], Ro.mk _ (Eff.mk (some (11, _)) []) [], Ro.mk _ (Eff.mk none [(2, _)]) [2]] rfl ⟨(fun _ _ => .fielde rfl rfl rfl fo52_0), (fun _ _ => .lde rfl rfl rfl rfl tk9), (fun _ _ => .callf rfl cf15 rfl ⟨trivial, trivial⟩ (rindex_pf nm hn)), (fun _ _ => .fielde rfl rfl rfl fo52_1), (fun _ _ => .lde rfl rfl rfl rfl tk3), (fun _ _ => .fielde rfl rfl rfl fo52_2), (fun _ _ => .lde rfl rfl rfl rfl tk22), (fun _ _ => .callf rfl cf17 rfl ⟨trivial, trivial, trivial⟩ (rvalue_pf ver key h0 h1)), (fun _ _ => .build (ds := (itemI nm ver key).dv) rfl rfl sp35 rfl rfl), (fun _ _ => .store rfl rfl rfl sz35 rfl rfl), trivial⟩ (by kernel_rfl) ?_
  refine .next ?_
  refine .ret ?_
  exact TE.retf rfl rfl rfl (pl_ag (pl_it _))

end Go.Proofs.Ythbcbfghfhecjaa
