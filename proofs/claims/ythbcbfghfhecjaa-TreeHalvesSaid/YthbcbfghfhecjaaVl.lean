/-
  Set of the program.
-/
import Derived.Test.YthbcbfghfhecjaaVk
namespace Go.Proofs.Ythbcbfghfhecjaa
set_option linter.unusedVariables false
set_option linter.unusedSimpArgs false
open Go.RowKit Pl

theorem ap64 : apt Try.prog 64 = some (25, 1, 24) := by kernel_rfl
theorem cf29 : cfn Try.prog 29 = true := by kernel_rfl
theorem cf30 : cfn Try.prog 30 = true := by kernel_rfl
theorem cf31 : cfn Try.prog 31 = true := by kernel_rfl
theorem cf33 : cfn Try.prog 33 = true := by kernel_rfl
theorem cf34 : cfn Try.prog 34 = true := by kernel_rfl
theorem zc25 : zc Try.prog 25 = some [.slice none 0 0] := by kernel_rfl

set_option maxRecDepth 100000 in
set_option maxHeartbeats 1600000 in
theorem set_pc (l m : List It) (hx : l.length + m.length ≤ 1048576) : PC Try.prog 10 [slT It.dv 64 (l), slT It.dv 64 (m)] (slT It.dv 64 (setA l m)) := by
  have hX : ([l, m].flatten).length ≤ 1048576 := by simp; omega
  refine PC.enter (fn := Try.f10) Try.func10 rfl Try.ntmps10 rfl (fun w0 K0 => ?_)
  refine .seq ?_
  refine .region ?_
  refine .step rfl (.assign rfl rfl) ?_
  refine .nil ?_
  refine .next ?_
  refine .seq ?_
  refine .region ?_
  refine .step rfl (.move rfl rfl) ?_
  refine .step rfl (.move rfl rfl) ?_
  refine .step rfl (.buildsl (ds := [slT It.dv 64 (l), slT It.dv 64 (m)]) 1 rfl rfl rfl ap64 zc25 rfl rfl rfl) ?_
  refine .step rfl (.callo 2 rfl rfl cf29 rfl ⟨okA_len rfl rfl, trivial⟩ (concat_po [l, m] (by simp) hX)) ?_
  refine .step rfl (.assign rfl rfl) ?_
  refine .nil ?_
  refine .next ?_
  refine .seq ?_
  refine .region ?_
  refine .step rfl (.move rfl rfl) ?_
  refine .step rfl (.callm (o' := .row 35 64 ((rvI ([l, m].flatten)).flatMap It.dv)) 2 rfl cf30 rfl rfl rfl rfl (by simp) rfl rfl (rev_pm ([l, m].flatten) hX)) ?_
  refine .nil ?_
  refine .next ?_
  refine .seq ?_
  refine .region ?_
  refine .step rfl (.move rfl rfl) ?_
  refine .step rfl (.callm (o' := .row 35 64 ((stI (rvI ([l, m].flatten))).flatMap It.dv)) 2 rfl cf31 rfl rfl rfl rfl (by simp) rfl rfl ((rvI_len ([l, m].flatten)) ▸ sort_pm (rvI ([l, m].flatten)) (by rw [rvI_len]; exact hX))) ?_
  refine .nil ?_
  refine .next ?_
  refine .seq ?_
  refine .region ?_
  refine .step rfl (.move rfl rfl) ?_
  refine .step rfl (.callm (o' := .row 35 64 ((setA l m).flatMap It.dv)) 2 rfl cf34 rfl rfl rfl rfl (by simp) rfl rfl (((stI_len _).trans (rvI_len ([l, m].flatten))) ▸ compact_pm (stI (rvI ([l, m].flatten))) (by rw [stI_len, rvI_len]; exact hX))) ?_
  refine .frz 15 (slT It.dv 64 (setA l m)) rfl rfl (it_flat _) rfl ?_
  refine .step rfl (.callc rfl cf33 rfl (clip_pc (setA l m))) ?_
  refine .step rfl (.assign rfl rfl) ?_
  refine .nil ?_
  refine .next ?_
  refine .ret ?_
  exact TE.retc rfl rfl rfl

end Go.Proofs.Ythbcbfghfhecjaa
