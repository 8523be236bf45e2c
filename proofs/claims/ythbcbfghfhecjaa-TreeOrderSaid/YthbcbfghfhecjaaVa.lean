/-
  Items compared.
-/
import Derived.Test.YthbcbfghfhecjaaTd
namespace Go.Proofs.Ythbcbfghfhecjaa
set_option linter.unusedVariables false
set_option linter.unusedSimpArgs false
open Go.RowKit Pl

theorem ar24 : arr Try.prog 24 = some (32, 1) := by kernel_rfl
theorem cf45 : cfn Try.prog 45 = true := by kernel_rfl
theorem fo35_0 : fo Try.prog 35 0 = some 0 := by kernel_rfl
theorem mixed : Try.prog.follows .mixedOrders = true := by kernel_rfl

set_option maxRecDepth 100000 in
set_option maxHeartbeats 1600000 in
theorem bcmp_pf (l m : List UInt8) : PF Try.prog 45 [slT bdv 1 l, slT bdv 1 m] (.v (.int .i64 (Lib.compareBytes l m))) := by
  refine PF.enter (fn := Try.f45) Try.func45 rfl Try.ntmps45 rfl (fun w0 => ?_)
  refine .seq ?_
  refine .region ?_
  refine .step rfl (.assign rfl rfl) ?_
  refine .nil ?_
  refine .next ?_
  refine .seq ?_
  refine .region ?_
  refine .step rfl (.move rfl rfl) ?_
  refine .step rfl (.move rfl rfl) ?_
  refine .step rfl (.cmpb rfl Try.func54 (by kernel_rfl) (by kernel_rfl) (by kernel_rfl) (by kernel_rfl) rfl ⟨trivial, trivial, trivial⟩) ?_
  refine .step rfl (.assign rfl rfl) ?_
  refine .nil ?_
  refine .next ?_
  refine .ret ?_
  exact TE.retf rfl rfl rfl trivial

set_option maxRecDepth 100000 in
set_option maxHeartbeats 1600000 in
theorem before_pf (x y : It) : PF Try.prog 32 [.ag x.dv, .ag y.dv] (.v (.int .i64 (cmpIt x y))) := by
  refine PF.enter (fn := Try.f32) Try.func32 rfl Try.ntmps32 rfl (fun w0 => ?_)
  refine .seq ?_
  refine .region ?_
  refine .step rfl (.box 1 rfl rfl rfl rfl) ?_
  refine .step rfl (.box 2 rfl rfl rfl rfl) ?_
  refine .step rfl (.assign rfl rfl) ?_
  refine .nil ?_
  refine .next ?_
  refine .seq ?_
  refine .draw mixed [Ro.mk _ (Eff.mk (some (5, _)) []) [1], Ro.mk _ (Eff.mk (some (6, _)) []) [1], Ro.mk _ (Eff.mk (some (7, _)) []) [2], Ro.mk _ (Eff.mk (some (8, _)) []) [2], Ro.mk _ (Eff.mk (some (9, _)) []) [1, 2], Ro.mk _ (Eff.mk (some (4, _)) []) []] rfl ⟨(fun _ _ => .fieldp rfl rfl rfl rfl fo35_0), (fun _ _ => .slicep rfl rfl rfl rfl ar24 rfl rfl (by decide) (by decide) (by decide) (by decide) (Nat.le_of_ble_eq_true rfl) (by decide)), (fun _ _ => .fieldp rfl rfl rfl rfl fo35_0), (fun _ _ => .slicep rfl rfl rfl rfl ar24 rfl rfl (by decide) (by decide) (by decide) (by decide) (Nat.le_of_ble_eq_true rfl) (by decide)), (fun _ _ => .callf rfl cf45 rfl ⟨trivial, trivial, trivial⟩ (bcmp_pf (H.l x.ix) (H.l y.ix))), (fun _ _ => .assign rfl rfl), trivial⟩ (by kernel_rfl) ?_
  refine .next ?_
  refine .ret ?_
  exact TE.retf rfl rfl rfl trivial

end Go.Proofs.Ythbcbfghfhecjaa
