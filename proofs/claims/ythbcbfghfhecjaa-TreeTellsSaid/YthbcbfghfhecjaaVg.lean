/-
  Leaves, nodes, nothing: both sides.
-/
import Derived.Test.YthbcbfghfhecjaaVf
import Derived.Test.YthbcbfghfhecjaaTe
namespace Go.Proofs.Ythbcbfghfhecjaa
set_option linter.unusedVariables false
set_option linter.unusedSimpArgs false
open Go.RowKit Pl

theorem ap71 : apt Try.prog 71 = some (43, 1, 24) := by kernel_rfl
theorem cf39 : cfn Try.prog 39 = true := by kernel_rfl
theorem cf40 : cfn Try.prog 40 = true := by kernel_rfl
theorem fo35_1 : fo Try.prog 35 1 = some 32 := by kernel_rfl
theorem sz24 : szt Try.prog 24 = some 32 := by kernel_rfl
theorem zc24 : zc Try.prog 24 = some [.int .u8 0, .int .u8 0, .int .u8 0, .int .u8 0, .int .u8 0, .int .u8 0, .int .u8 0, .int .u8 0, .int .u8 0, .int .u8 0, .int .u8 0, .int .u8 0, .int .u8 0, .int .u8 0, .int .u8 0, .int .u8 0, .int .u8 0, .int .u8 0, .int .u8 0, .int .u8 0, .int .u8 0, .int .u8 0, .int .u8 0, .int .u8 0, .int .u8 0, .int .u8 0, .int .u8 0, .int .u8 0, .int .u8 0, .int .u8 0, .int .u8 0, .int .u8 0] := by kernel_rfl
theorem zc43 : zc Try.prog 43 = some [.slice none 0 0] := by kernel_rfl

set_option maxRecDepth 100000 in
set_option maxHeartbeats 1600000 in
theorem empty_pf : PF Try.prog 22 [] (.ag (hdv (tagH 122 []))) := by
  refine PF.enter (fn := Try.f22) Try.func22 rfl Try.ntmps22 rfl (fun w0 => ?_)
  refine .seq ?_
  refine .region ?_
  refine .step rfl (.alloc 1 rfl rfl zc24 rfl) ?_
  refine .nil ?_
  refine .next ?_
  refine .seq ?_
  refine .region ?_
  refine .step rfl (.callf rfl cf39 rfl ⟨trivial, trivial, trivial⟩ (.nil2 (tag_pf 122 [] (by decide) (by decide) (by simp [textLen, totalLen, H.l_len])))) ?_
  refine .step rfl (.store rfl rfl rfl sz24 rfl rfl) ?_
  refine .nil ?_
  refine .next ?_
  refine .ret ?_
  exact TE.retf rfl rfl rfl (pl_ag (pl_h _))

set_option maxRecDepth 100000 in
set_option maxHeartbeats 1600000 in
theorem leaf_pf (x : It) : PF Try.prog 18 [.ag x.dv] (.ag (hdv (tagH 108 [H.l x.ix, H.l x.vl]))) := by
  refine PF.enter (fn := Try.f18) Try.func18 rfl Try.ntmps18 rfl (fun w0 => ?_)
  refine .seq ?_
  refine .region ?_
  refine .step rfl (.box 1 rfl rfl rfl rfl) ?_
  refine .step rfl (.alloc 2 rfl rfl zc24 rfl) ?_
  refine .nil ?_
  refine TE.frzb 1 rfl rfl rfl rfl ?_
  refine .next ?_
  refine .seq ?_
  refine .draw mixed [Ro.mk _ (Eff.mk (some (3, _)) []) [], Ro.mk _ (Eff.mk (some (4, _)) []) [], Ro.mk _ (Eff.mk (some (5, _)) []) [], Ro.mk _ (Eff.mk (some (6, _)) []) [], Ro.mk _ (Eff.mk (some (7, _)) [(3, _)]) [3], Ro.mk _ (Eff.mk (some (8, _)) []) [3], Ro.mk _ (Eff.mk none [(2, _)]) [2]] rfl ⟨(fun _ _ => .fielde rfl rfl rfl fo35_0), (fun _ _ => .slicee rfl rfl rfl ar24 (Nat.le_of_ble_eq_true rfl) (by decide)), (fun _ _ => .fielde rfl rfl rfl fo35_1), (fun _ _ => .slicee rfl rfl rfl ar24 (Nat.le_of_ble_eq_true rfl) (by decide)), (fun _ _ => .buildsl 3 rfl rfl rfl ap71 zc43 rfl rfl rfl), (fun _ _ => .callf rfl cf39 rfl ⟨trivial, okA_len rfl rfl, trivial⟩ (tag_pf 108 [H.l x.ix, H.l x.vl] (by decide) (by decide) (by simp [textLen, totalLen, H.l_len]))), (fun _ _ => .store rfl rfl rfl sz24 rfl rfl), trivial⟩ (by kernel_rfl) ?_
  refine .next ?_
  refine .ret ?_
  exact TE.retf rfl rfl rfl (pl_ag (pl_h _))

set_option maxRecDepth 100000 in
set_option maxHeartbeats 1600000 in
theorem node_pf (a b : H) : PF Try.prog 20 [.ag (hdv a), .ag (hdv b)] (.ag (hdv (tagH 110 [H.l a, H.l b]))) := by
  refine PF.enter (fn := Try.f20) Try.func20 rfl Try.ntmps20 rfl (fun w0 => ?_)
  refine .seq ?_
  refine .region ?_
  refine .step rfl (.box 1 rfl rfl rfl rfl) ?_
  refine .step rfl (.box 2 rfl rfl rfl rfl) ?_
  refine .step rfl (.alloc 3 rfl rfl zc24 rfl) ?_
  refine .nil ?_
  refine TE.frzb 2 rfl rfl rfl rfl ?_
  refine TE.frzb 3 rfl rfl rfl rfl ?_
  refine .next ?_
  refine .seq ?_
  refine .draw mixed [Ro.mk _ (Eff.mk (some (5, _)) []) [], Ro.mk _ (Eff.mk (some (6, _)) []) [], Ro.mk _ (Eff.mk (some (7, _)) [(4, _)]) [4], Ro.mk _ (Eff.mk (some (8, _)) []) [4], Ro.mk _ (Eff.mk none [(3, _)]) [3]] rfl ⟨(fun _ _ => .slicee rfl rfl rfl ar24 (Nat.le_of_ble_eq_true rfl) (by decide)), (fun _ _ => .slicee rfl rfl rfl ar24 (Nat.le_of_ble_eq_true rfl) (by decide)), (fun _ _ => .buildsl 4 rfl rfl rfl ap71 zc43 rfl rfl rfl), (fun _ _ => .callf rfl cf39 rfl ⟨trivial, okA_len rfl rfl, trivial⟩ (tag_pf 110 [H.l a, H.l b] (by decide) (by decide) (by simp [textLen, totalLen, H.l_len]))), (fun _ _ => .store rfl rfl rfl sz24 rfl rfl), trivial⟩ (by kernel_rfl) ?_
  refine .next ?_
  refine .ret ?_
  exact TE.retf rfl rfl rfl (pl_ag (pl_h _))

set_option maxRecDepth 100000 in
set_option maxHeartbeats 1600000 in
theorem rempty_pf : PF Try.prog 23 [] (.ag (hdv (tagH 122 []))) := by
  refine PF.enter (fn := Try.f23) Try.func23 rfl Try.ntmps23 rfl (fun w0 => ?_)
  refine .seq ?_
  refine .region ?_
  refine .step rfl (.alloc 1 rfl rfl zc24 rfl) ?_
  refine .nil ?_
  refine .next ?_
  refine .seq ?_
  refine .region ?_
  refine .step rfl (.callf rfl cf40 rfl ⟨trivial, trivial, trivial⟩ (.nil2 (rtag_pf 122 [] (by decide) (by decide) (by simp [textLen, totalLen, H.l_len])))) ?_
  refine .step rfl (.store rfl rfl rfl sz24 rfl rfl) ?_
  refine .nil ?_
  refine .next ?_
  refine .ret ?_
  exact TE.retf rfl rfl rfl (pl_ag (pl_h _))

set_option maxRecDepth 100000 in
set_option maxHeartbeats 1600000 in
theorem rleaf_pf (x : It) : PF Try.prog 19 [.ag x.dv] (.ag (hdv (tagH 108 [H.l x.ix, H.l x.vl]))) := by
  refine PF.enter (fn := Try.f19) Try.func19 rfl Try.ntmps19 rfl (fun w0 => ?_)
  refine .seq ?_
  refine .region ?_
  refine .step rfl (.box 1 rfl rfl rfl rfl) ?_
  refine .step rfl (.alloc 2 rfl rfl zc24 rfl) ?_
  refine .nil ?_
  refine TE.frzb 1 rfl rfl rfl rfl ?_
  refine .next ?_
  refine .seq ?_
  refine .draw mixed [Ro.mk _ (Eff.mk (some (3, _)) []) [], Ro.mk _ (Eff.mk (some (4, _)) []) [], Ro.mk _ (Eff.mk (some (5, _)) []) [], Ro.mk _ (Eff.mk (some (6, _)) []) [], Ro.mk _ (Eff.mk (some (7, _)) [(3, _)]) [3], Ro.mk _ (Eff.mk (some (8, _)) []) [3], Ro.mk _ (Eff.mk none [(2, _)]) [2]] rfl ⟨(fun _ _ => .fielde rfl rfl rfl fo35_0), (fun _ _ => .slicee rfl rfl rfl ar24 (Nat.le_of_ble_eq_true rfl) (by decide)), (fun _ _ => .fielde rfl rfl rfl fo35_1), (fun _ _ => .slicee rfl rfl rfl ar24 (Nat.le_of_ble_eq_true rfl) (by decide)), (fun _ _ => .buildsl 3 rfl rfl rfl ap71 zc43 rfl rfl rfl), (fun _ _ => .callf rfl cf40 rfl ⟨trivial, okA_len rfl rfl, trivial⟩ (rtag_pf 108 [H.l x.ix, H.l x.vl] (by decide) (by decide) (by simp [textLen, totalLen, H.l_len]))), (fun _ _ => .store rfl rfl rfl sz24 rfl rfl), trivial⟩ (by kernel_rfl) ?_
  refine .next ?_
  refine .ret ?_
  exact TE.retf rfl rfl rfl (pl_ag (pl_h _))

set_option maxRecDepth 100000 in
set_option maxHeartbeats 1600000 in
theorem rnode_pf (a b : H) : PF Try.prog 21 [.ag (hdv a), .ag (hdv b)] (.ag (hdv (tagH 110 [H.l a, H.l b]))) := by
  refine PF.enter (fn := Try.f21) Try.func21 rfl Try.ntmps21 rfl (fun w0 => ?_)
  refine .seq ?_
  refine .region ?_
  refine .step rfl (.box 1 rfl rfl rfl rfl) ?_
  refine .step rfl (.box 2 rfl rfl rfl rfl) ?_
  refine .step rfl (.alloc 3 rfl rfl zc24 rfl) ?_
  refine .nil ?_
  refine TE.frzb 2 rfl rfl rfl rfl ?_
  refine TE.frzb 3 rfl rfl rfl rfl ?_
  refine .next ?_
  refine .seq ?_
  refine .draw mixed [Ro.mk _ (Eff.mk (some (5, _)) []) [], Ro.mk _ (Eff.mk (some (6, _)) []) [], Ro.mk _ (Eff.mk (some (7, _)) [(4, _)]) [4], Ro.mk _ (Eff.mk (some (8, _)) []) [4], Ro.mk _ (Eff.mk none [(3, _)]) [3]] rfl ⟨(fun _ _ => .slicee rfl rfl rfl ar24 (Nat.le_of_ble_eq_true rfl) (by decide)), (fun _ _ => .slicee rfl rfl rfl ar24 (Nat.le_of_ble_eq_true rfl) (by decide)), (fun _ _ => .buildsl 4 rfl rfl rfl ap71 zc43 rfl rfl rfl), (fun _ _ => .callf rfl cf40 rfl ⟨trivial, okA_len rfl rfl, trivial⟩ (rtag_pf 110 [H.l a, H.l b] (by decide) (by decide) (by simp [textLen, totalLen, H.l_len]))), (fun _ _ => .store rfl rfl rfl sz24 rfl rfl), trivial⟩ (by kernel_rfl) ?_
  refine .next ?_
  refine .ret ?_
  exact TE.retf rfl rfl rfl (pl_ag (pl_h _))

end Go.Proofs.Ythbcbfghfhecjaa
