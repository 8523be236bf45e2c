/-
  Items compared. The library's insertion sort. The library's rotation. The library's merging of neighbours. The library's stable sort. Turned round; clipped. Leaves, nodes, nothing: both sides.
-/
import Derived.Test.YteapoemockimfaaZQ3
import Derived.Test.YteapoemockimfaaZEv
namespace Go.Proofs.Yteapoemockimfaa
set_option linter.unusedVariables false
set_option linter.unusedSimpArgs false
open Go.RowKit Pl
set_option maxRecDepth 100000
set_option maxHeartbeats 3200000
theorem rempty_pf : PF Try.prog 94 [] (.ag (hdv (tagH 122 []))) := by
 refine PF.enter (fn := Try.f94) Try.func94 rfl Try.ntmps94 rfl (fun w0 => .w ?_)
 refine .t 1 1 rfl rfl (.cf (.nil2 (rtag_pf 122 [] (by decide) (by decide) (by simp [textLen, totalLen, H.l_len]))) rfl) ?_
 exact .z 1 2 rfl (TE.retf rfl rfl rfl (pl_ag (pl_h _)))
theorem rleaf_pf (x : It) : PF Try.prog 95 [.ag x.dv] (.ag (hdv (tagH 108 [H.l x.ix, H.l x.vl]))) := by
 refine PF.enter (fn := Try.f95) Try.func95 rfl Try.ntmps95 rfl (fun w0 => .w ?_)
 refine .g 2 1 rfl ?_
 refine TE.frzb 1 rfl rfl rfl rfl ?_
 refine .d 0 3 rfl ?_
 refine .t 4 3 (E := ⟨some (7, _), [(3, _)]⟩) [3] rfl rfl (fun _ _ => .ba 3 rfl) ?_
 refine .v 0 4 [3] rfl rfl (fun _ _ => .cf (rtag_pf 108 [H.l x.ix, H.l x.vl] (by decide) (by decide) (by simp [textLen, totalLen, H.l_len])) rfl) ?_
 refine .y 1 4 rfl (by kernel_rfl) ?_
 exact .z 0 4 rfl (TE.retf rfl rfl rfl (pl_ag (pl_h _)))
theorem rnode_pf (a b : H) : PF Try.prog 97 [.ag (hdv a), .ag (hdv b)] (.ag (hdv (tagH 110 [H.l a, H.l b]))) := by
 refine PF.enter (fn := Try.f97) Try.func97 rfl Try.ntmps97 rfl (fun w0 => .w ?_)
 refine .g 3 1 rfl ?_
 refine TE.frzb 2 rfl rfl rfl rfl ?_
 refine TE.frzb 3 rfl rfl rfl rfl ?_
 refine .d 0 4 rfl ?_
 refine .t 2 4 (E := ⟨some (7, _), [(4, _)]⟩) [4] rfl rfl (fun _ _ => .ba 4 rfl) ?_
 refine .v 0 5 [4] rfl rfl (fun _ _ => .cf (rtag_pf 110 [H.l a, H.l b] (by decide) (by decide) (by simp [textLen, totalLen, H.l_len])) rfl) ?_
 refine .y 1 5 rfl (by kernel_rfl) ?_
 exact .z 0 5 rfl (TE.retf rfl rfl rfl (pl_ag (pl_h _)))
end Go.Proofs.Yteapoemockimfaa

