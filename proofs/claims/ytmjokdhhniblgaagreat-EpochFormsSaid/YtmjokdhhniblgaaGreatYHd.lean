import Derived.Test.YtmjokdhhniblgaaGreatYFg
import Derived.Test.YtmjokdhhniblgaaGreatYHa
import Derived.Test.YtmjokdhhniblgaaGreatYHb
import Derived.Test.YtmjokdhhniblgaaGreatYEv
/-
  What a reader tells, step by step: plain words.
-/
namespace Go.Proofs.YtmjokdhhniblgaaGreat
set_option linter.unusedVariables false
set_option linter.unusedSimpArgs false
open Go.RowKit Pl
end Go.Proofs.YtmjokdhhniblgaaGreat
/-
  Heads' bytes, and what bytes are read as: plain words.
-/
namespace Go.Proofs.YtmjokdhhniblgaaGreat
set_option linter.unusedVariables false
set_option linter.unusedSimpArgs false
open Go.RowKit Pl
end Go.Proofs.YtmjokdhhniblgaaGreat
/-
  Heads' bytes.
-/
namespace Go.Proofs.YtmjokdhhniblgaaGreat
set_option linter.unusedVariables false
set_option linter.unusedSimpArgs false
open Go.RowKit Pl
set_option maxRecDepth 100000
set_option maxHeartbeats 3200000
theorem rbytes_po (h : Hd) (ho : h.ok) : PO Tryz.prog 40 [.ag h.dv] 5 1 (putH h).length ((putH h).flatMap bdv) := by
 refine PO.enter (fn := Tryz.f40) Tryz.func40 rfl Tryz.ntmps40 rfl (fun w0 => .w ?_)
 refine .g 2 1 rfl ?_
 refine TE.frzb 1 rfl rfl rfl rfl ?_
 refine .d 0 2 rfl ?_
 refine .v 0 2 [] rfl rfl (fun _ _ => .lm (h.dv) rfl) ?_
 refine .t 0 2 (E := ⟨some (4, _), [(2, _)]⟩) [2] rfl rfl (fun _ _ => .co 2 (rmsg_po h) rfl) ?_
 refine .v 1 3 [] rfl rfl (fun _ _ => .lm (sgdv h.r h.s) rfl) ?_
 refine .v 0 3 [] rfl rfl (fun _ _ => .cf (rsgp_pf h.r h.s ho.1 ho.2) rfl) ?_
 refine .t 0 3 (E := ⟨some (8, _), [(2, .dead), (3, _)]⟩) [2, 3] rfl rfl (fun _ _ => .ap 3 rfl (by rw [flat_length (sz := 1) (fun _ => rfl)]) (flat_one (fun _ => rfl) _) (by rw [msgB_len, putF_len]; decide) (by rw [msgB_len, putF_len]; decide)) ?_
 refine .y 1 4 rfl (by kernel_rfl) ?_
 refine TE.obj 3 (.row 5 1 ((putH h).flatMap bdv)) rfl (congrArg (AO.row _ _) (by unfold putH; rw [List.flatMap_append])) ?_
 refine TE.set 2 (.ow 3 (putH h).length 1) rfl (congrArg (fun n => AV.ow _ n 1) (by unfold putH; rw [List.length_append])) ?_
 exact .z 0 4 rfl (TE.retof rfl rfl rfl (by rw [flat_length (sz := 1) (fun _ => rfl)]) (by decide) (pl_flat (fun b Y hY => by simp [bdv] at hY; subst hY; exact pl_v _) _))
end Go.Proofs.YtmjokdhhniblgaaGreat
/-
  What bytes are read as a head.
-/
namespace Go.Proofs.YtmjokdhhniblgaaGreat
set_option linter.unusedVariables false
set_option linter.unusedSimpArgs false
open Go.RowKit Pl
set_option maxRecDepth 100000
set_option maxHeartbeats 3200000
end Go.Proofs.YtmjokdhhniblgaaGreat

