/-
  Roots; items of numbers; lists of items compared.
-/
import Derived.Test.YteapoemockimfaaZVo
import Derived.Test.YteapoemockimfaaZEv
namespace Go.Proofs.Yteapoemockimfaa
set_option linter.unusedVariables false
set_option linter.unusedSimpArgs false
open Go.RowKit Pl
set_option maxRecDepth 100000
set_option maxHeartbeats 3200000
theorem rroot_all (l : List It) (hl : l.length ≤ 1048576) : PF Try.prog 68 [slT It.dv 64 (l)] (.ag (hdv (rootH l))) := by
 have c1 := (rset_po l [] (by simpa using hl)).pf
 have c2 := rroot_pf 256 0 (setR l []) (okT_str (setR_str l [])) (by have := setR_len l []; simp at this; omega) (by omega)
 rw [rootH_def] at c2
 refine PF.enter (fn := Try.f68) Try.func68 rfl Try.ntmps68 rfl (fun w0 => .w ?_)
 refine .t 2 1 rfl rfl (.cf (.nil2 c1) rfl) ?_
 refine .t 0 2 rfl rfl (.cf (c2) rfl) ?_
 exact .z 1 2 rfl (TE.retf rfl rfl rfl (pl_ag (pl_h _)))
end Go.Proofs.Yteapoemockimfaa

