import Derived.Test.YtmjokdhhniblgaaGreatYVo
import Derived.Test.YtmjokdhhniblgaaGreatYEv
/-
  Roots; items of numbers; lists of items compared.
-/
namespace Go.Proofs.YtmjokdhhniblgaaGreat
set_option linter.unusedVariables false
set_option linter.unusedSimpArgs false
open Go.RowKit Pl
set_option maxRecDepth 100000
set_option maxHeartbeats 3200000
theorem root_pf (l : List It) (hl : l.length ≤ 1048576) : PF Tryz.prog 54 [slT It.dv 64 (l)] (.ag (hdv (rootH l))) := by
 have c1 : PC Tryz.prog 90 [slT It.dv 64 (l), slT It.dv 64 ([])] (slT It.dv 64 (setR l [])) := setA_eq l [] ▸ set_pc l [] (by simpa using hl)
 have c2 := below_pf 256 0 (setR l []) (okT_str (setR_str l [])) (by have := setR_len l []; simp at this; omega) (by omega)
 rw [rootH_def] at c2
 refine PF.enter (fn := Tryz.f54) Tryz.func54 rfl Tryz.ntmps54 rfl (fun w0 => .w ?_)
 refine .t 2 1 rfl rfl (.cc (.nil2 c1) rfl) ?_
 refine .t 0 2 rfl rfl (.cf (c2) rfl) ?_
 exact .z 1 2 rfl (TE.retf rfl rfl rfl (pl_ag (pl_h _)))
theorem rroot_all (l : List It) (hl : l.length ≤ 1048576) : PF Tryz.prog 22 [slT It.dv 64 (l)] (.ag (hdv (rootH l))) := by
 have c1 := (rset_po l [] (by simpa using hl)).pf
 have c2 := rroot_pf 256 0 (setR l []) (okT_str (setR_str l [])) (by have := setR_len l []; simp at this; omega) (by omega)
 rw [rootH_def] at c2
 refine PF.enter (fn := Tryz.f22) Tryz.func22 rfl Tryz.ntmps22 rfl (fun w0 => .w ?_)
 refine .t 2 1 rfl rfl (.cf (.nil2 c1) rfl) ?_
 refine .t 0 2 rfl rfl (.cf (c2) rfl) ?_
 exact .z 1 2 rfl (TE.retf rfl rfl rfl (pl_ag (pl_h _)))
end Go.Proofs.YtmjokdhhniblgaaGreat

