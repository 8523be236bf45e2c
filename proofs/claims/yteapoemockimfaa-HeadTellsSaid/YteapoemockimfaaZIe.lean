/-
  What an entry may be; the library's helpers.
-/
import Derived.Test.YteapoemockimfaaZId
import Derived.Test.YteapoemockimfaaZEv
namespace Go.Proofs.Yteapoemockimfaa
set_option linter.unusedVariables false
set_option linter.unusedSimpArgs false
open Go.RowKit Pl
set_option maxRecDepth 100000
set_option maxHeartbeats 3200000
theorem emay_pf (e : En) : PF Try.prog 82 [.ag e.dv] (.v (.bool (rightE e.nm e.ver e.key))) := by
 refine PF.enter (fn := Try.f82) Try.func82 rfl Try.ntmps82 rfl (fun w0 => .w ?_)
 by_cases m0 : 1 ≤ e.nm.length
 ·skip
  by_cases m1 : e.nm.length ≤ 32
  ·skip
   by_cases m2 : 1 ≤ e.ver
   ·skip
    by_cases m3 : e.ver ≤ 1073741824
    ·skip
     by_cases m4 : 1 ≤ e.key
     ·skip
      by_cases m5 : e.key < 2305843009213693951
      ·skip
       have hR : rightE e.nm e.ver e.key = true := by unfold rightE; rw [decide_eq_true m0, decide_eq_true m1, decide_eq_true m2, decide_eq_true m3, decide_eq_true m4, decide_eq_true m5]; rfl
       refine .t 5 1 rfl rfl (.bv (.bool true) rfl (congrArg Value.bool (decide_eq_true (by omega)))) ?_
       refine .t 4 2 rfl rfl (.bv (.bool true) rfl (congrArg Value.bool (decide_eq_true (by omega)))) ?_
       refine .t 4 2 rfl rfl (.bv (.bool true) rfl (congrArg Value.bool (decide_eq_true (by omega)))) ?_
       refine .t 4 2 rfl rfl (.bv (.bool true) rfl (congrArg Value.bool (decide_eq_true (by omega)))) ?_
       refine .t 4 2 rfl rfl (.bv (.bool true) rfl (congrArg Value.bool (decide_eq_true (by omega)))) ?_
       refine .t 4 2 rfl rfl (.bv (.bool true) rfl (congrArg Value.bool (decide_eq_true (by omega)))) ?_
       rw [hR]
       exact .z 2 2 rfl (TE.retf rfl rfl rfl trivial)
      ·skip
       have hR : rightE e.nm e.ver e.key = false := by unfold rightE; rw [decide_eq_false m5]; simp
       refine .t 5 1 rfl rfl (.bv (.bool true) rfl (congrArg Value.bool (decide_eq_true (by omega)))) ?_
       refine .t 4 2 rfl rfl (.bv (.bool true) rfl (congrArg Value.bool (decide_eq_true (by omega)))) ?_
       refine .t 4 2 rfl rfl (.bv (.bool true) rfl (congrArg Value.bool (decide_eq_true (by omega)))) ?_
       refine .t 4 2 rfl rfl (.bv (.bool true) rfl (congrArg Value.bool (decide_eq_true (by omega)))) ?_
       refine .t 4 2 rfl rfl (.bv (.bool true) rfl (congrArg Value.bool (decide_eq_true (by omega)))) ?_
       refine .t 4 2 rfl rfl (.bv (.bool false) rfl (congrArg Value.bool (decide_eq_false (by omega)))) ?_
       rw [hR]
       exact .z 2 2 rfl (TE.retf rfl rfl rfl trivial)
     ·skip
      have hR : rightE e.nm e.ver e.key = false := by unfold rightE; rw [decide_eq_false m4]; simp
      refine .t 5 1 rfl rfl (.bv (.bool true) rfl (congrArg Value.bool (decide_eq_true (by omega)))) ?_
      refine .t 4 2 rfl rfl (.bv (.bool true) rfl (congrArg Value.bool (decide_eq_true (by omega)))) ?_
      refine .t 4 2 rfl rfl (.bv (.bool true) rfl (congrArg Value.bool (decide_eq_true (by omega)))) ?_
      refine .t 4 2 rfl rfl (.bv (.bool true) rfl (congrArg Value.bool (decide_eq_true (by omega)))) ?_
      refine .t 4 2 rfl rfl (.bv (.bool false) rfl (congrArg Value.bool (decide_eq_false (by omega)))) ?_
      rw [hR]
      exact .z 7 2 rfl (TE.retf rfl rfl rfl trivial)
    ·skip
     have hR : rightE e.nm e.ver e.key = false := by unfold rightE; rw [decide_eq_false m3]; simp
     refine .t 5 1 rfl rfl (.bv (.bool true) rfl (congrArg Value.bool (decide_eq_true (by omega)))) ?_
     refine .t 4 2 rfl rfl (.bv (.bool true) rfl (congrArg Value.bool (decide_eq_true (by omega)))) ?_
     refine .t 4 2 rfl rfl (.bv (.bool true) rfl (congrArg Value.bool (decide_eq_true (by omega)))) ?_
     refine .t 4 2 rfl rfl (.bv (.bool false) rfl (congrArg Value.bool (decide_eq_false (by omega)))) ?_
     rw [hR]
     exact .z 12 2 rfl (TE.retf rfl rfl rfl trivial)
   ·skip
    have hR : rightE e.nm e.ver e.key = false := by unfold rightE; rw [decide_eq_false m2]; simp
    refine .t 5 1 rfl rfl (.bv (.bool true) rfl (congrArg Value.bool (decide_eq_true (by omega)))) ?_
    refine .t 4 2 rfl rfl (.bv (.bool true) rfl (congrArg Value.bool (decide_eq_true (by omega)))) ?_
    refine .t 4 2 rfl rfl (.bv (.bool false) rfl (congrArg Value.bool (decide_eq_false (by omega)))) ?_
    rw [hR]
    exact .z 17 2 rfl (TE.retf rfl rfl rfl trivial)
  ·skip
   have hR : rightE e.nm e.ver e.key = false := by unfold rightE; rw [decide_eq_false m1]; simp
   refine .t 5 1 rfl rfl (.bv (.bool true) rfl (congrArg Value.bool (decide_eq_true (by omega)))) ?_
   refine .t 4 2 rfl rfl (.bv (.bool false) rfl (congrArg Value.bool (decide_eq_false (by omega)))) ?_
   rw [hR]
   exact .z 22 2 rfl (TE.retf rfl rfl rfl trivial)
 ·skip
  have hR : rightE e.nm e.ver e.key = false := by unfold rightE; rw [decide_eq_false m0]; simp
  refine .t 5 1 rfl rfl (.bv (.bool false) rfl (congrArg Value.bool (decide_eq_false (by omega)))) ?_
  rw [hR]
  exact .z 27 2 rfl (TE.retf rfl rfl rfl trivial)
end Go.Proofs.Yteapoemockimfaa

