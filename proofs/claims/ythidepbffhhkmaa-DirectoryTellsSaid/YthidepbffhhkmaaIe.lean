/-
  What an entry may be; the library's helpers.
-/
import Derived.Test.YthidepbffhhkmaaId
namespace Go.Proofs.Ythidepbffhhkmaa
set_option linter.unusedVariables false
set_option linter.unusedSimpArgs false
open Go.RowKit Pl

theorem cf31 : cfn Try.prog 31 = true := by kernel_rfl
theorem cf48 : cfn Try.prog 48 = true := by kernel_rfl
theorem cf49 : cfn Try.prog 49 = true := by kernel_rfl
theorem cf62 : cfn Try.prog 62 = true := by kernel_rfl
theorem cf63 : cfn Try.prog 63 = true := by kernel_rfl
theorem fo32_1 : fo Try.prog 32 1 = some 3 := by kernel_rfl
theorem fo82_0 : fo Try.prog 82 0 = some 0 := by kernel_rfl
theorem fo82_1 : fo Try.prog 82 1 = some 1 := by kernel_rfl
theorem fo82_2 : fo Try.prog 82 2 = some 2 := by kernel_rfl
theorem fo82_3 : fo Try.prog 82 3 = some 3 := by kernel_rfl
theorem is9 : isSl Try.prog 9 = some false := by kernel_rfl
theorem sp82 : stp Try.prog 82 = some ([.string ⟨#[]⟩, .int .i64 0, .int .u64 0, .int .i64 0, .int .u64 0, .int .u64 0], [(0, 1), (1, 1), (2, 1), (3, 1), (4, 2)]) := by kernel_rfl
theorem sz30 : szt Try.prog 30 = some 3 := by kernel_rfl
theorem tk82 : tyk Try.prog 82 = some (some 6) := by kernel_rfl
theorem zc30 : zc Try.prog 30 = some [.string ⟨#[]⟩, .int .i64 0, .int .u64 0] := by kernel_rfl

set_option maxRecDepth 100000 in
set_option maxHeartbeats 1600000 in
theorem umay_pf (e : En) : PF Try.prog 62 [.ag e.dv] (.v (.bool (rightE e.nm e.ver e.key))) := by
  refine PF.enter (fn := Try.f62) Try.func62 rfl Try.ntmps62 rfl (fun w0 => ?_)
  refine .seq ?_
  refine .region ?_
  refine .step rfl (.box 1 rfl rfl rfl rfl) ?_
  refine .step rfl (.assign rfl rfl) ?_
  refine .nil ?_
  refine .next ?_
  refine .seq ?_
  by_cases m0 : 1 ≤ e.nm.length
  ·skip
   by_cases m1 : e.nm.length ≤ 32
   ·skip
    by_cases m2 : 1 ≤ e.ver
    ·skip
     by_cases m3 : e.ver ≤ 1073741824
     ·skip
      by_cases m4 : 1 ≤ e.key
      ·skip
       by_cases m5 : e.key < 2305843009213693951
       ·skip
        have hR : rightE e.nm e.ver e.key = true := by unfold rightE; rw [decide_eq_true m0, decide_eq_true m1, decide_eq_true m2, decide_eq_true m3, decide_eq_true m4, decide_eq_true m5]; rfl
        refine .region ?_
        refine .step rfl (.fieldp rfl rfl rfl rfl fo30_0) ?_
        refine .step rfl (.ldp rfl rfl rfl rfl rfl tk9) ?_
        refine .step rfl (.lens rfl rfl is9) ?_
        refine .step rfl (.binv (.bool true) rfl rfl rfl rfl (congrArg Value.bool (decide_eq_true (by omega)))) ?_
        refine .step rfl (.move rfl rfl) ?_
        refine .go 7 rfl rfl rfl rfl (.fieldp rfl rfl rfl rfl fo30_0) ?_
        refine .go 7 rfl rfl rfl rfl (.ldp rfl rfl rfl rfl rfl tk9) ?_
        refine .go 7 rfl rfl rfl rfl (.lens rfl rfl is9) ?_
        refine .go 7 rfl rfl rfl rfl (.binv (.bool true) rfl rfl rfl rfl (congrArg Value.bool (decide_eq_true (by omega)))) ?_
        refine .step rfl (.pick rfl rfl rfl) ?_
        refine .step rfl (.move rfl rfl) ?_
        refine .go 13 rfl rfl rfl rfl (.fieldp rfl rfl rfl rfl fo30_1) ?_
        refine .go 13 rfl rfl rfl rfl (.ldp rfl rfl rfl rfl rfl tk3) ?_
        refine .go 13 rfl rfl rfl rfl (.binv (.bool true) rfl rfl rfl rfl (congrArg Value.bool (decide_eq_true (by omega)))) ?_
        refine .step rfl (.pick rfl rfl rfl) ?_
        refine .step rfl (.move rfl rfl) ?_
        refine .go 18 rfl rfl rfl rfl (.fieldp rfl rfl rfl rfl fo30_1) ?_
        refine .go 18 rfl rfl rfl rfl (.ldp rfl rfl rfl rfl rfl tk3) ?_
        refine .go 18 rfl rfl rfl rfl (.binv (.bool true) rfl rfl rfl rfl (congrArg Value.bool (decide_eq_true (by omega)))) ?_
        refine .step rfl (.pick rfl rfl rfl) ?_
        refine .step rfl (.move rfl rfl) ?_
        refine .go 23 rfl rfl rfl rfl (.fieldp rfl rfl rfl rfl fo30_2) ?_
        refine .go 23 rfl rfl rfl rfl (.ldp rfl rfl rfl rfl rfl tk28) ?_
        refine .go 23 rfl rfl rfl rfl (.binv (.bool true) rfl rfl rfl rfl (congrArg Value.bool (decide_eq_true (by omega)))) ?_
        refine .step rfl (.pick rfl rfl rfl) ?_
        refine .step rfl (.move rfl rfl) ?_
        refine .go 28 rfl rfl rfl rfl (.fieldp rfl rfl rfl rfl fo30_2) ?_
        refine .go 28 rfl rfl rfl rfl (.ldp rfl rfl rfl rfl rfl tk28) ?_
        refine .go 28 rfl rfl rfl rfl (.binv (.bool true) rfl rfl rfl rfl (congrArg Value.bool (decide_eq_true (by omega)))) ?_
        refine .step rfl (.pick rfl rfl rfl) ?_
        refine .step rfl (.assign rfl rfl) ?_
        refine .nil ?_
        refine .next ?_
        refine .ret ?_
        rw [hR]
        exact TE.retf rfl rfl rfl trivial
       ·skip
        have hR : rightE e.nm e.ver e.key = false := by unfold rightE; rw [decide_eq_false m5]; simp
        refine .region ?_
        refine .step rfl (.fieldp rfl rfl rfl rfl fo30_0) ?_
        refine .step rfl (.ldp rfl rfl rfl rfl rfl tk9) ?_
        refine .step rfl (.lens rfl rfl is9) ?_
        refine .step rfl (.binv (.bool true) rfl rfl rfl rfl (congrArg Value.bool (decide_eq_true (by omega)))) ?_
        refine .step rfl (.move rfl rfl) ?_
        refine .go 7 rfl rfl rfl rfl (.fieldp rfl rfl rfl rfl fo30_0) ?_
        refine .go 7 rfl rfl rfl rfl (.ldp rfl rfl rfl rfl rfl tk9) ?_
        refine .go 7 rfl rfl rfl rfl (.lens rfl rfl is9) ?_
        refine .go 7 rfl rfl rfl rfl (.binv (.bool true) rfl rfl rfl rfl (congrArg Value.bool (decide_eq_true (by omega)))) ?_
        refine .step rfl (.pick rfl rfl rfl) ?_
        refine .step rfl (.move rfl rfl) ?_
        refine .go 13 rfl rfl rfl rfl (.fieldp rfl rfl rfl rfl fo30_1) ?_
        refine .go 13 rfl rfl rfl rfl (.ldp rfl rfl rfl rfl rfl tk3) ?_
        refine .go 13 rfl rfl rfl rfl (.binv (.bool true) rfl rfl rfl rfl (congrArg Value.bool (decide_eq_true (by omega)))) ?_
        refine .step rfl (.pick rfl rfl rfl) ?_
        refine .step rfl (.move rfl rfl) ?_
        refine .go 18 rfl rfl rfl rfl (.fieldp rfl rfl rfl rfl fo30_1) ?_
        refine .go 18 rfl rfl rfl rfl (.ldp rfl rfl rfl rfl rfl tk3) ?_
        refine .go 18 rfl rfl rfl rfl (.binv (.bool true) rfl rfl rfl rfl (congrArg Value.bool (decide_eq_true (by omega)))) ?_
        refine .step rfl (.pick rfl rfl rfl) ?_
        refine .step rfl (.move rfl rfl) ?_
        refine .go 23 rfl rfl rfl rfl (.fieldp rfl rfl rfl rfl fo30_2) ?_
        refine .go 23 rfl rfl rfl rfl (.ldp rfl rfl rfl rfl rfl tk28) ?_
        refine .go 23 rfl rfl rfl rfl (.binv (.bool true) rfl rfl rfl rfl (congrArg Value.bool (decide_eq_true (by omega)))) ?_
        refine .step rfl (.pick rfl rfl rfl) ?_
        refine .step rfl (.move rfl rfl) ?_
        refine .go 28 rfl rfl rfl rfl (.fieldp rfl rfl rfl rfl fo30_2) ?_
        refine .go 28 rfl rfl rfl rfl (.ldp rfl rfl rfl rfl rfl tk28) ?_
        refine .go 28 rfl rfl rfl rfl (.binv (.bool false) rfl rfl rfl rfl (congrArg Value.bool (decide_eq_false (by omega)))) ?_
        refine .step rfl (.pick rfl rfl rfl) ?_
        refine .step rfl (.assign rfl rfl) ?_
        refine .nil ?_
        refine .next ?_
        refine .ret ?_
        rw [hR]
        exact TE.retf rfl rfl rfl trivial
      ·skip
       have hR : rightE e.nm e.ver e.key = false := by unfold rightE; rw [decide_eq_false m4]; simp
       refine .region ?_
       refine .step rfl (.fieldp rfl rfl rfl rfl fo30_0) ?_
       refine .step rfl (.ldp rfl rfl rfl rfl rfl tk9) ?_
       refine .step rfl (.lens rfl rfl is9) ?_
       refine .step rfl (.binv (.bool true) rfl rfl rfl rfl (congrArg Value.bool (decide_eq_true (by omega)))) ?_
       refine .step rfl (.move rfl rfl) ?_
       refine .go 7 rfl rfl rfl rfl (.fieldp rfl rfl rfl rfl fo30_0) ?_
       refine .go 7 rfl rfl rfl rfl (.ldp rfl rfl rfl rfl rfl tk9) ?_
       refine .go 7 rfl rfl rfl rfl (.lens rfl rfl is9) ?_
       refine .go 7 rfl rfl rfl rfl (.binv (.bool true) rfl rfl rfl rfl (congrArg Value.bool (decide_eq_true (by omega)))) ?_
       refine .step rfl (.pick rfl rfl rfl) ?_
       refine .step rfl (.move rfl rfl) ?_
       refine .go 13 rfl rfl rfl rfl (.fieldp rfl rfl rfl rfl fo30_1) ?_
       refine .go 13 rfl rfl rfl rfl (.ldp rfl rfl rfl rfl rfl tk3) ?_
       refine .go 13 rfl rfl rfl rfl (.binv (.bool true) rfl rfl rfl rfl (congrArg Value.bool (decide_eq_true (by omega)))) ?_
       refine .step rfl (.pick rfl rfl rfl) ?_
       refine .step rfl (.move rfl rfl) ?_
       refine .go 18 rfl rfl rfl rfl (.fieldp rfl rfl rfl rfl fo30_1) ?_
       refine .go 18 rfl rfl rfl rfl (.ldp rfl rfl rfl rfl rfl tk3) ?_
       refine .go 18 rfl rfl rfl rfl (.binv (.bool true) rfl rfl rfl rfl (congrArg Value.bool (decide_eq_true (by omega)))) ?_
       refine .step rfl (.pick rfl rfl rfl) ?_
       refine .step rfl (.move rfl rfl) ?_
       refine .go 23 rfl rfl rfl rfl (.fieldp rfl rfl rfl rfl fo30_2) ?_
       refine .go 23 rfl rfl rfl rfl (.ldp rfl rfl rfl rfl rfl tk28) ?_
       refine .go 23 rfl rfl rfl rfl (.binv (.bool false) rfl rfl rfl rfl (congrArg Value.bool (decide_eq_false (by omega)))) ?_
       refine .step rfl (.pick rfl rfl rfl) ?_
       refine .step rfl (.move rfl rfl) ?_
       refine .no 28 rfl rfl rfl rfl rfl rfl rfl ?_
       refine .no 28 rfl rfl rfl rfl rfl rfl rfl ?_
       refine .no 28 rfl rfl rfl rfl rfl rfl rfl ?_
       refine .step rfl (.pick rfl rfl rfl) ?_
       refine .step rfl (.assign rfl rfl) ?_
       refine .nil ?_
       refine .next ?_
       refine .ret ?_
       rw [hR]
       exact TE.retf rfl rfl rfl trivial
     ·skip
      have hR : rightE e.nm e.ver e.key = false := by unfold rightE; rw [decide_eq_false m3]; simp
      refine .region ?_
      refine .step rfl (.fieldp rfl rfl rfl rfl fo30_0) ?_
      refine .step rfl (.ldp rfl rfl rfl rfl rfl tk9) ?_
      refine .step rfl (.lens rfl rfl is9) ?_
      refine .step rfl (.binv (.bool true) rfl rfl rfl rfl (congrArg Value.bool (decide_eq_true (by omega)))) ?_
      refine .step rfl (.move rfl rfl) ?_
      refine .go 7 rfl rfl rfl rfl (.fieldp rfl rfl rfl rfl fo30_0) ?_
      refine .go 7 rfl rfl rfl rfl (.ldp rfl rfl rfl rfl rfl tk9) ?_
      refine .go 7 rfl rfl rfl rfl (.lens rfl rfl is9) ?_
      refine .go 7 rfl rfl rfl rfl (.binv (.bool true) rfl rfl rfl rfl (congrArg Value.bool (decide_eq_true (by omega)))) ?_
      refine .step rfl (.pick rfl rfl rfl) ?_
      refine .step rfl (.move rfl rfl) ?_
      refine .go 13 rfl rfl rfl rfl (.fieldp rfl rfl rfl rfl fo30_1) ?_
      refine .go 13 rfl rfl rfl rfl (.ldp rfl rfl rfl rfl rfl tk3) ?_
      refine .go 13 rfl rfl rfl rfl (.binv (.bool true) rfl rfl rfl rfl (congrArg Value.bool (decide_eq_true (by omega)))) ?_
      refine .step rfl (.pick rfl rfl rfl) ?_
      refine .step rfl (.move rfl rfl) ?_
      refine .go 18 rfl rfl rfl rfl (.fieldp rfl rfl rfl rfl fo30_1) ?_
      refine .go 18 rfl rfl rfl rfl (.ldp rfl rfl rfl rfl rfl tk3) ?_
      refine .go 18 rfl rfl rfl rfl (.binv (.bool false) rfl rfl rfl rfl (congrArg Value.bool (decide_eq_false (by omega)))) ?_
      refine .step rfl (.pick rfl rfl rfl) ?_
      refine .step rfl (.move rfl rfl) ?_
      refine .no 23 rfl rfl rfl rfl rfl rfl rfl ?_
      refine .no 23 rfl rfl rfl rfl rfl rfl rfl ?_
      refine .no 23 rfl rfl rfl rfl rfl rfl rfl ?_
      refine .step rfl (.pick rfl rfl rfl) ?_
      refine .step rfl (.move rfl rfl) ?_
      refine .no 28 rfl rfl rfl rfl rfl rfl rfl ?_
      refine .no 28 rfl rfl rfl rfl rfl rfl rfl ?_
      refine .no 28 rfl rfl rfl rfl rfl rfl rfl ?_
      refine .step rfl (.pick rfl rfl rfl) ?_
      refine .step rfl (.assign rfl rfl) ?_
      refine .nil ?_
      refine .next ?_
      refine .ret ?_
      rw [hR]
      exact TE.retf rfl rfl rfl trivial
    ·skip
     have hR : rightE e.nm e.ver e.key = false := by unfold rightE; rw [decide_eq_false m2]; simp
     refine .region ?_
     refine .step rfl (.fieldp rfl rfl rfl rfl fo30_0) ?_
     refine .step rfl (.ldp rfl rfl rfl rfl rfl tk9) ?_
     refine .step rfl (.lens rfl rfl is9) ?_
     refine .step rfl (.binv (.bool true) rfl rfl rfl rfl (congrArg Value.bool (decide_eq_true (by omega)))) ?_
     refine .step rfl (.move rfl rfl) ?_
     refine .go 7 rfl rfl rfl rfl (.fieldp rfl rfl rfl rfl fo30_0) ?_
     refine .go 7 rfl rfl rfl rfl (.ldp rfl rfl rfl rfl rfl tk9) ?_
     refine .go 7 rfl rfl rfl rfl (.lens rfl rfl is9) ?_
     refine .go 7 rfl rfl rfl rfl (.binv (.bool true) rfl rfl rfl rfl (congrArg Value.bool (decide_eq_true (by omega)))) ?_
     refine .step rfl (.pick rfl rfl rfl) ?_
     refine .step rfl (.move rfl rfl) ?_
     refine .go 13 rfl rfl rfl rfl (.fieldp rfl rfl rfl rfl fo30_1) ?_
     refine .go 13 rfl rfl rfl rfl (.ldp rfl rfl rfl rfl rfl tk3) ?_
     refine .go 13 rfl rfl rfl rfl (.binv (.bool false) rfl rfl rfl rfl (congrArg Value.bool (decide_eq_false (by omega)))) ?_
     refine .step rfl (.pick rfl rfl rfl) ?_
     refine .step rfl (.move rfl rfl) ?_
     refine .no 18 rfl rfl rfl rfl rfl rfl rfl ?_
     refine .no 18 rfl rfl rfl rfl rfl rfl rfl ?_
     refine .no 18 rfl rfl rfl rfl rfl rfl rfl ?_
     refine .step rfl (.pick rfl rfl rfl) ?_
     refine .step rfl (.move rfl rfl) ?_
     refine .no 23 rfl rfl rfl rfl rfl rfl rfl ?_
     refine .no 23 rfl rfl rfl rfl rfl rfl rfl ?_
     refine .no 23 rfl rfl rfl rfl rfl rfl rfl ?_
     refine .step rfl (.pick rfl rfl rfl) ?_
     refine .step rfl (.move rfl rfl) ?_
     refine .no 28 rfl rfl rfl rfl rfl rfl rfl ?_
     refine .no 28 rfl rfl rfl rfl rfl rfl rfl ?_
     refine .no 28 rfl rfl rfl rfl rfl rfl rfl ?_
     refine .step rfl (.pick rfl rfl rfl) ?_
     refine .step rfl (.assign rfl rfl) ?_
     refine .nil ?_
     refine .next ?_
     refine .ret ?_
     rw [hR]
     exact TE.retf rfl rfl rfl trivial
   ·skip
    have hR : rightE e.nm e.ver e.key = false := by unfold rightE; rw [decide_eq_false m1]; simp
    refine .region ?_
    refine .step rfl (.fieldp rfl rfl rfl rfl fo30_0) ?_
    refine .step rfl (.ldp rfl rfl rfl rfl rfl tk9) ?_
    refine .step rfl (.lens rfl rfl is9) ?_
    refine .step rfl (.binv (.bool true) rfl rfl rfl rfl (congrArg Value.bool (decide_eq_true (by omega)))) ?_
    refine .step rfl (.move rfl rfl) ?_
    refine .go 7 rfl rfl rfl rfl (.fieldp rfl rfl rfl rfl fo30_0) ?_
    refine .go 7 rfl rfl rfl rfl (.ldp rfl rfl rfl rfl rfl tk9) ?_
    refine .go 7 rfl rfl rfl rfl (.lens rfl rfl is9) ?_
    refine .go 7 rfl rfl rfl rfl (.binv (.bool false) rfl rfl rfl rfl (congrArg Value.bool (decide_eq_false (by omega)))) ?_
    refine .step rfl (.pick rfl rfl rfl) ?_
    refine .step rfl (.move rfl rfl) ?_
    refine .no 13 rfl rfl rfl rfl rfl rfl rfl ?_
    refine .no 13 rfl rfl rfl rfl rfl rfl rfl ?_
    refine .no 13 rfl rfl rfl rfl rfl rfl rfl ?_
    refine .step rfl (.pick rfl rfl rfl) ?_
    refine .step rfl (.move rfl rfl) ?_
    refine .no 18 rfl rfl rfl rfl rfl rfl rfl ?_
    refine .no 18 rfl rfl rfl rfl rfl rfl rfl ?_
    refine .no 18 rfl rfl rfl rfl rfl rfl rfl ?_
    refine .step rfl (.pick rfl rfl rfl) ?_
    refine .step rfl (.move rfl rfl) ?_
    refine .no 23 rfl rfl rfl rfl rfl rfl rfl ?_
    refine .no 23 rfl rfl rfl rfl rfl rfl rfl ?_
    refine .no 23 rfl rfl rfl rfl rfl rfl rfl ?_
    refine .step rfl (.pick rfl rfl rfl) ?_
    refine .step rfl (.move rfl rfl) ?_
    refine .no 28 rfl rfl rfl rfl rfl rfl rfl ?_
    refine .no 28 rfl rfl rfl rfl rfl rfl rfl ?_
    refine .no 28 rfl rfl rfl rfl rfl rfl rfl ?_
    refine .step rfl (.pick rfl rfl rfl) ?_
    refine .step rfl (.assign rfl rfl) ?_
    refine .nil ?_
    refine .next ?_
    refine .ret ?_
    rw [hR]
    exact TE.retf rfl rfl rfl trivial
  ·skip
   have hR : rightE e.nm e.ver e.key = false := by unfold rightE; rw [decide_eq_false m0]; simp
   refine .region ?_
   refine .step rfl (.fieldp rfl rfl rfl rfl fo30_0) ?_
   refine .step rfl (.ldp rfl rfl rfl rfl rfl tk9) ?_
   refine .step rfl (.lens rfl rfl is9) ?_
   refine .step rfl (.binv (.bool false) rfl rfl rfl rfl (congrArg Value.bool (decide_eq_false (by omega)))) ?_
   refine .step rfl (.move rfl rfl) ?_
   refine .no 7 rfl rfl rfl rfl rfl rfl rfl ?_
   refine .no 7 rfl rfl rfl rfl rfl rfl rfl ?_
   refine .no 7 rfl rfl rfl rfl rfl rfl rfl ?_
   refine .no 7 rfl rfl rfl rfl rfl rfl rfl ?_
   refine .step rfl (.pick rfl rfl rfl) ?_
   refine .step rfl (.move rfl rfl) ?_
   refine .no 13 rfl rfl rfl rfl rfl rfl rfl ?_
   refine .no 13 rfl rfl rfl rfl rfl rfl rfl ?_
   refine .no 13 rfl rfl rfl rfl rfl rfl rfl ?_
   refine .step rfl (.pick rfl rfl rfl) ?_
   refine .step rfl (.move rfl rfl) ?_
   refine .no 18 rfl rfl rfl rfl rfl rfl rfl ?_
   refine .no 18 rfl rfl rfl rfl rfl rfl rfl ?_
   refine .no 18 rfl rfl rfl rfl rfl rfl rfl ?_
   refine .step rfl (.pick rfl rfl rfl) ?_
   refine .step rfl (.move rfl rfl) ?_
   refine .no 23 rfl rfl rfl rfl rfl rfl rfl ?_
   refine .no 23 rfl rfl rfl rfl rfl rfl rfl ?_
   refine .no 23 rfl rfl rfl rfl rfl rfl rfl ?_
   refine .step rfl (.pick rfl rfl rfl) ?_
   refine .step rfl (.move rfl rfl) ?_
   refine .no 28 rfl rfl rfl rfl rfl rfl rfl ?_
   refine .no 28 rfl rfl rfl rfl rfl rfl rfl ?_
   refine .no 28 rfl rfl rfl rfl rfl rfl rfl ?_
   refine .step rfl (.pick rfl rfl rfl) ?_
   refine .step rfl (.assign rfl rfl) ?_
   refine .nil ?_
   refine .next ?_
   refine .ret ?_
   rw [hR]
   exact TE.retf rfl rfl rfl trivial

set_option maxRecDepth 100000 in
set_option maxHeartbeats 1600000 in
theorem emay_pf (e : En) : PF Try.prog 35 [.ag e.dv] (.v (.bool (rightE e.nm e.ver e.key))) := by
  refine PF.enter (fn := Try.f35) Try.func35 rfl Try.ntmps35 rfl (fun w0 => ?_)
  refine .seq ?_
  refine .region ?_
  refine .step rfl (.box 1 rfl rfl rfl rfl) ?_
  refine .step rfl (.assign rfl rfl) ?_
  refine .nil ?_
  refine .next ?_
  refine .seq ?_
  by_cases m0 : 1 ≤ e.nm.length
  ·skip
   by_cases m1 : e.nm.length ≤ 32
   ·skip
    by_cases m2 : 1 ≤ e.ver
    ·skip
     by_cases m3 : e.ver ≤ 1073741824
     ·skip
      by_cases m4 : 1 ≤ e.key
      ·skip
       by_cases m5 : e.key < 2305843009213693951
       ·skip
        have hR : rightE e.nm e.ver e.key = true := by unfold rightE; rw [decide_eq_true m0, decide_eq_true m1, decide_eq_true m2, decide_eq_true m3, decide_eq_true m4, decide_eq_true m5]; rfl
        refine .region ?_
        refine .step rfl (.fieldp rfl rfl rfl rfl fo30_0) ?_
        refine .step rfl (.ldp rfl rfl rfl rfl rfl tk9) ?_
        refine .step rfl (.lens rfl rfl is9) ?_
        refine .step rfl (.binv (.bool true) rfl rfl rfl rfl (congrArg Value.bool (decide_eq_true (by omega)))) ?_
        refine .step rfl (.move rfl rfl) ?_
        refine .go 7 rfl rfl rfl rfl (.fieldp rfl rfl rfl rfl fo30_0) ?_
        refine .go 7 rfl rfl rfl rfl (.ldp rfl rfl rfl rfl rfl tk9) ?_
        refine .go 7 rfl rfl rfl rfl (.lens rfl rfl is9) ?_
        refine .go 7 rfl rfl rfl rfl (.binv (.bool true) rfl rfl rfl rfl (congrArg Value.bool (decide_eq_true (by omega)))) ?_
        refine .step rfl (.pick rfl rfl rfl) ?_
        refine .step rfl (.move rfl rfl) ?_
        refine .go 13 rfl rfl rfl rfl (.fieldp rfl rfl rfl rfl fo30_1) ?_
        refine .go 13 rfl rfl rfl rfl (.ldp rfl rfl rfl rfl rfl tk3) ?_
        refine .go 13 rfl rfl rfl rfl (.binv (.bool true) rfl rfl rfl rfl (congrArg Value.bool (decide_eq_true (by omega)))) ?_
        refine .step rfl (.pick rfl rfl rfl) ?_
        refine .step rfl (.move rfl rfl) ?_
        refine .go 18 rfl rfl rfl rfl (.fieldp rfl rfl rfl rfl fo30_1) ?_
        refine .go 18 rfl rfl rfl rfl (.ldp rfl rfl rfl rfl rfl tk3) ?_
        refine .go 18 rfl rfl rfl rfl (.binv (.bool true) rfl rfl rfl rfl (congrArg Value.bool (decide_eq_true (by omega)))) ?_
        refine .step rfl (.pick rfl rfl rfl) ?_
        refine .step rfl (.move rfl rfl) ?_
        refine .go 23 rfl rfl rfl rfl (.fieldp rfl rfl rfl rfl fo30_2) ?_
        refine .go 23 rfl rfl rfl rfl (.ldp rfl rfl rfl rfl rfl tk28) ?_
        refine .go 23 rfl rfl rfl rfl (.binv (.bool true) rfl rfl rfl rfl (congrArg Value.bool (decide_eq_true (by omega)))) ?_
        refine .step rfl (.pick rfl rfl rfl) ?_
        refine .step rfl (.move rfl rfl) ?_
        refine .go 28 rfl rfl rfl rfl (.fieldp rfl rfl rfl rfl fo30_2) ?_
        refine .go 28 rfl rfl rfl rfl (.ldp rfl rfl rfl rfl rfl tk28) ?_
        refine .go 28 rfl rfl rfl rfl (.binv (.bool true) rfl rfl rfl rfl (congrArg Value.bool (decide_eq_true (by omega)))) ?_
        refine .step rfl (.pick rfl rfl rfl) ?_
        refine .step rfl (.assign rfl rfl) ?_
        refine .nil ?_
        refine .next ?_
        refine .ret ?_
        rw [hR]
        exact TE.retf rfl rfl rfl trivial
       ·skip
        have hR : rightE e.nm e.ver e.key = false := by unfold rightE; rw [decide_eq_false m5]; simp
        refine .region ?_
        refine .step rfl (.fieldp rfl rfl rfl rfl fo30_0) ?_
        refine .step rfl (.ldp rfl rfl rfl rfl rfl tk9) ?_
        refine .step rfl (.lens rfl rfl is9) ?_
        refine .step rfl (.binv (.bool true) rfl rfl rfl rfl (congrArg Value.bool (decide_eq_true (by omega)))) ?_
        refine .step rfl (.move rfl rfl) ?_
        refine .go 7 rfl rfl rfl rfl (.fieldp rfl rfl rfl rfl fo30_0) ?_
        refine .go 7 rfl rfl rfl rfl (.ldp rfl rfl rfl rfl rfl tk9) ?_
        refine .go 7 rfl rfl rfl rfl (.lens rfl rfl is9) ?_
        refine .go 7 rfl rfl rfl rfl (.binv (.bool true) rfl rfl rfl rfl (congrArg Value.bool (decide_eq_true (by omega)))) ?_
        refine .step rfl (.pick rfl rfl rfl) ?_
        refine .step rfl (.move rfl rfl) ?_
        refine .go 13 rfl rfl rfl rfl (.fieldp rfl rfl rfl rfl fo30_1) ?_
        refine .go 13 rfl rfl rfl rfl (.ldp rfl rfl rfl rfl rfl tk3) ?_
        refine .go 13 rfl rfl rfl rfl (.binv (.bool true) rfl rfl rfl rfl (congrArg Value.bool (decide_eq_true (by omega)))) ?_
        refine .step rfl (.pick rfl rfl rfl) ?_
        refine .step rfl (.move rfl rfl) ?_
        refine .go 18 rfl rfl rfl rfl (.fieldp rfl rfl rfl rfl fo30_1) ?_
        refine .go 18 rfl rfl rfl rfl (.ldp rfl rfl rfl rfl rfl tk3) ?_
        refine .go 18 rfl rfl rfl rfl (.binv (.bool true) rfl rfl rfl rfl (congrArg Value.bool (decide_eq_true (by omega)))) ?_
        refine .step rfl (.pick rfl rfl rfl) ?_
        refine .step rfl (.move rfl rfl) ?_
        refine .go 23 rfl rfl rfl rfl (.fieldp rfl rfl rfl rfl fo30_2) ?_
        refine .go 23 rfl rfl rfl rfl (.ldp rfl rfl rfl rfl rfl tk28) ?_
        refine .go 23 rfl rfl rfl rfl (.binv (.bool true) rfl rfl rfl rfl (congrArg Value.bool (decide_eq_true (by omega)))) ?_
        refine .step rfl (.pick rfl rfl rfl) ?_
        refine .step rfl (.move rfl rfl) ?_
        refine .go 28 rfl rfl rfl rfl (.fieldp rfl rfl rfl rfl fo30_2) ?_
        refine .go 28 rfl rfl rfl rfl (.ldp rfl rfl rfl rfl rfl tk28) ?_
        refine .go 28 rfl rfl rfl rfl (.binv (.bool false) rfl rfl rfl rfl (congrArg Value.bool (decide_eq_false (by omega)))) ?_
        refine .step rfl (.pick rfl rfl rfl) ?_
        refine .step rfl (.assign rfl rfl) ?_
        refine .nil ?_
        refine .next ?_
        refine .ret ?_
        rw [hR]
        exact TE.retf rfl rfl rfl trivial
      ·skip
       have hR : rightE e.nm e.ver e.key = false := by unfold rightE; rw [decide_eq_false m4]; simp
       refine .region ?_
       refine .step rfl (.fieldp rfl rfl rfl rfl fo30_0) ?_
       refine .step rfl (.ldp rfl rfl rfl rfl rfl tk9) ?_
       refine .step rfl (.lens rfl rfl is9) ?_
       refine .step rfl (.binv (.bool true) rfl rfl rfl rfl (congrArg Value.bool (decide_eq_true (by omega)))) ?_
       refine .step rfl (.move rfl rfl) ?_
       refine .go 7 rfl rfl rfl rfl (.fieldp rfl rfl rfl rfl fo30_0) ?_
       refine .go 7 rfl rfl rfl rfl (.ldp rfl rfl rfl rfl rfl tk9) ?_
       refine .go 7 rfl rfl rfl rfl (.lens rfl rfl is9) ?_
       refine .go 7 rfl rfl rfl rfl (.binv (.bool true) rfl rfl rfl rfl (congrArg Value.bool (decide_eq_true (by omega)))) ?_
       refine .step rfl (.pick rfl rfl rfl) ?_
       refine .step rfl (.move rfl rfl) ?_
       refine .go 13 rfl rfl rfl rfl (.fieldp rfl rfl rfl rfl fo30_1) ?_
       refine .go 13 rfl rfl rfl rfl (.ldp rfl rfl rfl rfl rfl tk3) ?_
       refine .go 13 rfl rfl rfl rfl (.binv (.bool true) rfl rfl rfl rfl (congrArg Value.bool (decide_eq_true (by omega)))) ?_
       refine .step rfl (.pick rfl rfl rfl) ?_
       refine .step rfl (.move rfl rfl) ?_
       refine .go 18 rfl rfl rfl rfl (.fieldp rfl rfl rfl rfl fo30_1) ?_
       refine .go 18 rfl rfl rfl rfl (.ldp rfl rfl rfl rfl rfl tk3) ?_
       refine .go 18 rfl rfl rfl rfl (.binv (.bool true) rfl rfl rfl rfl (congrArg Value.bool (decide_eq_true (by omega)))) ?_
       refine .step rfl (.pick rfl rfl rfl) ?_
       refine .step rfl (.move rfl rfl) ?_
       refine .go 23 rfl rfl rfl rfl (.fieldp rfl rfl rfl rfl fo30_2) ?_
       refine .go 23 rfl rfl rfl rfl (.ldp rfl rfl rfl rfl rfl tk28) ?_
       refine .go 23 rfl rfl rfl rfl (.binv (.bool false) rfl rfl rfl rfl (congrArg Value.bool (decide_eq_false (by omega)))) ?_
       refine .step rfl (.pick rfl rfl rfl) ?_
       refine .step rfl (.move rfl rfl) ?_
       refine .no 28 rfl rfl rfl rfl rfl rfl rfl ?_
       refine .no 28 rfl rfl rfl rfl rfl rfl rfl ?_
       refine .no 28 rfl rfl rfl rfl rfl rfl rfl ?_
       refine .step rfl (.pick rfl rfl rfl) ?_
       refine .step rfl (.assign rfl rfl) ?_
       refine .nil ?_
       refine .next ?_
       refine .ret ?_
       rw [hR]
       exact TE.retf rfl rfl rfl trivial
     ·skip
      have hR : rightE e.nm e.ver e.key = false := by unfold rightE; rw [decide_eq_false m3]; simp
      refine .region ?_
      refine .step rfl (.fieldp rfl rfl rfl rfl fo30_0) ?_
      refine .step rfl (.ldp rfl rfl rfl rfl rfl tk9) ?_
      refine .step rfl (.lens rfl rfl is9) ?_
      refine .step rfl (.binv (.bool true) rfl rfl rfl rfl (congrArg Value.bool (decide_eq_true (by omega)))) ?_
      refine .step rfl (.move rfl rfl) ?_
      refine .go 7 rfl rfl rfl rfl (.fieldp rfl rfl rfl rfl fo30_0) ?_
      refine .go 7 rfl rfl rfl rfl (.ldp rfl rfl rfl rfl rfl tk9) ?_
      refine .go 7 rfl rfl rfl rfl (.lens rfl rfl is9) ?_
      refine .go 7 rfl rfl rfl rfl (.binv (.bool true) rfl rfl rfl rfl (congrArg Value.bool (decide_eq_true (by omega)))) ?_
      refine .step rfl (.pick rfl rfl rfl) ?_
      refine .step rfl (.move rfl rfl) ?_
      refine .go 13 rfl rfl rfl rfl (.fieldp rfl rfl rfl rfl fo30_1) ?_
      refine .go 13 rfl rfl rfl rfl (.ldp rfl rfl rfl rfl rfl tk3) ?_
      refine .go 13 rfl rfl rfl rfl (.binv (.bool true) rfl rfl rfl rfl (congrArg Value.bool (decide_eq_true (by omega)))) ?_
      refine .step rfl (.pick rfl rfl rfl) ?_
      refine .step rfl (.move rfl rfl) ?_
      refine .go 18 rfl rfl rfl rfl (.fieldp rfl rfl rfl rfl fo30_1) ?_
      refine .go 18 rfl rfl rfl rfl (.ldp rfl rfl rfl rfl rfl tk3) ?_
      refine .go 18 rfl rfl rfl rfl (.binv (.bool false) rfl rfl rfl rfl (congrArg Value.bool (decide_eq_false (by omega)))) ?_
      refine .step rfl (.pick rfl rfl rfl) ?_
      refine .step rfl (.move rfl rfl) ?_
      refine .no 23 rfl rfl rfl rfl rfl rfl rfl ?_
      refine .no 23 rfl rfl rfl rfl rfl rfl rfl ?_
      refine .no 23 rfl rfl rfl rfl rfl rfl rfl ?_
      refine .step rfl (.pick rfl rfl rfl) ?_
      refine .step rfl (.move rfl rfl) ?_
      refine .no 28 rfl rfl rfl rfl rfl rfl rfl ?_
      refine .no 28 rfl rfl rfl rfl rfl rfl rfl ?_
      refine .no 28 rfl rfl rfl rfl rfl rfl rfl ?_
      refine .step rfl (.pick rfl rfl rfl) ?_
      refine .step rfl (.assign rfl rfl) ?_
      refine .nil ?_
      refine .next ?_
      refine .ret ?_
      rw [hR]
      exact TE.retf rfl rfl rfl trivial
    ·skip
     have hR : rightE e.nm e.ver e.key = false := by unfold rightE; rw [decide_eq_false m2]; simp
     refine .region ?_
     refine .step rfl (.fieldp rfl rfl rfl rfl fo30_0) ?_
     refine .step rfl (.ldp rfl rfl rfl rfl rfl tk9) ?_
     refine .step rfl (.lens rfl rfl is9) ?_
     refine .step rfl (.binv (.bool true) rfl rfl rfl rfl (congrArg Value.bool (decide_eq_true (by omega)))) ?_
     refine .step rfl (.move rfl rfl) ?_
     refine .go 7 rfl rfl rfl rfl (.fieldp rfl rfl rfl rfl fo30_0) ?_
     refine .go 7 rfl rfl rfl rfl (.ldp rfl rfl rfl rfl rfl tk9) ?_
     refine .go 7 rfl rfl rfl rfl (.lens rfl rfl is9) ?_
     refine .go 7 rfl rfl rfl rfl (.binv (.bool true) rfl rfl rfl rfl (congrArg Value.bool (decide_eq_true (by omega)))) ?_
     refine .step rfl (.pick rfl rfl rfl) ?_
     refine .step rfl (.move rfl rfl) ?_
     refine .go 13 rfl rfl rfl rfl (.fieldp rfl rfl rfl rfl fo30_1) ?_
     refine .go 13 rfl rfl rfl rfl (.ldp rfl rfl rfl rfl rfl tk3) ?_
     refine .go 13 rfl rfl rfl rfl (.binv (.bool false) rfl rfl rfl rfl (congrArg Value.bool (decide_eq_false (by omega)))) ?_
     refine .step rfl (.pick rfl rfl rfl) ?_
     refine .step rfl (.move rfl rfl) ?_
     refine .no 18 rfl rfl rfl rfl rfl rfl rfl ?_
     refine .no 18 rfl rfl rfl rfl rfl rfl rfl ?_
     refine .no 18 rfl rfl rfl rfl rfl rfl rfl ?_
     refine .step rfl (.pick rfl rfl rfl) ?_
     refine .step rfl (.move rfl rfl) ?_
     refine .no 23 rfl rfl rfl rfl rfl rfl rfl ?_
     refine .no 23 rfl rfl rfl rfl rfl rfl rfl ?_
     refine .no 23 rfl rfl rfl rfl rfl rfl rfl ?_
     refine .step rfl (.pick rfl rfl rfl) ?_
     refine .step rfl (.move rfl rfl) ?_
     refine .no 28 rfl rfl rfl rfl rfl rfl rfl ?_
     refine .no 28 rfl rfl rfl rfl rfl rfl rfl ?_
     refine .no 28 rfl rfl rfl rfl rfl rfl rfl ?_
     refine .step rfl (.pick rfl rfl rfl) ?_
     refine .step rfl (.assign rfl rfl) ?_
     refine .nil ?_
     refine .next ?_
     refine .ret ?_
     rw [hR]
     exact TE.retf rfl rfl rfl trivial
   ·skip
    have hR : rightE e.nm e.ver e.key = false := by unfold rightE; rw [decide_eq_false m1]; simp
    refine .region ?_
    refine .step rfl (.fieldp rfl rfl rfl rfl fo30_0) ?_
    refine .step rfl (.ldp rfl rfl rfl rfl rfl tk9) ?_
    refine .step rfl (.lens rfl rfl is9) ?_
    refine .step rfl (.binv (.bool true) rfl rfl rfl rfl (congrArg Value.bool (decide_eq_true (by omega)))) ?_
    refine .step rfl (.move rfl rfl) ?_
    refine .go 7 rfl rfl rfl rfl (.fieldp rfl rfl rfl rfl fo30_0) ?_
    refine .go 7 rfl rfl rfl rfl (.ldp rfl rfl rfl rfl rfl tk9) ?_
    refine .go 7 rfl rfl rfl rfl (.lens rfl rfl is9) ?_
    refine .go 7 rfl rfl rfl rfl (.binv (.bool false) rfl rfl rfl rfl (congrArg Value.bool (decide_eq_false (by omega)))) ?_
    refine .step rfl (.pick rfl rfl rfl) ?_
    refine .step rfl (.move rfl rfl) ?_
    refine .no 13 rfl rfl rfl rfl rfl rfl rfl ?_
    refine .no 13 rfl rfl rfl rfl rfl rfl rfl ?_
    refine .no 13 rfl rfl rfl rfl rfl rfl rfl ?_
    refine .step rfl (.pick rfl rfl rfl) ?_
    refine .step rfl (.move rfl rfl) ?_
    refine .no 18 rfl rfl rfl rfl rfl rfl rfl ?_
    refine .no 18 rfl rfl rfl rfl rfl rfl rfl ?_
    refine .no 18 rfl rfl rfl rfl rfl rfl rfl ?_
    refine .step rfl (.pick rfl rfl rfl) ?_
    refine .step rfl (.move rfl rfl) ?_
    refine .no 23 rfl rfl rfl rfl rfl rfl rfl ?_
    refine .no 23 rfl rfl rfl rfl rfl rfl rfl ?_
    refine .no 23 rfl rfl rfl rfl rfl rfl rfl ?_
    refine .step rfl (.pick rfl rfl rfl) ?_
    refine .step rfl (.move rfl rfl) ?_
    refine .no 28 rfl rfl rfl rfl rfl rfl rfl ?_
    refine .no 28 rfl rfl rfl rfl rfl rfl rfl ?_
    refine .no 28 rfl rfl rfl rfl rfl rfl rfl ?_
    refine .step rfl (.pick rfl rfl rfl) ?_
    refine .step rfl (.assign rfl rfl) ?_
    refine .nil ?_
    refine .next ?_
    refine .ret ?_
    rw [hR]
    exact TE.retf rfl rfl rfl trivial
  ·skip
   have hR : rightE e.nm e.ver e.key = false := by unfold rightE; rw [decide_eq_false m0]; simp
   refine .region ?_
   refine .step rfl (.fieldp rfl rfl rfl rfl fo30_0) ?_
   refine .step rfl (.ldp rfl rfl rfl rfl rfl tk9) ?_
   refine .step rfl (.lens rfl rfl is9) ?_
   refine .step rfl (.binv (.bool false) rfl rfl rfl rfl (congrArg Value.bool (decide_eq_false (by omega)))) ?_
   refine .step rfl (.move rfl rfl) ?_
   refine .no 7 rfl rfl rfl rfl rfl rfl rfl ?_
   refine .no 7 rfl rfl rfl rfl rfl rfl rfl ?_
   refine .no 7 rfl rfl rfl rfl rfl rfl rfl ?_
   refine .no 7 rfl rfl rfl rfl rfl rfl rfl ?_
   refine .step rfl (.pick rfl rfl rfl) ?_
   refine .step rfl (.move rfl rfl) ?_
   refine .no 13 rfl rfl rfl rfl rfl rfl rfl ?_
   refine .no 13 rfl rfl rfl rfl rfl rfl rfl ?_
   refine .no 13 rfl rfl rfl rfl rfl rfl rfl ?_
   refine .step rfl (.pick rfl rfl rfl) ?_
   refine .step rfl (.move rfl rfl) ?_
   refine .no 18 rfl rfl rfl rfl rfl rfl rfl ?_
   refine .no 18 rfl rfl rfl rfl rfl rfl rfl ?_
   refine .no 18 rfl rfl rfl rfl rfl rfl rfl ?_
   refine .step rfl (.pick rfl rfl rfl) ?_
   refine .step rfl (.move rfl rfl) ?_
   refine .no 23 rfl rfl rfl rfl rfl rfl rfl ?_
   refine .no 23 rfl rfl rfl rfl rfl rfl rfl ?_
   refine .no 23 rfl rfl rfl rfl rfl rfl rfl ?_
   refine .step rfl (.pick rfl rfl rfl) ?_
   refine .step rfl (.move rfl rfl) ?_
   refine .no 28 rfl rfl rfl rfl rfl rfl rfl ?_
   refine .no 28 rfl rfl rfl rfl rfl rfl rfl ?_
   refine .no 28 rfl rfl rfl rfl rfl rfl rfl ?_
   refine .step rfl (.pick rfl rfl rfl) ?_
   refine .step rfl (.assign rfl rfl) ?_
   refine .nil ?_
   refine .next ?_
   refine .ret ?_
   rw [hR]
   exact TE.retf rfl rfl rfl trivial

set_option maxRecDepth 100000 in
set_option maxHeartbeats 1600000 in
theorem uent_pf (nm : List UInt8) (v k c : Int) : PF Try.prog 63 [.ag [.v (strV nm), .v (.int .i64 v), .v (.int .u64 k), .v (.int .i64 c), .v (.int .u64 0), .v (.int .u64 0)]] (.ag (En.dv ⟨nm, v, k⟩)) := by
  refine PF.enter (fn := Try.f63) Try.func63 rfl Try.ntmps63 rfl (fun w0 => ?_)
  refine .seq ?_
  refine .region ?_
  refine .step rfl (.box 1 rfl rfl rfl rfl) ?_
  refine .step rfl (.alloc 2 rfl rfl zc30 rfl) ?_
  refine .nil ?_
  refine .next ?_
  refine .seq ?_
  refine .region ?_
  refine .step rfl (.fieldp rfl rfl rfl rfl fo82_0) ?_
  refine .step rfl (.ldp rfl rfl rfl rfl rfl tk9) ?_
  refine .step rfl (.fieldp rfl rfl rfl rfl fo82_1) ?_
  refine .step rfl (.ldp rfl rfl rfl rfl rfl tk3) ?_
  refine .step rfl (.fieldp rfl rfl rfl rfl fo82_2) ?_
  refine .step rfl (.ldp rfl rfl rfl rfl rfl tk28) ?_
  refine .step rfl (.build (ds := En.dv ⟨nm, v, k⟩) rfl rfl sp30 rfl rfl) ?_
  refine .step rfl (.store rfl rfl rfl sz30 rfl rfl) ?_
  refine .nil ?_
  refine .next ?_
  refine .ret ?_
  exact TE.retf rfl rfl rfl (pl_ag (pl_en ⟨nm, v, k⟩))

set_option maxRecDepth 100000 in
set_option maxHeartbeats 1600000 in
theorem urt_pf (nm : List UInt8) (v k : Int) : PF Try.prog 49 [.ag [.v (strV nm), .v (.int .i64 v), .v (.int .u64 k), .v (.int .i64 0), .v (.int .u64 0), .v (.int .u64 0)]] (.v (.bool (rightE nm v k))) := by
  refine PF.enter (fn := Try.f49) Try.func49 rfl Try.ntmps49 rfl (fun w0 => ?_)
  refine .seq ?_
  refine .region ?_
  refine .step rfl (.box 1 rfl rfl rfl rfl) ?_
  refine .step rfl (.assign rfl rfl) ?_
  refine .nil ?_
  refine .next ?_
  refine .seq ?_
  refine .region ?_
  refine .step rfl (.ldpm rfl rfl rfl rfl rfl rfl tk82) ?_
  refine .step rfl (.callf rfl cf63 rfl ⟨trivial, trivial⟩ (uent_pf nm v k 0)) ?_
  refine .step rfl (.callf rfl cf62 rfl ⟨trivial, trivial⟩ (umay_pf ⟨nm, v, k⟩)) ?_
  refine .case 5 rfl (fun h1 => ?_) (fun h1 => ?_)
  ·skip
   have hR : rightE nm v k = true := h1
   refine .step rfl (.move rfl rfl) ?_
   refine .go 6 rfl rfl rfl rfl (.fieldp rfl rfl rfl rfl fo82_3) ?_
   refine .go 6 rfl rfl rfl rfl (.ldp rfl rfl rfl rfl rfl tk3) ?_
   refine .go 6 rfl rfl rfl rfl (.binv (.bool true) rfl rfl rfl rfl (rfl)) ?_
   refine .go 6 rfl rfl rfl rfl (.move rfl rfl) ?_
   refine .no 10 rfl rfl rfl rfl rfl rfl rfl ?_
   refine .no 10 rfl rfl rfl rfl rfl rfl rfl ?_
   refine .no 10 rfl rfl rfl rfl rfl rfl rfl ?_
   refine .go 6 rfl rfl rfl rfl (.pick rfl rfl rfl) ?_
   refine .step rfl (.pick rfl rfl rfl) ?_
   refine .step rfl (.assign rfl rfl) ?_
   refine .nil ?_
   refine .next ?_
   refine .ret ?_
   rw [hR]
   exact TE.retf rfl rfl rfl trivial
  ·skip
   have hR : rightE nm v k = false := h1
   refine .step rfl (.move rfl rfl) ?_
   refine .no 6 rfl rfl rfl rfl rfl rfl rfl ?_
   refine .no 6 rfl rfl rfl rfl rfl rfl rfl ?_
   refine .no 6 rfl rfl rfl rfl rfl rfl rfl ?_
   refine .no 6 rfl rfl rfl rfl rfl rfl rfl ?_
   refine .no0 10 rfl rfl rfl rfl rfl ?_
   refine .no0 10 rfl rfl rfl rfl rfl ?_
   refine .no0 10 rfl rfl rfl rfl rfl ?_
   refine .no 6 rfl rfl rfl rfl rfl rfl rfl ?_
   refine .step rfl (.pick rfl rfl rfl) ?_
   refine .step rfl (.assign rfl rfl) ?_
   refine .nil ?_
   refine .next ?_
   refine .ret ?_
   rw [hR]
   exact TE.retf rfl rfl rfl trivial

set_option maxRecDepth 100000 in
set_option maxHeartbeats 1600000 in
theorem dmay_pf (e : En) : PF Try.prog 32 [.ag e.dv] (.v (.bool (rightE e.nm e.ver e.key))) := by
  refine PF.enter (fn := Try.f32) Try.func32 rfl Try.ntmps32 rfl (fun w0 => ?_)
  refine .seq ?_
  refine .region ?_
  refine .step rfl (.box 1 rfl rfl rfl rfl) ?_
  refine .step rfl (.assign rfl rfl) ?_
  refine .nil ?_
  refine .next ?_
  refine .seq ?_
  refine .region ?_
  refine .step rfl (.fieldp rfl rfl rfl rfl fo30_0) ?_
  refine .step rfl (.ldp rfl rfl rfl rfl rfl tk9) ?_
  refine .step rfl (.fieldp rfl rfl rfl rfl fo30_1) ?_
  refine .step rfl (.ldp rfl rfl rfl rfl rfl tk3) ?_
  refine .step rfl (.fieldp rfl rfl rfl rfl fo30_2) ?_
  refine .step rfl (.ldp rfl rfl rfl rfl rfl tk28) ?_
  refine .step rfl (.build (ds := [.v (strV e.nm), .v (.int .i64 e.ver), .v (.int .u64 e.key), .v (.int .i64 0), .v (.int .u64 0), .v (.int .u64 0)]) rfl rfl sp82 rfl rfl) ?_
  refine .step rfl (.callf rfl cf49 rfl ⟨trivial, trivial⟩ (urt_pf e.nm e.ver e.key)) ?_
  refine .step rfl (.assign rfl rfl) ?_
  refine .nil ?_
  refine .next ?_
  refine .ret ?_
  exact TE.retf rfl rfl rfl trivial

set_option maxRecDepth 100000 in
set_option maxHeartbeats 1600000 in
theorem add1_pf (k : Kn) (ep : Int) : PF Try.prog 31 ([.ag k.dv] ++ [.el [.v (.int .i64 ep)]]) (.v (.bool (decide (ep ≤ k.ep)))) := by
  refine PF.enter (fn := Try.f31) Try.func31 rfl Try.ntmps31 rfl (fun w0 => ?_)
  refine .seq ?_
  refine .region ?_
  refine .step rfl (.box 1 rfl rfl rfl rfl) ?_
  refine .step rfl (.assign rfl rfl) ?_
  refine .nil ?_
  refine .next ?_
  refine .seq ?_
  refine .region ?_
  refine .step rfl (.fieldp rfl rfl rfl rfl fo32_1) ?_
  refine .step rfl (.ldp rfl rfl rfl rfl rfl tk3) ?_
  refine .step rfl (.lde rfl rfl rfl rfl tk3) ?_
  refine .step rfl (.bin rfl rfl rfl rfl) ?_
  refine .step rfl (.assign rfl rfl) ?_
  refine .nil ?_
  refine .next ?_
  refine .ret ?_
  exact TE.retf rfl rfl rfl trivial

/-- The first that is so. -/
def fsK (p : Kn → Bool) : List Kn → Nat
  | [] => 0
  | x :: r => if p x then 0 else fsK p r + 1
theorem fsK_at {p : Kn → Bool} : ∀ {l : List Kn} {k : Nat} (hk : k < l.length), p l[k] = true → (∀ j (hj : j < l.length), j < k → p l[j] = false) → fsK p l = k
  | x :: r, 0, _, h, _ => by simp only [List.getElem_cons_zero] at h; simp [fsK, h]
  | x :: r, k + 1, hk, h, hn => by
    have h0 : p x = false := hn 0 (by simp) (by omega)
    have := fsK_at (p := p) (l := r) (k := k) (by simpa using hk) (by simpa using h) (fun j hj hjk => hn (j + 1) (by simpa using hj) (by omega))
    simp [fsK, h0, this]
theorem fsK_none {p : Kn → Bool} : ∀ {l : List Kn}, (∀ j (hj : j < l.length), p l[j] = false) → fsK p l = l.length
  | [], _ => rfl
  | x :: r, hn => by
    have h0 : p x = false := hn 0 (by simp)
    have := fsK_none (p := p) (l := r) (fun j hj => hn (j + 1) (by simpa using hj))
    simp [fsK, h0, this]
theorem fsK_lt {p : Kn → Bool} : ∀ {l : List Kn}, fsK p l < l.length ↔ ∃ k ∈ l, p k = true
  | [] => by simp [fsK]
  | x :: r => by
    have ih := fsK_lt (p := p) (l := r)
    cases h : p x with
    | true => simp [fsK, h]
    | false => simp [fsK, h, ← ih]

/-- The first batch of this epoch or a later one: where it stands. -/
def idxE (ep : Int) (l : List Kn) : Int := if fsK (fun k : Kn => decide (ep ≤ k.ep)) l < l.length then ((fsK (fun k : Kn => decide (ep ≤ k.ep)) l : Nat) : Int) else -1

set_option maxRecDepth 100000 in
set_option maxHeartbeats 1600000 in
theorem idxk_pf (l : List Kn) (ep : Int) (hl : l.length ≤ 1048577) : PF Try.prog 48 [slT Kn.dv 4 l, .fn (.func 31) [] [.el [.v (.int .i64 ep)]]] (.v (.int .i64 (idxE ep l))) := by
  refine PF.enter (fn := Try.f48) Try.func48 rfl Try.ntmps48 rfl (fun w0 => ?_)
  refine .seq ?_
  refine .region ?_
  refine .step rfl (.assign rfl rfl) ?_
  refine .nil ?_
  refine .next ?_
  refine .seq ?_
  refine .seq ?_
  refine .region ?_
  refine .step rfl (.move rfl rfl) ?_
  refine .step rfl (.len rfl rfl ⟨_, _, rfl⟩ is24) ?_
  refine .step rfl (.move rfl rfl) ?_
  refine .nil ?_
  refine TE.setv 8 (.int .i64 ((0 : Nat) : Int)) rfl (congrArg _ (by first | rfl | (dsimp only; first | done | rfl | omega))) ?_
  refine .next ?_
  refine .block ?_
  refine TC.loop (S := Nat) (fun i => i ≤ l.length ∧ ∀ j (hj : j < l.length), j < i → (fun k : Kn => decide (ep ≤ k.ep)) l[j] = false) (fun i => l.length - i) (fun i => [(0, .d (slT Kn.dv 4 l)), (1, .d (.fn (.func 31) [] [.el [.v (.int .i64 ep)]])), (6, .d (slT Kn.dv 4 l)), (7, .f (.v (.int .i64 ((l.length : Nat) : Int)))), (8, .d (.v (.int .i64 ((i : Nat) : Int))))]) (fun i => []) (0) ⟨Nat.zero_le _, fun j _ h => absurd h (Nat.not_lt_zero j)⟩ ⟨⟨rfl, rfl⟩, ⟨rfl, rfl⟩, ⟨rfl, rfl⟩, ⟨rfl, rfl⟩, ⟨rfl, rfl⟩, trivial⟩ trivial (fun i hI => ?_)
  obtain ⟨i1, i2⟩ := hI
  refine .seq ?_
  refine .region ?_
  refine .step rfl (.bin rfl rfl rfl rfl) ?_
  refine .nil ?_
  refine .next ?_
  refine .seq ?_
  refine .cond rfl (fun h1 => ?_) (fun h1 => ?_)
  ·skip
   have hi : i < l.length := by have q := of_decide_eq_true h1; (try dsimp only at q); omega
   refine .skip ?_
   refine .next ?_
   refine .seq ?_
   refine .block ?_
   refine .seq ?_
   refine .region ?_
   refine .step rfl (.move rfl rfl) ?_
   refine .step rfl (.assign rfl rfl) ?_
   refine .nil ?_
   refine .next ?_
   refine .seq ?_
   refine .region ?_
   refine .step rfl (.move rfl rfl) ?_
   refine .step rfl (.move rfl rfl) ?_
   refine .step rfl (.move rfl rfl) ?_
   refine .step rfl (.idx (l[i]) rfl rfl rfl rfl et24 (fun _ => rfl) (Int.natCast_nonneg i) (get_nat hi)) ?_
   refine .step rfl (.ldem (ds := l[i].dv) rfl rfl rfl rfl rfl tk32) ?_
   refine .step rfl (.callvf rfl rfl cf31 rfl ⟨trivial, trivial⟩ (add1_pf l[i] ep)) ?_
   refine .nil ?_
   refine .next ?_
   refine .cond rfl (fun h2 => ?_) (fun h2 => ?_)
   ·skip
    have hb : (fun k : Kn => decide (ep ≤ k.ep)) l[i] = true := h2
    have e : idxE ep l = ((i : Nat) : Int) := by unfold idxE; rw [fsK_at hi hb (fun j hj hjk => i2 j hj hjk), if_pos hi]
    refine .seq ?_
    refine .region ?_
    refine .step rfl (.move rfl rfl) ?_
    refine .step rfl (.assign rfl rfl) ?_
    refine .nil ?_
    refine .next ?_
    refine .ret ?_
    rw [e]
    exact TE.retf rfl rfl rfl (pl_v _)
   ·skip
    have hb : (fun k : Kn => decide (ep ≤ k.ep)) l[i] = false := h2
    refine .skip ?_
    refine TE.blk ?_
    refine .next ?_
    refine .region ?_
    refine .step rfl (.binv (.int .i64 ((i + 1 : Nat) : Int)) rfl rfl rfl rfl (congrArg _ (by (try dsimp only); rw [IntKind.wrap_i64]; omega))) ?_
    refine .step rfl (.move rfl rfl) ?_
    refine .nil ?_
    refine TE.setv 8 (.int .i64 ((i + 1 : Nat) : Int)) rfl (congrArg _ (by first | rfl | (dsimp only; first | done | rfl | omega))) ?_
    exact TE.round id (fun _ _ e => e) (i + 1) ⟨hi, fun j hj hjk => (Nat.lt_or_eq_of_le (Nat.le_of_lt_succ hjk)).elim (i2 j hj) (fun e => by subst e; exact hb)⟩ (by omega) ⟨⟨rfl, rfl⟩, ⟨rfl, rfl⟩, ⟨rfl, rfl⟩, ⟨rfl, rfl⟩, ⟨rfl, rfl⟩, trivial⟩ trivial
  ·skip
   have hi : ¬ (i < l.length) := by have q := of_decide_eq_false h1; (try dsimp only at q); omega
   have e : idxE ep l = -1 := by unfold idxE; rw [fsK_none (fun j hj => i2 j hj (by omega)), if_neg (Nat.lt_irrefl _)]
   refine .exit ?_
   refine TE.pass ?_
   refine TE.pass ?_
   refine TE.here ?_
   refine .next ?_
   refine .seq ?_
   refine .region ?_
   refine .step rfl (.assign rfl rfl) ?_
   refine .nil ?_
   refine .next ?_
   refine .ret ?_
   rw [e]
   exact TE.retf rfl rfl rfl trivial

set_option maxRecDepth 100000 in
set_option maxHeartbeats 1600000 in
theorem cont_pf (l : List Kn) (ep : Int) (hl : l.length ≤ 1048577) : PF Try.prog 30 [slT Kn.dv 4 l, .fn (.func 31) [] [.el [.v (.int .i64 ep)]]] (.v (.bool (decide (0 ≤ idxE ep l)))) := by
  refine PF.enter (fn := Try.f30) Try.func30 rfl Try.ntmps30 rfl (fun w0 => ?_)
  refine .seq ?_
  refine .region ?_
  refine .step rfl (.assign rfl rfl) ?_
  refine .nil ?_
  refine .next ?_
  refine .seq ?_
  refine .region ?_
  refine .step rfl (.move rfl rfl) ?_
  refine .step rfl (.move rfl rfl) ?_
  refine .step rfl (.callf rfl cf48 rfl ⟨trivial, trivial, trivial⟩ (idxk_pf l ep hl)) ?_
  refine .step rfl (.bin rfl rfl rfl rfl) ?_
  refine .step rfl (.assign rfl rfl) ?_
  refine .nil ?_
  refine .next ?_
  refine .ret ?_
  exact TE.retf rfl rfl rfl trivial

set_option maxRecDepth 100000 in
set_option maxHeartbeats 1600000 in
theorem clk_po (l : List Kn) (hl : l.length ≤ 1048576) : PO Try.prog 29 [slT Kn.dv 4 l] 32 4 l.length (l.flatMap Kn.dv) := by
  refine PO.enter (fn := Try.f29) Try.func29 rfl Try.ntmps29 rfl (fun w0 => ?_)
  refine .seq ?_
  refine .region ?_
  refine .step rfl (.assign rfl rfl) ?_
  refine .nil ?_
  refine .next ?_
  refine .seq ?_
  refine .seq ?_
  refine .region ?_
  refine .step rfl (.move rfl rfl) ?_
  refine .eqnil rfl rfl rfl et24 (fun hn0 hc0 => ?_) ?_
  ·skip
   have e : l = [] := List.eq_nil_of_length_eq_zero hn0
   subst e
   refine .nil ?_
   refine .next ?_
   refine .cond rfl (fun h1 => ?_) (fun h1 => absurd h1 (by decide))
   refine .seq ?_
   refine .region ?_
   refine .step rfl (.assign rfl rfl) ?_
   refine .nil ?_
   refine TE.own0 2 1 32 4 rfl rfl ?_
   refine .next ?_
   refine .ret ?_
   exact TE.retof rfl rfl rfl rfl (by decide) pl_nil
  ·skip
   refine .nil ?_
   refine .next ?_
   refine .cond rfl (fun h2 => absurd h2 (by decide)) (fun h2 => ?_)
   refine .skip ?_
   refine .next ?_
   refine .seq ?_
   refine .region ?_
   refine .step rfl (.buildsl0 2 rfl rfl ap24) ?_
   refine .step rfl (.move rfl rfl) ?_
   refine .step rfl (.append 3 rfl rfl rfl rfl rfl ap24 rfl rfl trivial (flat_one (fun _ => rfl) l) (by omega) (by omega)) ?_
   refine .step rfl (.assign rfl rfl) ?_
   refine .nil ?_
   refine TE.set 2 (.ow 3 l.length 4) rfl (by rw [Nat.zero_add]) ?_
   refine TE.obj 3 (.row 32 4 (l.flatMap Kn.dv)) rfl rfl ?_
   refine .next ?_
   refine .ret ?_
   exact TE.retof rfl rfl rfl (flat_length (sz := 4) (enc := Kn.dv) (fun _ => rfl) _) (by decide) (pl_flat pl_kn _)

end Go.Proofs.Ythidepbffhhkmaa
