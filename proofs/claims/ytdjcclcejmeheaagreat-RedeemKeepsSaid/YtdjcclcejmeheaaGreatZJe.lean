import Derived.Test.YtdjcclcejmeheaaGreatZJb
import Derived.Test.YtdjcclcejmeheaaGreatZFb
import Derived.Test.YtdjcclcejmeheaaGreatZEv
import Derived.Test.YtdjcclcejmeheaaGreatZFd
import Derived.Test.YtdjcclcejmeheaaGreatZGr
/-
  The reference's texts.
-/
namespace Go.Proofs.YtdjcclcejmeheaaGreat
set_option linter.unusedVariables false
set_option linter.unusedSimpArgs false
open Go.RowKit Pl
set_option maxRecDepth 100000
set_option maxHeartbeats 3200000
theorem cf98 : cfn Tryz.prog 98 = true := by kernel_rfl
end Go.Proofs.YtdjcclcejmeheaaGreat
/-
  Which proofs may be, of both sides.
-/
namespace Go.Proofs.YtdjcclcejmeheaaGreat
set_option linter.unusedVariables false
set_option linter.unusedSimpArgs false
open Go.RowKit Pl
set_option maxRecDepth 100000
set_option maxHeartbeats 3200000
theorem qi79 : eqT Tryz.prog 79 = some iks := by kernel_rfl
theorem pfright_pf (ix : H) (p : Pf) : PF Tryz.prog 77 [.ag (hdv (ix)), .ag p.dv] (.v (.bool (rightF ix p))) := by
 refine PF.enter (fn := Tryz.f77) Tryz.func77 rfl Tryz.ntmps77 rfl (fun w0 => .w ?_)
 refine .g 3 1 rfl ?_
 refine TE.frzb 2 rfl rfl rfl rfl ?_
 refine TE.frzb 3 rfl rfl rfl rfl ?_
 refine .q 4 3 rfl rfl (fun h1 => ?_) (fun h1 => ?_)
 ·skip
  have hlen : 256 < p.path.length := by have q := of_decide_eq_true h1; (try dsimp only at q); omega
  rw [show rightF ix p = false from rightF_long hlen]
  exact .z 1 3 rfl (TE.retf rfl rfl rfl trivial)
 ·skip
  have hlen : ¬ (256 < p.path.length) := by have q := of_decide_eq_false h1; (try dsimp only at q); omega
  refine .q 4 3 rfl rfl (fun h2 => ?_) (fun h2 => ?_)
  ·skip
   have he0 : p.en = 0 := of_decide_eq_true h2
   refine .t 2 3 rfl rfl (.lm (hdv p.it.ix) rfl) ?_
   refine .t 0 3 rfl rfl (.lm (hdv ix) rfl) ?_
   refine .t 0 3 rfl rfl (.eqh (a := p.it.ix) (b := ix) rfl rfl rfl qh41) ?_
   rw [show rightF ix p = decide (H.l p.it.ix = H.l ix) from rightF_here hlen he0]
   exact .z 1 3 rfl (TE.retf rfl rfl rfl trivial)
  ·skip
   have he0 : ¬ p.en = 0 := of_decide_eq_false h2
   refine .q 2 3 rfl rfl (fun h3 => ?_) (fun h3 => ?_)
   ·skip
    have he1 : p.en = 1 := of_decide_eq_true h3
    refine .t 1 3 rfl rfl (.lm (p.it.dv) rfl) ?_
    refine .t 0 3 rfl rfl (.bd (zeroIt.dv) rfl) ?_
    refine .t 0 3 rfl rfl (.eqi (a := p.it) (b := zeroIt) rfl rfl rfl qi79) ?_
    rw [show rightF ix p = decide (iB p.it = iB zeroIt) from rightF_nobody hlen he1]
    exact .z 1 3 rfl (TE.retf rfl rfl rfl trivial)
   ·skip
    have he1 : ¬ p.en = 1 := of_decide_eq_false h3
    refine .q 2 3 rfl rfl (fun h4 => ?_) (fun h4 => ?_)
    ·skip
     have he2 : p.en = 2 := of_decide_eq_true h4
     refine .g 4 3 rfl ?_
     refine TE.setv 30 (.int .i64 ((0 : Nat) : Int)) rfl (congrArg _ (by first | rfl | (dsimp only; first | done | rfl | omega))) ?_
     refine TE.setv 29 (.int .i64 ((p.path.length : Nat) : Int)) rfl rfl ?_
     refine .lo (T := Nat) 0 3 rfl (fun i => i ≤ p.path.length ∧ sameB ix p.it.ix i = true) (fun i => p.path.length - i) [] [] (fun i => [(2, .d (.el (hdv ix))), (3, .d (.el p.dv)), (29, .d (.v (.int .i64 ((p.path.length : Nat) : Int)))), (30, .d (.v (.int .i64 ((i : Nat) : Int))))]) (fun i => []) (0) rfl rfl ⟨Nat.zero_le _, rfl⟩ rfl rfl rfl (fun i hI => ?_)
     obtain ⟨i1, i2⟩ := hI
     refine .q 1 3 rfl rfl (fun h5 => ?_) (fun h5 => ?_)
     ·skip
      have hi : i < p.path.length := by have q := of_decide_eq_true h5; (try dsimp only at q); omega
      refine .d 2 3 rfl ?_
      refine .v 2 3 [] rfl rfl (fun _ _ => .lm (hdv p.it.ix) rfl) ?_
      refine .v 1 3 [] rfl rfl (fun _ _ => .cf (bit_pf p.it.ix ((i : Nat) : Int)) rfl) ?_
      refine .v 0 3 [] rfl rfl (fun _ _ => .lm (hdv ix) rfl) ?_
      refine .v 1 3 [] rfl rfl (fun _ _ => .cf (bit_pf ix ((i : Nat) : Int)) rfl) ?_
      refine .y 1 3 rfl (by kernel_rfl) ?_
      refine .q 0 3 rfl rfl (fun h6 => ?_) (fun h6 => ?_)
      ·skip
       have hb : ¬ bitI p.it.ix ((i : Nat) : Int) = bitI ix ((i : Nat) : Int) := by simpa using h6
       rw [show rightF ix p = false from (rightF_other hlen he2).trans (by rw [sameB_false hi hb]; rfl)]
       exact .z 1 3 rfl (TE.retf rfl rfl rfl trivial)
      ·skip
       have hb : bitI p.it.ix ((i : Nat) : Int) = bitI ix ((i : Nat) : Int) := by simpa using h6
       refine .t 0 3 rfl rfl (.bv (.int .i64 ((i + 1 : Nat) : Int)) rfl (congrArg _ (by (try dsimp only); rw [IntKind.wrap_i64]; omega))) ?_
       refine .g 1 3 rfl ?_
       refine TE.setv 30 (.int .i64 ((i + 1 : Nat) : Int)) rfl (congrArg _ (by first | rfl | (dsimp only; first | done | rfl | omega))) ?_
       exact .rd 0 3 id (fun _ _ e => e) rfl (i + 1) ⟨hi, by rw [sameB_succ, i2, decide_eq_true hb]; rfl⟩ (by omega) rfl rfl rfl
     ·skip
      have hi : ¬ (i < p.path.length) := by have q := of_decide_eq_false h5; (try dsimp only at q); omega
      have hall : sameB ix p.it.ix p.path.length = true := by rw [show p.path.length = i by omega]; exact i2
      refine .t 2 3 rfl rfl (.lm (hdv p.it.ix) rfl) ?_
      refine .t 0 3 rfl rfl (.lm (hdv ix) rfl) ?_
      refine .t 0 3 rfl rfl (.neh (a := p.it.ix) (b := ix) rfl rfl rfl qh41) ?_
      rw [show rightF ix p = decide (¬ H.l p.it.ix = H.l ix) from (rightF_other hlen he2).trans (by rw [hall]; rfl)]
      exact .z 1 3 rfl (TE.retf rfl rfl rfl trivial)
    ·skip
     have he2 : ¬ p.en = 2 := of_decide_eq_false h4
     rw [show rightF ix p = false from rightF_none hlen he0 he1 he2]
     exact .z 1 3 rfl (TE.retf rfl rfl rfl trivial)
end Go.Proofs.YtdjcclcejmeheaaGreat
/-
  What proofs prove, of both sides; proofs compared.
-/
namespace Go.Proofs.YtdjcclcejmeheaaGreat
set_option linter.unusedVariables false
set_option linter.unusedSimpArgs false
open Go.RowKit Pl
set_option maxRecDepth 100000
set_option maxHeartbeats 3200000
theorem check_pc (root ix : H) (p : Pf) : PC Tryz.prog 30 [.ag (hdv (root)), .ag (hdv (ix)), .ag p.dv] (.tp [.ag (hdv (checkV root ix p).1), .v (.bool (checkV root ix p).2.1), .v (.bool (checkV root ix p).2.2)]) := by
 refine PC.enter (fn := Tryz.f30) Tryz.func30 rfl Tryz.ntmps30 rfl (fun w0 K0 => .w ?_)
 refine .g 6 1 rfl ?_
 refine TE.frzb 3 rfl rfl rfl rfl ?_
 refine TE.frzb 4 rfl rfl rfl rfl ?_
 refine TE.frzb 5 rfl rfl rfl rfl ?_
 refine .t 0 5 rfl rfl (.lm (hdv ix) rfl) ?_
 refine .t 0 5 rfl rfl (.lm (p.dv) rfl) ?_
 refine .t 0 5 rfl rfl (.cf (pfright_pf ix p) rfl) ?_
 refine .q 1 5 rfl rfl (fun h1 => ?_) (fun h1 => ?_)
 ·skip
  have hR : rightF ix p = false := by simpa using h1
  refine .t 0 5 rfl rfl (.bd (hdv zeroH) rfl) ?_
  rw [show checkV root ix p = (zeroH, false, false) from checkV_wrong hR]
  exact .z 3 5 rfl (TE.rettc rfl rfl rfl)
 ·skip
  have hR : rightF ix p = true := by simpa using h1
  have hlen := rightF_short hR
  refine .t 0 5 rfl rfl (.lm (hdv ix) rfl) ?_
  refine .t 0 5 rfl rfl (.lm (p.dv) rfl) ?_
  refine .t 0 5 rfl rfl (.cc (texts_pc ix p (by omega)) rfl) ?_
  refine .t 6 5 rfl rfl (.lp (hdv (txH ix p p.path.length)) rfl) ?_
  refine .t 0 6 rfl rfl (.lm (hdv root) rfl) ?_
  refine .t 0 6 rfl rfl (.neh (a := txH ix p p.path.length) (b := root) rfl rfl rfl qh41) ?_
  refine .q 1 6 rfl rfl (fun h2 => ?_) (fun h2 => ?_)
  ·skip
   have hr : ¬ H.l (txH ix p p.path.length) = H.l root := of_decide_eq_true h2
   refine .t 0 6 rfl rfl (.bd (hdv zeroH) rfl) ?_
   rw [show checkV root ix p = (zeroH, false, false) from checkV_root hR hr]
   exact .z 3 6 rfl (TE.rettc rfl rfl rfl)
  ·skip
   have hr : H.l (txH ix p p.path.length) = H.l root := by have q := of_decide_eq_false h2; exact Classical.byContradiction q
   refine .q 4 6 rfl rfl (fun h3 => ?_) (fun h3 => ?_)
   ·skip
    have he0 : p.en = 0 := of_decide_eq_true h3
    refine .t 2 6 rfl rfl (.lm (hdv p.it.vl) rfl) ?_
    rw [show checkV root ix p = (p.it.vl, true, true) from checkV_here hR hr he0]
    exact .z 3 6 rfl (TE.rettc rfl rfl rfl)
   ·skip
    have he0 : ¬ p.en = 0 := of_decide_eq_false h3
    refine .t 0 6 rfl rfl (.bd (hdv zeroH) rfl) ?_
    rw [show checkV root ix p = (zeroH, false, true) from checkV_no hR hr he0]
    exact .z 3 6 rfl (TE.rettc rfl rfl rfl)
end Go.Proofs.YtdjcclcejmeheaaGreat

