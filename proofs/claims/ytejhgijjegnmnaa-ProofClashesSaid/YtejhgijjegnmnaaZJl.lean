/-
  What is known.
-/
import Derived.Test.YtejhgijjegnmnaaZJk
import Derived.Test.YtejhgijjegnmnaaZFm
namespace Go.Proofs.Ytejhgijjegnmnaa
set_option linter.unusedVariables false
set_option linter.unusedSimpArgs false
open Go.RowKit Pl
theorem cf12 : cfn Try.prog 12 = true := by kernel_rfl
theorem cf13 : cfn Try.prog 13 = true := by kernel_rfl
theorem cf17 : cfn Try.prog 17 = true := by kernel_rfl
theorem cf21 : cfn Try.prog 21 = true := by kernel_rfl
theorem cf24 : cfn Try.prog 24 = true := by kernel_rfl
set_option maxRecDepth 100000 in
set_option maxHeartbeats 1600000 in
theorem known_pf : PF Try.prog 9 [] (.v (.bool true)) := by
  refine PF.enter (fn := Try.f9) Try.func9 rfl Try.ntmps9 rfl (fun w0 => ?_)
  refine .seq ?_
  refine .region ?_
  refine .step rfl (.assign rfl rfl) ?_
  refine .nil ?_
  refine .next ?_
  refine .seq ?_
  refine .region ?_
  refine .step rfl (.build (ds := entD [97] 1 2) rfl rfl sp67 rfl rfl) ?_
  refine .step rfl (.callf rfl cf30 rfl ⟨trivial, trivial⟩ (ritem_pf [97] 1 2 (by simp) (by decide) (by decide))) ?_
  refine .step rfl (.alloc 1 rfl rfl zc28 rfl) ?_
  refine .step rfl (.store rfl rfl rfl sz28 rfl rfl) ?_
  refine .nil ?_
  refine TE.obj 1 (.box 28 (itemI [97] 1 2).dv) rfl rfl ?_
  generalize itemI [97] 1 2 = x
  have cM : PC Try.prog 12 [slT It.dv 64 ([x]), .ag (hdv (x.ix))] (.ag (⟨[], 0, x⟩ : Pf).dv) := by have q := make_pc [x] x.ix (by simp); rwa [made_one] at q
  have cN : PC Try.prog 12 [slT It.dv 64 ([]), .ag (hdv (x.ix))] (.ag (⟨[], 1, zeroIt⟩ : Pf).dv) := by have q := make_pc [] x.ix (by simp); rwa [made_nil] at q
  have c1 : PC Try.prog 17 [.ag (hdv (tagH 108 [H.l x.ix, H.l x.vl])), .ag (hdv (x.ix)), .ag (⟨[], 0, x⟩ : Pf).dv] (.tp [.ag (hdv (x.vl)), .v (.bool true), .v (.bool true)]) := by have q := check_pc (tagH 108 [H.l x.ix, H.l x.vl]) x.ix (⟨[], 0, x⟩ : Pf); rwa [check_one] at q
  have c0 : PC Try.prog 17 [.ag (hdv (tagH 122 [])), .ag (hdv (x.ix)), .ag (⟨[], 1, zeroIt⟩ : Pf).dv] (.tp [.ag (hdv (zeroH)), .v (.bool false), .v (.bool true)]) := by have q := check_pc (tagH 122 []) x.ix (⟨[], 1, zeroIt⟩ : Pf); rwa [check_nil] at q
  have cR : PC Try.prog 24 [slT bdv 1 (putB (⟨[], 0, x⟩ : Pf))] (.tp [.ag (⟨[], 0, x⟩ : Pf).dv, .v (.int .i64 0)]) := by have q := read_pc (putB (⟨[], 0, x⟩ : Pf)) (by rw [putB_len]; simp); rwa [read_one] at q
  have cT : PF Try.prog 19 [.ag (hdv (x.ix)), .ag (⟨[], 0, x⟩ : Pf).dv] (.v (.bool true)) := by have q := pfright_pf x.ix (⟨[], 0, x⟩ : Pf); rwa [right_one] at q
  refine .next ?_
  refine .seq ?_
  refine .region ?_
  refine .step rfl (.ldpm (ds := x.dv) rfl rfl rfl rfl rfl rfl tk28) ?_
  refine .step rfl (.buildsl (ds := x.dv) 2 rfl rfl rfl ap32 zc28 rfl rfl rfl) ?_
  refine .step rfl (.fieldp rfl rfl rfl rfl fo28_0) ?_
  refine .step rfl (.ldpm (ds := hdv x.ix) rfl rfl rfl rfl rfl rfl tk25) ?_
  refine .frz 15 (slT It.dv 64 ([x])) rfl rfl rfl rfl ?_
  refine .step rfl (.callc rfl cf12 rfl (cM)) ?_
  refine .step rfl (.alloc 3 rfl rfl zc30 rfl) ?_
  refine .step rfl (.store rfl rfl rfl sz30 rfl rfl) ?_
  refine .nil ?_
  refine TE.obj 3 (.box 30 (Pf.dv (⟨[], 0, x⟩ : Pf))) rfl rfl ?_
  refine .next ?_
  refine .seq ?_
  refine .draw mixed [Ro.mk _ (Eff.mk (some (20, _)) []) [1], Ro.mk _ (Eff.mk (some (21, _)) []) [], Ro.mk _ (Eff.mk (some (22, _)) []) [1], Ro.mk _ (Eff.mk (some (23, _)) []) [1], Ro.mk _ (Eff.mk (some (24, _)) []) [3], Ro.mk _ (Eff.mk (some (25, _)) []) [], Ro.mk _ (Eff.mk (some (19, _)) []) [], Ro.mk _ (Eff.mk (some (26, _)) []) [], Ro.mk _ (Eff.mk (some (27, _)) []) [], Ro.mk _ (Eff.mk (some (28, _)) []) [], Ro.mk _ (Eff.mk (some (3, _)) [(4, _)]) [4], Ro.mk _ (Eff.mk none [(4, _)]) [4], Ro.mk _ (Eff.mk (some (4, _)) []) [], Ro.mk _ (Eff.mk (some (5, _)) []) []] rfl ⟨(fun _ _ => .ldpm (ds := x.dv) rfl rfl rfl rfl rfl rfl tk28), (fun _ _ => .callf rfl cf31 rfl ⟨trivial, trivial⟩ (rleaf_pf x)), (fun _ _ => .fieldp rfl rfl rfl rfl fo28_0), (fun _ _ => .ldpm (ds := hdv x.ix) rfl rfl rfl rfl rfl rfl tk25), (fun _ _ => .ldpm (ds := Pf.dv (⟨[], 0, x⟩ : Pf)) rfl rfl rfl rfl rfl rfl tk30), (fun _ _ => .callc rfl cf17 rfl (c1)), (fun _ _ => .move rfl rfl), (fun _ _ => .extract rfl rfl rfl rfl), (fun _ _ => .extract rfl rfl rfl rfl), (fun _ _ => .extract rfl rfl rfl rfl), (fun _ _ => .alloc 4 rfl rfl zc25 rfl), (fun _ _ => .store rfl rfl rfl sz25 rfl rfl), (fun _ _ => .assign rfl rfl), (fun _ _ => .assign rfl rfl), trivial⟩ (by kernel_rfl) ?_
  refine .next ?_
  refine .seq ?_
  refine .region ?_
  refine .step rfl (.fieldp rfl rfl rfl rfl fo28_0) ?_
  refine .step rfl (.ldpm (ds := hdv x.ix) rfl rfl rfl rfl rfl rfl tk25) ?_
  refine .step rfl (.callc rfl cf12 rfl (.nil1 cN)) ?_
  refine .step rfl (.alloc 5 rfl rfl zc30 rfl) ?_
  refine .step rfl (.store rfl rfl rfl sz30 rfl rfl) ?_
  refine .nil ?_
  refine TE.obj 5 (.box 30 (Pf.dv (⟨[], 1, zeroIt⟩ : Pf))) rfl rfl ?_
  refine .next ?_
  refine .seq ?_
  refine .draw mixed [Ro.mk _ (Eff.mk (some (33, _)) []) [], Ro.mk _ (Eff.mk (some (34, _)) []) [1], Ro.mk _ (Eff.mk (some (35, _)) []) [1], Ro.mk _ (Eff.mk (some (36, _)) []) [5], Ro.mk _ (Eff.mk (some (37, _)) []) [], Ro.mk _ (Eff.mk (some (32, _)) []) [], Ro.mk _ (Eff.mk (some (38, _)) []) [], Ro.mk _ (Eff.mk (some (39, _)) []) [], Ro.mk _ (Eff.mk (some (40, _)) []) [], Ro.mk _ (Eff.mk (some (7, _)) [(6, _)]) [6], Ro.mk _ (Eff.mk none [(6, _)]) [6], Ro.mk _ (Eff.mk (some (8, _)) []) [], Ro.mk _ (Eff.mk (some (9, _)) []) []] rfl ⟨(fun _ _ => .callf rfl cf32 rfl trivial (rempty_pf)), (fun _ _ => .fieldp rfl rfl rfl rfl fo28_0), (fun _ _ => .ldpm (ds := hdv x.ix) rfl rfl rfl rfl rfl rfl tk25), (fun _ _ => .ldpm (ds := Pf.dv (⟨[], 1, zeroIt⟩ : Pf)) rfl rfl rfl rfl rfl rfl tk30), (fun _ _ => .callc rfl cf17 rfl (c0)), (fun _ _ => .move rfl rfl), (fun _ _ => .extract rfl rfl rfl rfl), (fun _ _ => .extract rfl rfl rfl rfl), (fun _ _ => .extract rfl rfl rfl rfl), (fun _ _ => .alloc 6 rfl rfl zc25 rfl), (fun _ _ => .store rfl rfl rfl sz25 rfl rfl), (fun _ _ => .assign rfl rfl), (fun _ _ => .assign rfl rfl), trivial⟩ (by kernel_rfl) ?_
  refine .next ?_
  refine .seq ?_
  refine .region ?_
  refine .step rfl (.ldpm (ds := Pf.dv (⟨[], 0, x⟩ : Pf)) rfl rfl rfl rfl rfl rfl tk30) ?_
  refine .step rfl (.callf rfl cf21 rfl ⟨trivial, trivial⟩ (put_pf (⟨[], 0, x⟩ : Pf) (by simp))) ?_
  refine .step rfl (.callc rfl cf24 rfl (cR)) ?_
  refine .step rfl (.move rfl rfl) ?_
  refine .step rfl (.extract rfl rfl rfl rfl) ?_
  refine .step rfl (.extract rfl rfl rfl rfl) ?_
  refine .step rfl (.alloc 7 rfl rfl zc30 rfl) ?_
  refine .step rfl (.store rfl rfl rfl sz30 rfl rfl) ?_
  refine .step rfl (.assign rfl rfl) ?_
  refine .nil ?_
  refine TE.obj 7 (.box 30 (Pf.dv (⟨[], 0, x⟩ : Pf))) rfl rfl ?_
  refine .next ?_
  refine .seq ?_
  refine .region ?_
  refine .step rfl (.ldpm (ds := hdv x.vl) rfl rfl rfl rfl rfl rfl tk25) ?_
  refine .step rfl (.fieldp rfl rfl rfl rfl fo28_1) ?_
  refine .step rfl (.ldpm (ds := hdv x.vl) rfl rfl rfl rfl rfl rfl tk25) ?_
  refine .step rfl (.eqht (a := x.vl) (b := x.vl) (rfl) rfl rfl rfl qh25) ?_
  refine .step rfl (.move rfl rfl) ?_
  refine .go 51 rfl rfl rfl rfl (.move rfl rfl) ?_
  refine .step rfl (.pick rfl rfl rfl) ?_
  refine .step rfl (.move rfl rfl) ?_
  refine .go 54 rfl rfl rfl rfl (.move rfl rfl) ?_
  refine .step rfl (.pick rfl rfl rfl) ?_
  refine .step rfl (.move rfl rfl) ?_
  refine .go 57 rfl rfl rfl rfl (.move rfl rfl) ?_
  refine .go 57 rfl rfl rfl rfl (.un rfl rfl rfl) ?_
  refine .step rfl (.pick rfl rfl rfl) ?_
  refine .step rfl (.move rfl rfl) ?_
  refine .go 61 rfl rfl rfl rfl (.move rfl rfl) ?_
  refine .step rfl (.pick rfl rfl rfl) ?_
  refine .step rfl (.move rfl rfl) ?_
  refine .go 64 rfl rfl rfl rfl (.fieldp rfl rfl rfl rfl fo30_1) ?_
  refine .go 64 rfl rfl rfl rfl (.ldp rfl rfl rfl rfl rfl tk3) ?_
  refine .go 64 rfl rfl rfl rfl (.binv (.bool true) rfl rfl rfl rfl (rfl)) ?_
  refine .step rfl (.pick rfl rfl rfl) ?_
  refine .step rfl (.move rfl rfl) ?_
  refine .go 69 rfl rfl rfl rfl (.move rfl rfl) ?_
  refine .go 69 rfl rfl rfl rfl (.binv (.bool true) rfl rfl rfl rfl (rfl)) ?_
  refine .step rfl (.pick rfl rfl rfl) ?_
  refine .step rfl (.move rfl rfl) ?_
  refine .go 73 rfl rfl rfl rfl (.ldpm (ds := Pf.dv (⟨[], 0, x⟩ : Pf)) rfl rfl rfl rfl rfl rfl tk30) ?_
  refine .go 73 rfl rfl rfl rfl (.ldpm (ds := Pf.dv (⟨[], 0, x⟩ : Pf)) rfl rfl rfl rfl rfl rfl tk30) ?_
  refine .go 73 rfl rfl rfl rfl (.callf rfl cf13 rfl ⟨trivial, trivial, trivial⟩ (samep_pf (⟨[], 0, x⟩ : Pf) (by simp))) ?_
  refine .step rfl (.pick rfl rfl rfl) ?_
  refine .step rfl (.move rfl rfl) ?_
  refine .go 78 rfl rfl rfl rfl (.fieldp rfl rfl rfl rfl fo28_0) ?_
  refine .go 78 rfl rfl rfl rfl (.ldpm (ds := hdv x.ix) rfl rfl rfl rfl rfl rfl tk25) ?_
  refine .go 78 rfl rfl rfl rfl (.ldpm (ds := Pf.dv (⟨[], 0, x⟩ : Pf)) rfl rfl rfl rfl rfl rfl tk30) ?_
  refine .go 78 rfl rfl rfl rfl (.callf rfl cf19 rfl ⟨trivial, trivial, trivial⟩ (cT)) ?_
  refine .step rfl (.pick rfl rfl rfl) ?_
  refine .step rfl (.assign rfl rfl) ?_
  refine .nil ?_
  refine .next ?_
  refine .ret ?_
  exact TE.retf rfl rfl rfl trivial
end Go.Proofs.Ytejhgijjegnmnaa

