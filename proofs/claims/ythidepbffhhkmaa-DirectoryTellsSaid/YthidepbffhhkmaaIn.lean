/-
  The known directory.
-/
import Derived.Test.YthidepbffhhkmaaIm
namespace Go.Proofs.Ythidepbffhhkmaa
set_option linter.unusedVariables false
set_option linter.unusedSimpArgs false
open Go.RowKit Pl

theorem cf10 : cfn Try.prog 10 = true := by kernel_rfl
theorem cf15 : cfn Try.prog 15 = true := by kernel_rfl
theorem cf18 : cfn Try.prog 18 = true := by kernel_rfl

def k0 : Kn := ⟨[97], 1, 5, 1⟩
def e0 : En := ⟨[97], 1, 5⟩
theorem e0_fit : enFit e0 := ⟨by decide, by decide, by decide⟩
theorem known_1 : addP [] 1 [e0] = ([k0], true) := by kernel_rfl
theorem known_2 : addP [k0] 2 [e0] = ([k0], false) := by kernel_rfl
theorem known_3 : latP [k0] [97] = (k0, true) := by kernel_rfl
theorem known_4 : rightK [k0] = true := by kernel_rfl
theorem known_5 : rightK [zeroK] = false := by kernel_rfl
theorem setA_one (x : It) : setA [] [x] = [x] := by rw [setA_eq]; exact setR_one x
theorem setA_nil : setA [] [] = [] := by rw [setA_eq]; rfl
theorem knIn_k0 : knIn [k0] := fun k hk => by rw [List.mem_singleton] at hk; subst hk; exact ⟨by decide, by decide, by decide⟩

set_option maxRecDepth 100000 in
set_option maxHeartbeats 1600000 in
theorem known_pf : PF Try.prog 8 [] (.v (.bool true)) := by
  have k1 : PC Try.prog 15 [slT Kn.dv 4 [], .v (.int .i64 1), slT En.dv 3 [e0]] (.tp [slT Kn.dv 4 [k0], .v (.bool true)]) := by have q := addp_pc [] 1 [e0] (by decide) (by decide); rwa [known_1] at q
  have k2 : PC Try.prog 15 [slT Kn.dv 4 [k0], .v (.int .i64 2), slT En.dv 3 [e0]] (.tp [slT Kn.dv 4 [k0], .v (.bool false)]) := by have q := addp_pc [k0] 2 [e0] (by decide) (by decide); rwa [known_2] at q
  have k3 : PF Try.prog 21 [slT Kn.dv 4 [k0], .v (strV [97])] (.tp [.ag k0.dv, .v (.bool true)]) := by have q := latest_any [k0] [97] (by decide); rwa [known_3] at q
  have k4 : PF Try.prog 18 [slT Kn.dv 4 [k0]] (.v (.bool true)) := by have q := right_pf [k0] (by decide); rwa [known_4] at q
  have k5 : PF Try.prog 18 [slT Kn.dv 4 [zeroK]] (.v (.bool false)) := by have q := right_pf [zeroK] (by decide); rwa [known_5] at q
  have k6 : PC Try.prog 10 [slT Kn.dv 4 [k0], .v (.int .i64 1)] (slT It.dv 64 [itemI [97] 1 5]) := by have q := items_pc [k0] 1 (by decide) knIn_k0; rwa [show itsK 1 [k0] = [itemI [97] 1 5] from rfl, setA_one] at q
  have k7 : PC Try.prog 10 [slT Kn.dv 4 [k0], .v (.int .i64 0)] (slT It.dv 64 []) := by have q := items_pc [k0] 0 (by decide) knIn_k0; rwa [show itsK 0 [k0] = [] from rfl, setA_nil] at q
  refine PF.enter (fn := Try.f8) Try.func8 rfl Try.ntmps8 rfl (fun w0 => ?_)
  refine .seq ?_
  refine .region ?_
  refine .step rfl (.assign rfl rfl) ?_
  refine .nil ?_
  refine .next ?_
  refine .seq ?_
  refine .region ?_
  refine .step rfl (.build (ds := e0.dv) rfl rfl sp30 rfl rfl) ?_
  refine .step rfl (.alloc 1 rfl rfl zc30 rfl) ?_
  refine .step rfl (.store rfl rfl rfl sz30 rfl rfl) ?_
  refine .nil ?_
  refine .next ?_
  refine .seq ?_
  refine .region ?_
  refine .step rfl (.ldpm rfl rfl rfl rfl (show _ = e0.dv from rfl) (rfl) tk30) ?_
  refine .step rfl (.buildsl (ds := e0.dv) 2 rfl rfl rfl ap39 zc30 rfl rfl rfl) ?_
  refine .frz 11 (slT En.dv 3 [e0]) rfl rfl rfl rfl ?_
  refine .step rfl (.callc rfl cf15 rfl (.nil1 k1)) ?_
  refine .step rfl (.move rfl rfl) ?_
  refine .step rfl (.extract rfl rfl rfl rfl) ?_
  refine .step rfl (.extract rfl rfl rfl rfl) ?_
  refine .step rfl (.assign rfl rfl) ?_
  refine .step rfl (.assign rfl rfl) ?_
  refine .nil ?_
  refine .next ?_
  refine .seq ?_
  refine .region ?_
  refine .step rfl (.move rfl rfl) ?_
  refine .step rfl (.ldpm rfl rfl rfl rfl (show _ = e0.dv from rfl) (rfl) tk30) ?_
  refine .step rfl (.buildsl (ds := e0.dv) 3 rfl rfl rfl ap39 zc30 rfl rfl rfl) ?_
  refine .frz 18 (slT En.dv 3 [e0]) rfl rfl rfl rfl ?_
  refine .step rfl (.callc rfl cf15 rfl (k2)) ?_
  refine .step rfl (.move rfl rfl) ?_
  refine .step rfl (.extract rfl rfl rfl rfl) ?_
  refine .step rfl (.extract rfl rfl rfl rfl) ?_
  refine .step rfl (.assign rfl rfl) ?_
  refine .step rfl (.assign rfl rfl) ?_
  refine .nil ?_
  refine .next ?_
  refine .seq ?_
  refine .region ?_
  refine .step rfl (.move rfl rfl) ?_
  refine .step rfl (.callf rfl cf21 rfl ⟨trivial, trivial, trivial⟩ (k3)) ?_
  refine .step rfl (.move rfl rfl) ?_
  refine .step rfl (.extract rfl rfl rfl rfl) ?_
  refine .step rfl (.extract rfl rfl rfl rfl) ?_
  refine .step rfl (.alloc 4 rfl rfl zc32 rfl) ?_
  refine .step rfl (.store rfl rfl rfl sz32 rfl rfl) ?_
  refine .step rfl (.assign rfl rfl) ?_
  refine .nil ?_
  refine .next ?_
  refine .seq ?_
  refine .region ?_
  refine .step rfl (.move rfl rfl) ?_
  refine .step rfl (.move rfl rfl) ?_
  refine .go 28 rfl rfl rfl rfl (.move rfl rfl) ?_
  refine .go 28 rfl rfl rfl rfl (.un rfl rfl rfl) ?_
  refine .step rfl (.pick rfl rfl rfl) ?_
  refine .step rfl (.move rfl rfl) ?_
  refine .go 32 rfl rfl rfl rfl (.move rfl rfl) ?_
  refine .step rfl (.pick rfl rfl rfl) ?_
  refine .step rfl (.move rfl rfl) ?_
  refine .go 35 rfl rfl rfl rfl (.fieldp rfl rfl rfl rfl fo32_0) ?_
  refine .go 35 rfl rfl rfl rfl (.ldpm rfl rfl rfl rfl (show _ = e0.dv from rfl) (rfl) tk30) ?_
  refine .go 35 rfl rfl rfl rfl (.ldpm rfl rfl rfl rfl (show _ = e0.dv from rfl) (rfl) tk30) ?_
  refine .go 35 rfl rfl rfl rfl (.eqen (a := e0) (b := e0) true (by simp) e0_fit e0_fit rfl rfl rfl qe30) ?_
  refine .step rfl (.pick rfl rfl rfl) ?_
  refine .step rfl (.move rfl rfl) ?_
  refine .go 41 rfl rfl rfl rfl (.fieldp rfl rfl rfl rfl fo32_1) ?_
  refine .go 41 rfl rfl rfl rfl (.ldp rfl rfl rfl rfl rfl tk3) ?_
  refine .go 41 rfl rfl rfl rfl (.binv (.bool true) rfl rfl rfl rfl (rfl)) ?_
  refine .step rfl (.pick rfl rfl rfl) ?_
  refine .step rfl (.move rfl rfl) ?_
  refine .go 46 rfl rfl rfl rfl (.move rfl rfl) ?_
  refine .go 46 rfl rfl rfl rfl (.callf rfl cf18 rfl ⟨trivial, trivial⟩ (k4)) ?_
  refine .step rfl (.pick rfl rfl rfl) ?_
  refine .step rfl (.move rfl rfl) ?_
  refine .go 50 rfl rfl rfl rfl (.move rfl rfl) ?_
  refine .go 50 rfl rfl rfl rfl (.callc rfl cf10 rfl (k6)) ?_
  refine .go 50 rfl rfl rfl rfl (.len rfl rfl ⟨_, _, rfl⟩ is26) ?_
  refine .go 50 rfl rfl rfl rfl (.binv (.bool true) rfl rfl rfl rfl (rfl)) ?_
  refine .step rfl (.pick rfl rfl rfl) ?_
  refine .step rfl (.move rfl rfl) ?_
  refine .go 56 rfl rfl rfl rfl (.move rfl rfl) ?_
  refine .go 56 rfl rfl rfl rfl (.callc rfl cf10 rfl (k7)) ?_
  refine .go 56 rfl rfl rfl rfl (.len rfl rfl ⟨_, _, rfl⟩ is26) ?_
  refine .go 56 rfl rfl rfl rfl (.binv (.bool true) rfl rfl rfl rfl (rfl)) ?_
  refine .step rfl (.pick rfl rfl rfl) ?_
  refine .step rfl (.move rfl rfl) ?_
  refine .go 62 rfl rfl rfl rfl (.build (ds := zeroK.dv) rfl rfl sp32 rfl rfl) ?_
  refine .go 62 rfl rfl rfl rfl (.buildsl (ds := zeroK.dv) 5 rfl rfl rfl ap24 zc32 rfl rfl rfl) ?_
  refine .go 62 rfl rfl rfl rfl (.callf rfl cf18 rfl ⟨okA_len rfl rfl, trivial⟩ (k5)) ?_
  refine .go 62 rfl rfl rfl rfl (.un rfl rfl rfl) ?_
  refine .step rfl (.pick rfl rfl rfl) ?_
  refine .step rfl (.assign rfl rfl) ?_
  refine .nil ?_
  refine .next ?_
  refine .ret ?_
  exact TE.retf rfl rfl rfl trivial

end Go.Proofs.Ythidepbffhhkmaa
