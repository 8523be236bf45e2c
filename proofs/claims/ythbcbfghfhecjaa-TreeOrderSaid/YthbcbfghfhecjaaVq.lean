/-
  The known tree.
-/
import Derived.Test.YthbcbfghfhecjaaVp
namespace Go.Proofs.Ythbcbfghfhecjaa
set_option linter.unusedVariables false
set_option linter.unusedSimpArgs false
open Go.RowKit Pl

theorem cf12 : cfn Try.prog 12 = true := by kernel_rfl
theorem cf27 : cfn Try.prog 27 = true := by kernel_rfl

set_option maxRecDepth 100000 in
set_option maxHeartbeats 1600000 in
theorem known_pf : PF Try.prog 7 [] (.v (.bool true)) := by
  refine PF.enter (fn := Try.f7) Try.func7 rfl Try.ntmps7 rfl (fun w0 => ?_)
  refine .seq ?_
  refine .region ?_
  refine .step rfl (.assign rfl rfl) ?_
  refine .nil ?_
  refine .next ?_
  refine .seq ?_
  refine .region ?_
  refine .step rfl (.build (ds := entD [97] 1 2) rfl rfl sp52 rfl rfl) ?_
  refine .step rfl (.callf rfl cf27 rfl ⟨trivial, trivial⟩ (item_pf [97] 1 2 (by decide) (by decide) (by decide))) ?_
  refine .step rfl (.alloc 1 rfl rfl zc35 rfl) ?_
  refine .step rfl (.store rfl rfl rfl sz35 rfl rfl) ?_
  refine .nil ?_
  refine TE.obj 1 (.box 35 (itemI [97] 1 2).dv) rfl rfl ?_
  refine .next ?_
  refine .seq ?_
  refine .draw mixed [Ro.mk _ (Eff.mk (some (4, _)) []) [], Ro.mk _ (Eff.mk (some (5, _)) []) [], Ro.mk _ (Eff.mk (some (6, _)) []) [], Ro.mk _ (Eff.mk (some (7, _)) []) [], Ro.mk _ (Eff.mk (some (8, _)) []) [1], Ro.mk _ (Eff.mk (some (9, _)) [(2, _)]) [2], Ro.mk _ (Eff.mk (some (10, _)) []) [2], Ro.mk _ (Eff.mk (some (11, _)) []) [1], Ro.mk _ (Eff.mk (some (12, _)) []) [], Ro.mk _ (Eff.mk (some (13, _)) []) [], Ro.mk _ (Eff.mk (some (14, _)) []) [], Ro.mk _ (Eff.mk (some (15, _)) []) [], Ro.mk _ (Eff.mk (some (16, _)) []) [1], Ro.mk _ (Eff.mk (some (17, _)) []) [], Ro.mk _ (Eff.mk (some (18, _)) []) [], Ro.mk _ (Eff.mk (some (19, _)) []) [], Ro.mk _ (Eff.mk (some (20, _)) []) [], Ro.mk _ (Eff.mk (some (21, _)) []) [], Ro.mk _ (Eff.mk (some (22, _)) []) [1], Ro.mk _ (Eff.mk (some (23, _)) []) [1], Ro.mk _ (Eff.mk (some (24, _)) []) [], Ro.mk _ (Eff.mk (some (25, _)) []) [], Ro.mk _ (Eff.mk (some (26, _)) []) [], Ro.mk _ (Eff.mk (some (27, _)) []) [], Ro.mk _ (Eff.mk (some (28, _)) []) [1], Ro.mk _ (Eff.mk (some (29, _)) []) [1], Ro.mk _ (Eff.mk (some (30, _)) []) [], Ro.mk _ (Eff.mk (some (31, _)) []) [], Ro.mk _ (Eff.mk (some (32, _)) []) [], Ro.mk _ (Eff.mk (some (33, _)) []) [], Ro.mk _ (Eff.mk (some (34, _)) []) [], Ro.mk _ (Eff.mk (some (35, _)) []) [], Ro.mk _ (Eff.mk (some (36, _)) []) [], Ro.mk _ (Eff.mk (some (37, _)) []) [], Ro.mk _ (Eff.mk (some (38, _)) []) [], Ro.mk _ (Eff.mk (some (39, _)) []) [], Ro.mk _ (Eff.mk (some (40, _)) []) [], Ro.mk _ (Eff.mk (some (41, _)) []) [], Ro.mk _ (Eff.mk (some (42, _)) []) [], Ro.mk _ (Eff.mk (some (43, _)) []) [], Ro.mk _ (Eff.mk (some (44, _)) []) [1], Ro.mk _ (Eff.mk (some (45, _)) []) [1], Ro.mk _ (Eff.mk (some (46, _)) []) [], Ro.mk _ (Eff.mk (some (47, _)) []) [], Ro.mk _ (Eff.mk (some (48, _)) []) [], Ro.mk _ (Eff.mk (some (0, _)) []) []] rfl ⟨(fun _ _ => .callf rfl cf12 rfl ⟨trivial, trivial⟩ (.nil1 (root_pf [] (by decide)))), (fun _ _ => .callf rfl cf22 rfl trivial (empty_pf)), (fun _ _ => .eqht (a := rootH []) (b := tagH 122 []) (root_nil) rfl rfl rfl qh24), (fun _ _ => .move rfl rfl), (.inr ⟨7, _, rfl, rfl, rfl, rfl, fun _ _ => .ldpm rfl rfl rfl rfl (show List.take 64 (List.drop 0 _) = (itemI [97] 1 2).dv from rfl) (it_len _) tk35⟩), (.inr ⟨7, _, rfl, rfl, rfl, rfl, fun _ _ => .buildsl (ds := (itemI [97] 1 2).dv) 2 rfl rfl rfl ap25 zc35 rfl rfl rfl⟩), (.inr ⟨7, _, rfl, rfl, rfl, rfl, fun _ _ => .callf rfl cf12 rfl ⟨okA_len rfl rfl, trivial⟩ (root_pf [(itemI [97] 1 2)] (by simp))⟩), (.inr ⟨7, _, rfl, rfl, rfl, rfl, fun _ _ => .ldpm rfl rfl rfl rfl (show List.take 64 (List.drop 0 _) = (itemI [97] 1 2).dv from rfl) (it_len _) tk35⟩), (.inr ⟨7, _, rfl, rfl, rfl, rfl, fun _ _ => .callf rfl cf18 rfl ⟨trivial, trivial⟩ (leaf_pf (itemI [97] 1 2))⟩), (.inr ⟨7, _, rfl, rfl, rfl, rfl, fun _ _ => .eqht (a := rootH [(itemI [97] 1 2)]) (b := tagH 108 [H.l (itemI [97] 1 2).ix, H.l (itemI [97] 1 2).vl]) (root_one _) rfl rfl rfl qh24⟩), (fun _ _ => .pick rfl rfl rfl), (fun _ _ => .move rfl rfl), (.inr ⟨15, _, rfl, rfl, rfl, rfl, fun _ _ => .ldpm rfl rfl rfl rfl (show List.take 64 (List.drop 0 _) = (itemI [97] 1 2).dv from rfl) (it_len _) tk35⟩), (.inr ⟨15, _, rfl, rfl, rfl, rfl, fun _ _ => .callf rfl cf18 rfl ⟨trivial, trivial⟩ (leaf_pf (itemI [97] 1 2))⟩), (.inr ⟨15, _, rfl, rfl, rfl, rfl, fun _ _ => .callf rfl cf22 rfl trivial (empty_pf)⟩), (.inr ⟨15, _, rfl, rfl, rfl, rfl, fun _ _ => .neht (a := tagH 108 [H.l (itemI [97] 1 2).ix, H.l (itemI [97] 1 2).vl]) (b := tagH 122 []) (leaf_ne) rfl rfl rfl qh24⟩), (fun _ _ => .pick rfl rfl rfl), (fun _ _ => .move rfl rfl), (.inr ⟨21, _, rfl, rfl, rfl, rfl, fun _ _ => .fieldp rfl rfl rfl rfl fo35_0⟩), (.inr ⟨21, _, rfl, rfl, rfl, rfl, fun _ _ => .ldpm rfl rfl rfl rfl (show _ = hdv (itemI [97] 1 2).ix from rfl) (h_len _) tk24⟩), (.inr ⟨21, _, rfl, rfl, rfl, rfl, fun _ _ => .callf rfl cf14 rfl ⟨trivial, trivial⟩ (index_pf [97] (by decide))⟩), (.inr ⟨21, _, rfl, rfl, rfl, rfl, fun _ _ => .eqht (a := (itemI [97] 1 2).ix) (b := indexH [97]) (rfl) rfl rfl rfl qh24⟩), (fun _ _ => .pick rfl rfl rfl), (fun _ _ => .move rfl rfl), (.inr ⟨27, _, rfl, rfl, rfl, rfl, fun _ _ => .fieldp rfl rfl rfl rfl fo35_1⟩), (.inr ⟨27, _, rfl, rfl, rfl, rfl, fun _ _ => .ldpm rfl rfl rfl rfl (show _ = hdv (itemI [97] 1 2).vl from rfl) (h_len _) tk24⟩), (.inr ⟨27, _, rfl, rfl, rfl, rfl, fun _ _ => .callf rfl cf16 rfl ⟨trivial, trivial, trivial⟩ (value_pf 1 2 (by decide) (by decide))⟩), (.inr ⟨27, _, rfl, rfl, rfl, rfl, fun _ _ => .eqht (a := (itemI [97] 1 2).vl) (b := valueH 1 2) (rfl) rfl rfl rfl qh24⟩), (fun _ _ => .pick rfl rfl rfl), (fun _ _ => .move rfl rfl), (.inr ⟨33, _, rfl, rfl, rfl, rfl, fun _ _ => .build (ds := hdv h40) rfl rfl sp24 rfl rfl⟩), (.inr ⟨33, _, rfl, rfl, rfl, rfl, fun _ _ => .callf rfl cf24 rfl ⟨trivial, trivial, trivial⟩ (bit_pf h40 1)⟩), (.inr ⟨33, _, rfl, rfl, rfl, rfl, fun _ _ => .binv (.bool true) rfl rfl rfl rfl (by rw [bit40]; rfl)⟩), (fun _ _ => .pick rfl rfl rfl), (fun _ _ => .move rfl rfl), (.inr ⟨38, _, rfl, rfl, rfl, rfl, fun _ _ => .build (ds := hdv h40) rfl rfl sp24 rfl rfl⟩), (.inr ⟨38, _, rfl, rfl, rfl, rfl, fun _ _ => .callf rfl cf24 rfl ⟨trivial, trivial, trivial⟩ (bit_pf h40 300)⟩), (.inr ⟨38, _, rfl, rfl, rfl, rfl, fun _ _ => .binv (.bool true) rfl rfl rfl rfl (by rw [bit40']; rfl)⟩), (fun _ _ => .pick rfl rfl rfl), (fun _ _ => .move rfl rfl), (.inr ⟨43, _, rfl, rfl, rfl, rfl, fun _ _ => .fieldp rfl rfl rfl rfl fo35_0⟩), (.inr ⟨43, _, rfl, rfl, rfl, rfl, fun _ _ => .ldpm rfl rfl rfl rfl (show _ = hdv (itemI [97] 1 2).ix from rfl) (h_len _) tk24⟩), (.inr ⟨43, _, rfl, rfl, rfl, rfl, fun _ _ => .callf rfl cf15 rfl ⟨trivial, trivial⟩ (rindex_pf [97] (by decide))⟩), (.inr ⟨43, _, rfl, rfl, rfl, rfl, fun _ _ => .eqht (a := (itemI [97] 1 2).ix) (b := indexH [97]) (rfl) rfl rfl rfl qh24⟩), (fun _ _ => .pick rfl rfl rfl), (fun _ _ => .assign rfl rfl), trivial⟩ (by kernel_rfl) ?_
  refine .next ?_
  refine .ret ?_
  exact TE.retf rfl rfl rfl trivial

end Go.Proofs.Ythbcbfghfhecjaa
