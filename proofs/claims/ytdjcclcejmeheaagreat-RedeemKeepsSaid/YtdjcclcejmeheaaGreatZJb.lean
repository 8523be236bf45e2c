import Derived.Test.YtdjcclcejmeheaaGreatZJa
import Derived.Test.YtdjcclcejmeheaaGreatZEv
/-
  The program's texts.
-/
namespace Go.Proofs.YtdjcclcejmeheaaGreat
set_option linter.unusedVariables false
set_option linter.unusedSimpArgs false
open Go.RowKit Pl
set_option maxRecDepth 100000
set_option maxHeartbeats 3200000
theorem ap133 : apt Tryz.prog 133 = some (22, 1, 24) := by kernel_rfl
theorem cf121 : cfn Tryz.prog 121 = true := by kernel_rfl
theorem cf122 : cfn Tryz.prog 122 = true := by kernel_rfl
theorem cf123 : cfn Tryz.prog 123 = true := by kernel_rfl
theorem cf124 : cfn Tryz.prog 124 = true := by kernel_rfl
theorem cf125 : cfn Tryz.prog 125 = true := by kernel_rfl
theorem et133 : elt Tryz.prog 133 = some (22, 1) := by kernel_rfl
theorem fo79_0 : fo Tryz.prog 79 0 = some 0 := by kernel_rfl
theorem fo79_1 : fo Tryz.prog 79 1 = some 32 := by kernel_rfl
theorem fo81_0 : fo Tryz.prog 81 0 = some 0 := by kernel_rfl
theorem fo81_1 : fo Tryz.prog 81 1 = some 1 := by kernel_rfl
theorem fo81_2 : fo Tryz.prog 81 2 = some 2 := by kernel_rfl
theorem mixed : Tryz.prog.follows .mixedOrders = true := by kernel_rfl
theorem sz133 : szt Tryz.prog 133 = some 1 := by kernel_rfl
theorem sz41 : szt Tryz.prog 41 = some 32 := by kernel_rfl
theorem tk133 : tyk Tryz.prog 133 = some none := by kernel_rfl
theorem tk3 : tyk Tryz.prog 3 = some none := by kernel_rfl
theorem tk52 : tyk Tryz.prog 52 = some none := by kernel_rfl
theorem zc133 : zc Tryz.prog 133 = some [.slice none 0 0] := by kernel_rfl
theorem zc22 : zc Tryz.prog 22 = some [.slice none 0 0] := by kernel_rfl
theorem zc41 : zc Tryz.prog 41 = some [.int .u8 0, .int .u8 0, .int .u8 0, .int .u8 0, .int .u8 0, .int .u8 0, .int .u8 0, .int .u8 0, .int .u8 0, .int .u8 0, .int .u8 0, .int .u8 0, .int .u8 0, .int .u8 0, .int .u8 0, .int .u8 0, .int .u8 0, .int .u8 0, .int .u8 0, .int .u8 0, .int .u8 0, .int .u8 0, .int .u8 0, .int .u8 0, .int .u8 0, .int .u8 0, .int .u8 0, .int .u8 0, .int .u8 0, .int .u8 0, .int .u8 0, .int .u8 0] := by kernel_rfl
set_option maxRecDepth 100000 in
set_option maxHeartbeats 1600000 in
theorem texts_pc (ix : H) (p : Pf) (hp : p.path.length ≤ 1000000) : PC Tryz.prog 78 [.ag (hdv (ix)), .ag p.dv] (.tp [slT ldv 1 (txL ix p p.path.length).reverse, .ag (hdv (txH ix p p.path.length))]) := by
  refine PC.enterF (fn := Tryz.f78) Tryz.func78 rfl Tryz.ntmps78 rfl (fun w0 K0 => ?_)
  refine .seq ?_
  refine .region open_wide rfl ?_
  refine .step rfl (.box 1 rfl rfl rfl rfl) ?_
  refine .step rfl (.box 2 rfl rfl rfl rfl) ?_
  refine .step rfl (.assign rfl rfl) ?_
  refine .step rfl (.alloc 3 rfl rfl zc41 rfl) ?_
  refine .nil ?_
  refine TE.frzb 2 rfl rfl rfl rfl ?_
  refine TE.frzb 3 rfl rfl rfl rfl ?_
  refine .nextF ?_
  refine .seq ?_
  refine .region open_wide rfl ?_
  refine .step rfl (.callf rfl cf122 rfl ⟨trivial, trivial, trivial⟩ (.nil2 (text_pf 122 [] (by decide) (by decide) text0_len))) ?_
  refine .step rfl (.buildsl 4 rfl rfl rfl ap133 zc22 rfl rfl rfl) ?_
  refine .step rfl (.alloc 5 rfl rfl zc133 rfl) ?_
  refine .name 14 rfl rfl (fun u0 u0c => ?_)
  refine .step rfl (.store rfl rfl rfl sz133 rfl rfl) ?_
  refine .nil ?_
  refine .nextF ?_
  refine .seq ?_
  refine .seq ?_
  refine .region open_wide rfl ?_
  refine .step rfl (.fielde rfl rfl rfl fo81_1) ?_
  refine .step rfl (.lde rfl rfl rfl rfl tk3) ?_
  refine .step rfl (.bin rfl rfl rfl rfl) ?_
  refine .nil ?_
  refine .nextF ?_
  refine .cond open_wide rfl (fun h1 => ?_) (fun h1 => ?_)
  ·skip
   have he : ¬ p.en = 1 := by simpa using h1
   have hE : textB 108 [H.l p.it.ix, H.l p.it.vl] = endT p := by unfold endT; rw [if_neg he]
   refine .draw open_wide rfl mixed [Ro.mk _ (Eff.mk (some (18, _)) []) [5], Ro.mk _ (Eff.mk (some (19, _)) []) [], Ro.mk _ (Eff.mk (some (20, _)) []) [], Ro.mk _ (Eff.mk (some (21, _)) []) [], Ro.mk _ (Eff.mk (some (22, _)) []) [], Ro.mk _ (Eff.mk (some (23, _)) []) [], Ro.mk _ (Eff.mk (some (24, _)) []) [], Ro.mk _ (Eff.mk (some (25, _)) [(6, _)]) [6], Ro.mk _ (Eff.mk (some (26, _)) []) [6], Ro.mk _ (Eff.mk (some (27, _)) []) [4], Ro.mk _ (Eff.mk none [(4, _)]) [4]] rfl ⟨(fun _ _ => .ldp rfl rfl rfl rfl rfl tk133), (fun _ _ => .fielde rfl rfl rfl fo81_2), (fun _ _ => .fielde rfl rfl rfl fo79_0), (fun _ _ => .slicee rfl rfl rfl ar41 (Nat.le_of_ble_eq_true rfl) (by decide)), (fun _ _ => .fielde rfl rfl rfl fo81_2), (fun _ _ => .fielde rfl rfl rfl fo79_1), (fun _ _ => .slicee rfl rfl rfl ar41 (Nat.le_of_ble_eq_true rfl) (by decide)), (fun _ _ => .buildsl 6 rfl rfl rfl ap133 zc22 rfl rfl rfl), (fun _ _ => .callf rfl cf122 rfl ⟨trivial, okA_len rfl rfl, trivial⟩ (text_pf 108 [H.l p.it.ix, H.l p.it.vl] (by decide) (by decide) (text2_len _ _))), (fun _ _ => .idxn (g := 4) rfl rfl rfl rfl et133 (by decide) (by decide)), (fun _ _ => .storeg rfl rfl rfl rfl sz22 rfl (Nat.le_of_ble_eq_true rfl)), trivial⟩ (by kernel_rfl) ?_
   rw [hE]
   refine .nextF ?_
   refine .seq ?_
   refine .region open_wide rfl ?_
   refine .step rfl (.ldp rfl rfl rfl rfl rfl tk133) ?_
   refine .step rfl (.idxn (g := 4) rfl rfl rfl rfl et133 (by decide) (by decide)) ?_
   refine .step rfl (.ldp rfl rfl rfl rfl rfl tk22) ?_
   refine .step rfl (.callf rfl cf123 rfl ⟨trivial, trivial⟩ (sum_pf (endT p) (endT_len p))) ?_
   refine .step rfl (.alloc 7 rfl rfl zc41 rfl) ?_
   refine .step rfl (.store rfl rfl rfl sz41 rfl rfl) ?_
   refine .nil ?_
   refine .nextF ?_
   refine .seq ?_
   refine .seq ?_
   refine .region open_wide rfl ?_
   refine .step rfl (.fielde rfl rfl rfl fo81_0) ?_
   refine .step rfl (.lde rfl rfl rfl rfl tk52) ?_
   refine .step rfl (.callc rfl cf124 rfl (backward_pc p.path)) ?_
   refine .nil ?_
   refine .nextF ?_
   refine .block ?_
   refine TCF.back (path := p.path) (by omega) 8 9 (by decide) (fun (x : Option Addr × Nat) (k : Nat) => [(2, .d (.el (hdv ix))), (5, .ptr 3 0), (6, .ptr 5 0), (7, .ptr 7 0), (34, .d (.fn (.func 149) [] [.el [slT hdv 32 p.path]]))]) (fun (x : Option Addr × Nat) (k : Nat) => [(3, .box 41 [.v (.int .u8 0), .v (.int .u8 0), .v (.int .u8 0), .v (.int .u8 0), .v (.int .u8 0), .v (.int .u8 0), .v (.int .u8 0), .v (.int .u8 0), .v (.int .u8 0), .v (.int .u8 0), .v (.int .u8 0), .v (.int .u8 0), .v (.int .u8 0), .v (.int .u8 0), .v (.int .u8 0), .v (.int .u8 0), .v (.int .u8 0), .v (.int .u8 0), .v (.int .u8 0), .v (.int .u8 0), .v (.int .u8 0), .v (.int .u8 0), .v (.int .u8 0), .v (.int .u8 0), .v (.int .u8 0), .v (.int .u8 0), .v (.int .u8 0), .v (.int .u8 0), .v (.int .u8 0), .v (.int .u8 0), .v (.int .u8 0), .v (.int .u8 0)]), (5, .box 133 [.v (.slice x.1 (k + 1 : Nat) x.2)]), (4, .nrow (.slice x.1 (k + 1 : Nat) x.2) (k + 1) 22 1 ((txL ix p k).flatMap ldv)), (7, .box 41 (hdv (txH ix p k)))]) [2, 5, 6, 7, 34] (u0, u0c) ⟨⟨rfl, rfl⟩, ⟨rfl, rfl⟩, ⟨rfl, rfl⟩, ⟨rfl, rfl⟩, ⟨rfl, rfl⟩, trivial⟩ ⟨.inr rfl, .inr rfl, .inr rfl, .inr rfl, trivial⟩ (fun x k t' X hX => ls_mem hX) rfl rfl (by decide) rfl rfl (fun _ _ => rfl) (fun _ _ => rfl) (fun _ _ => rfl) (fun Fc vc A Bq oD oR oB x k hk hj hOp hend hA => ?_) (fun D lr xr x => ?_)
   ·skip
    obtain ⟨o, ho⟩ : ∃ o, p.path[p.path.length - 1 - k] = o := ⟨_, rfl⟩
    rw [ho]
    refine .seq ?_
    refine .region hOp rfl ?_
    refine .step rfl (.assign rfl rfl) ?_
    refine .nil ?_
    refine .nextF ?_
    refine .region hOp rfl ?_
    refine .step rfl (.alloc 10 rfl rfl zc41 rfl) ?_
    refine .step rfl (.store rfl rfl rfl sz41 rfl rfl) ?_
    refine .nil ?_
    refine TE.midF (hA _ _ rfl ?_)
    refine .block ?_
    refine .seq ?_
    refine .draw hOp rfl mixed [Ro.mk _ (Eff.mk (some (37, _)) []) [7], Ro.mk _ (Eff.mk (some (38, _)) []) [10], Ro.mk _ (Eff.mk (some (10, _)) [(11, _)]) [11], Ro.mk _ (Eff.mk (some (11, _)) [(12, _)]) [12], Ro.mk _ (Eff.mk none [(11, _)]) [11], Ro.mk _ (Eff.mk none [(12, _)]) [12]] rfl ⟨(fun _ _ => .ldpm (ds := hdv (txH ix p k)) rfl rfl rfl rfl rfl rfl tk41), (fun _ _ => .ldpm (ds := hdv o) rfl rfl rfl rfl rfl rfl tk41), (fun _ _ => .alloc 11 rfl rfl zc41 rfl), (fun _ _ => .alloc 12 rfl rfl zc41 rfl), (fun _ _ => .store rfl rfl rfl sz41 rfl rfl), (fun _ _ => .store rfl rfl rfl sz41 rfl rfl), trivial⟩ (by kernel_rfl) ?_
    refine TE.obj 11 (.box 41 (hdv (txH ix p k))) rfl rfl ?_
    refine TE.obj 12 (.box 41 (hdv o)) rfl rfl ?_
    refine .nextF ?_
    refine .seq ?_
    refine .seq ?_
    refine .region hOp rfl ?_
    refine .step rfl (.ldem (ds := hdv ix) rfl rfl rfl rfl rfl tk41) ?_
    refine .step rfl (.move rfl rfl) ?_
    refine .step rfl (.callf rfl cf121 rfl ⟨trivial, trivial, trivial⟩ (bit_pf ix (((p.path.length - 1 - k) : Nat) : Int))) ?_
    refine .step rfl (.bin rfl rfl rfl rfl) ?_
    refine .nil ?_
    refine .nextF ?_
    refine .cond hOp rfl (fun h2 => ?_) (fun h2 => ?_)
    ·skip
     have hb : bitI ix (((p.path.length - 1 - k) : Nat) : Int) = 1 := of_decide_eq_true h2
     refine .region hOp rfl ?_
     refine .step rfl (.ldpm (ds := hdv o) rfl rfl rfl rfl rfl rfl tk41) ?_
     refine .step rfl (.ldpm (ds := hdv (txH ix p k)) rfl rfl rfl rfl rfl rfl tk41) ?_
     refine .step rfl (.store rfl rfl rfl sz41 rfl rfl) ?_
     refine .step rfl (.store rfl rfl rfl sz41 rfl rfl) ?_
     refine .nil ?_
     refine TE.obj 11 (.box 41 (hdv o)) rfl rfl ?_
     refine TE.obj 12 (.box 41 (hdv (txH ix p k))) rfl rfl ?_
     refine .nextF ?_
     refine .seq ?_
     refine TCF.map (fun a w h => reps_freezeB 10 rfl rfl rfl rfl h) ?_
     refine TCF.map (fun a w h => reps_freezeB 11 rfl rfl rfl rfl h) ?_
     refine .draw hOp rfl mixed [Ro.mk _ (Eff.mk (some (45, _)) []) [], Ro.mk _ (Eff.mk (some (46, _)) []) [], Ro.mk _ (Eff.mk (some (47, _)) [(13, _)]) [13], Ro.mk _ (Eff.mk (some (48, _)) []) [13], Ro.mk _ (Eff.mk (some (12, _)) []) []] rfl ⟨(fun _ _ => .slicee rfl rfl rfl ar41 (Nat.le_of_ble_eq_true rfl) (by decide)), (fun _ _ => .slicee rfl rfl rfl ar41 (Nat.le_of_ble_eq_true rfl) (by decide)), (fun _ _ => .buildsl 13 rfl rfl rfl ap133 zc22 rfl rfl rfl), (fun _ _ => .callf rfl cf122 rfl ⟨trivial, okA_len rfl rfl, trivial⟩ (text_pf 110 [H.l o, H.l (txH ix p k)] (by decide) (by decide) (text2_len _ _))), (fun _ _ => .assign rfl rfl), trivial⟩ (by kernel_rfl) ?_
     rw [show textB 110 [H.l o, H.l (txH ix p k)] = (stepT ix o (txH ix p k) (p.path.length - 1 - k)) by unfold stepT; rw [if_pos hb]]
     refine .nextF ?_
     refine .region hOp rfl ?_
     refine .step rfl (.ldp rfl rfl rfl rfl rfl tk133) ?_
     refine .step rfl (.move rfl rfl) ?_
     refine .step rfl (.buildsl 14 rfl rfl rfl ap133 zc22 rfl rfl rfl) ?_
     refine .asow 49 4 rfl rfl ?_
     refine .unn 4 rfl ?_
     refine .step rfl (.append 15 rfl rfl rfl (ldv_cells _ _ (txL_len k (by omega))) rfl ap133 rfl rfl (okA_len rfl rfl) rfl (by omega) (by omega)) ?_
     refine .step rfl (.move rfl rfl) ?_
     refine .step rfl (.callf rfl cf123 rfl ⟨trivial, trivial⟩ (sum_pf (stepT ix o (txH ix p k) (p.path.length - 1 - k)) (stepT_len _ _ _ _))) ?_
     refine .name 52 rfl rfl (fun u1 u1c => ?_)
     refine .step rfl (.store rfl rfl rfl sz133 rfl rfl) ?_
     refine .step rfl (.store rfl rfl rfl sz41 rfl rfl) ?_
     refine .nil ?_
     refine TE.blkF ?_
     refine TE.obj 15 (.nrow (.slice u1 (k + 1 + 1 : Nat) u1c) (k + 1 + 1) 22 1 ((txL ix p (k + 1)).flatMap ldv)) rfl (by rw [txL_step hj, List.flatMap_append, ho]; rfl) ?_
     refine TE.obj 7 (.box 41 (hdv (txH ix p (k + 1)))) rfl (by rw [txH_step hj, ho]; rfl) ?_
     exact TE.weakF (swp 4 15) (swp_inj 4 15) (hend (u1, u1c)) ⟨⟨rfl, rfl⟩, ⟨rfl, rfl⟩, ⟨rfl, rfl⟩, ⟨rfl, rfl⟩, ⟨rfl, rfl⟩, trivial⟩ ⟨.inr rfl, .inr rfl, .inr rfl, .inr rfl, .inr rfl, .inr rfl, trivial⟩
    ·skip
     have hb : ¬ bitI ix (((p.path.length - 1 - k) : Nat) : Int) = 1 := of_decide_eq_false h2
     refine .skip hOp ?_
     refine .nextF ?_
     refine .seq ?_
     refine TCF.map (fun a w h => reps_freezeB 10 rfl rfl rfl rfl h) ?_
     refine TCF.map (fun a w h => reps_freezeB 11 rfl rfl rfl rfl h) ?_
     refine .draw hOp rfl mixed [Ro.mk _ (Eff.mk (some (45, _)) []) [], Ro.mk _ (Eff.mk (some (46, _)) []) [], Ro.mk _ (Eff.mk (some (47, _)) [(16, _)]) [16], Ro.mk _ (Eff.mk (some (48, _)) []) [16], Ro.mk _ (Eff.mk (some (12, _)) []) []] rfl ⟨(fun _ _ => .slicee rfl rfl rfl ar41 (Nat.le_of_ble_eq_true rfl) (by decide)), (fun _ _ => .slicee rfl rfl rfl ar41 (Nat.le_of_ble_eq_true rfl) (by decide)), (fun _ _ => .buildsl 16 rfl rfl rfl ap133 zc22 rfl rfl rfl), (fun _ _ => .callf rfl cf122 rfl ⟨trivial, okA_len rfl rfl, trivial⟩ (text_pf 110 [H.l (txH ix p k), H.l o] (by decide) (by decide) (text2_len _ _))), (fun _ _ => .assign rfl rfl), trivial⟩ (by kernel_rfl) ?_
     rw [show textB 110 [H.l (txH ix p k), H.l o] = (stepT ix o (txH ix p k) (p.path.length - 1 - k)) by unfold stepT; rw [if_neg hb]]
     refine .nextF ?_
     refine .region hOp rfl ?_
     refine .step rfl (.ldp rfl rfl rfl rfl rfl tk133) ?_
     refine .step rfl (.move rfl rfl) ?_
     refine .step rfl (.buildsl 17 rfl rfl rfl ap133 zc22 rfl rfl rfl) ?_
     refine .asow 49 4 rfl rfl ?_
     refine .unn 4 rfl ?_
     refine .step rfl (.append 18 rfl rfl rfl (ldv_cells _ _ (txL_len k (by omega))) rfl ap133 rfl rfl (okA_len rfl rfl) rfl (by omega) (by omega)) ?_
     refine .step rfl (.move rfl rfl) ?_
     refine .step rfl (.callf rfl cf123 rfl ⟨trivial, trivial⟩ (sum_pf (stepT ix o (txH ix p k) (p.path.length - 1 - k)) (stepT_len _ _ _ _))) ?_
     refine .name 52 rfl rfl (fun u1 u1c => ?_)
     refine .step rfl (.store rfl rfl rfl sz133 rfl rfl) ?_
     refine .step rfl (.store rfl rfl rfl sz41 rfl rfl) ?_
     refine .nil ?_
     refine TE.blkF ?_
     refine TE.obj 18 (.nrow (.slice u1 (k + 1 + 1 : Nat) u1c) (k + 1 + 1) 22 1 ((txL ix p (k + 1)).flatMap ldv)) rfl (by rw [txL_step hj, List.flatMap_append, ho]; rfl) ?_
     refine TE.obj 7 (.box 41 (hdv (txH ix p (k + 1)))) rfl (by rw [txH_step hj, ho]; rfl) ?_
     exact TE.weakF (swp 4 18) (swp_inj 4 18) (hend (u1, u1c)) ⟨⟨rfl, rfl⟩, ⟨rfl, rfl⟩, ⟨rfl, rfl⟩, ⟨rfl, rfl⟩, ⟨rfl, rfl⟩, trivial⟩ ⟨.inr rfl, .inr rfl, .inr rfl, .inr rfl, .inr rfl, .inr rfl, trivial⟩
   ·skip
    refine TE.blkF ?_
    refine .nextF ?_
    refine .seq ?_
    have cR : PM Tryz.prog 125 [.ow 0 (p.path.length + 1) 1] (.mrow 0 22 1 ((txL ix p p.path.length).flatMap ldv)) (.mrow 0 22 1 ((txL ix p p.path.length).reverse.flatMap ldv)) (.d (.tp [])) := by have q := revL_pm (txL ix p p.path.length) (by rw [txL_len _ (Nat.le_refl _)]; omega); rwa [txL_len _ (Nat.le_refl _)] at q
    refine .region open_wide rfl ?_
    refine .step rfl (.ldp rfl rfl rfl rfl rfl tk133) ?_
    refine .asow 55 4 rfl rfl ?_
    refine .step rfl (.callmn 4 rfl cf125 rfl rfl cR) ?_
    refine .nil ?_
    refine .nextF ?_
    refine .seq ?_
    refine .draw open_wide rfl mixed [Ro.mk _ (Eff.mk (some (57, _)) []) [5], Ro.mk _ (Eff.mk (some (58, _)) []) [7], Ro.mk _ (Eff.mk (some (4, _)) []) [], Ro.mk _ (Eff.mk none [(3, _)]) [3]] rfl ⟨(fun _ _ => .ldp rfl rfl rfl rfl rfl tk133), (fun _ _ => .ldpm (ds := hdv (txH ix p p.path.length)) rfl rfl rfl rfl rfl rfl tk41), (fun _ _ => .assign rfl rfl), (fun _ _ => .store rfl rfl rfl sz41 rfl rfl), trivial⟩ (by kernel_rfl) ?_
    refine TE.frzn 4 4 (slT ldv 1 (txL ix p p.path.length).reverse) rfl rfl (ldv_cells _ _ (by rw [List.length_reverse]; exact txL_len _ (Nat.le_refl _))) (by unfold slT; rw [List.length_reverse, txL_len _ (Nat.le_refl _)]) ?_
    refine .nextF ?_
    refine .ret open_wide ?_
    refine TE.leaveF (fn := Tryz.f78) (gD := 8) (by rfl) ?_
    exact TE.rettc rfl rfl rfl
  ·skip
   have he : p.en = 1 := by simpa using h1
   have hE : textB 122 [] = endT p := by unfold endT; rw [if_pos he]
   rw [hE]
   refine .skip open_wide ?_
   refine .nextF ?_
   refine .seq ?_
   refine .region open_wide rfl ?_
   refine .step rfl (.ldp rfl rfl rfl rfl rfl tk133) ?_
   refine .step rfl (.idxn (g := 4) rfl rfl rfl rfl et133 (by decide) (by decide)) ?_
   refine .step rfl (.ldp rfl rfl rfl rfl rfl tk22) ?_
   refine .step rfl (.callf rfl cf123 rfl ⟨trivial, trivial⟩ (sum_pf (endT p) (endT_len p))) ?_
   refine .step rfl (.alloc 19 rfl rfl zc41 rfl) ?_
   refine .step rfl (.store rfl rfl rfl sz41 rfl rfl) ?_
   refine .nil ?_
   refine .nextF ?_
   refine .seq ?_
   refine .seq ?_
   refine .region open_wide rfl ?_
   refine .step rfl (.fielde rfl rfl rfl fo81_0) ?_
   refine .step rfl (.lde rfl rfl rfl rfl tk52) ?_
   refine .step rfl (.callc rfl cf124 rfl (backward_pc p.path)) ?_
   refine .nil ?_
   refine .nextF ?_
   refine .block ?_
   refine TCF.back (path := p.path) (by omega) 20 21 (by decide) (fun (x : Option Addr × Nat) (k : Nat) => [(2, .d (.el (hdv ix))), (5, .ptr 3 0), (6, .ptr 5 0), (7, .ptr 19 0), (34, .d (.fn (.func 149) [] [.el [slT hdv 32 p.path]]))]) (fun (x : Option Addr × Nat) (k : Nat) => [(3, .box 41 [.v (.int .u8 0), .v (.int .u8 0), .v (.int .u8 0), .v (.int .u8 0), .v (.int .u8 0), .v (.int .u8 0), .v (.int .u8 0), .v (.int .u8 0), .v (.int .u8 0), .v (.int .u8 0), .v (.int .u8 0), .v (.int .u8 0), .v (.int .u8 0), .v (.int .u8 0), .v (.int .u8 0), .v (.int .u8 0), .v (.int .u8 0), .v (.int .u8 0), .v (.int .u8 0), .v (.int .u8 0), .v (.int .u8 0), .v (.int .u8 0), .v (.int .u8 0), .v (.int .u8 0), .v (.int .u8 0), .v (.int .u8 0), .v (.int .u8 0), .v (.int .u8 0), .v (.int .u8 0), .v (.int .u8 0), .v (.int .u8 0), .v (.int .u8 0)]), (5, .box 133 [.v (.slice x.1 (k + 1 : Nat) x.2)]), (4, .nrow (.slice x.1 (k + 1 : Nat) x.2) (k + 1) 22 1 ((txL ix p k).flatMap ldv)), (19, .box 41 (hdv (txH ix p k)))]) [2, 5, 6, 7, 34] (u0, u0c) ⟨⟨rfl, rfl⟩, ⟨rfl, rfl⟩, ⟨rfl, rfl⟩, ⟨rfl, rfl⟩, ⟨rfl, rfl⟩, trivial⟩ ⟨.inr rfl, .inr rfl, .inr rfl, .inr rfl, trivial⟩ (fun x k t' X hX => ls_mem hX) rfl rfl (by decide) rfl rfl (fun _ _ => rfl) (fun _ _ => rfl) (fun _ _ => rfl) (fun Fc vc A Bq oD oR oB x k hk hj hOp hend hA => ?_) (fun D lr xr x => ?_)
   ·skip
    obtain ⟨o, ho⟩ : ∃ o, p.path[p.path.length - 1 - k] = o := ⟨_, rfl⟩
    rw [ho]
    refine .seq ?_
    refine .region hOp rfl ?_
    refine .step rfl (.assign rfl rfl) ?_
    refine .nil ?_
    refine .nextF ?_
    refine .region hOp rfl ?_
    refine .step rfl (.alloc 22 rfl rfl zc41 rfl) ?_
    refine .step rfl (.store rfl rfl rfl sz41 rfl rfl) ?_
    refine .nil ?_
    refine TE.midF (hA _ _ rfl ?_)
    refine .block ?_
    refine .seq ?_
    refine .draw hOp rfl mixed [Ro.mk _ (Eff.mk (some (37, _)) []) [19], Ro.mk _ (Eff.mk (some (38, _)) []) [22], Ro.mk _ (Eff.mk (some (10, _)) [(23, _)]) [23], Ro.mk _ (Eff.mk (some (11, _)) [(24, _)]) [24], Ro.mk _ (Eff.mk none [(23, _)]) [23], Ro.mk _ (Eff.mk none [(24, _)]) [24]] rfl ⟨(fun _ _ => .ldpm (ds := hdv (txH ix p k)) rfl rfl rfl rfl rfl rfl tk41), (fun _ _ => .ldpm (ds := hdv o) rfl rfl rfl rfl rfl rfl tk41), (fun _ _ => .alloc 23 rfl rfl zc41 rfl), (fun _ _ => .alloc 24 rfl rfl zc41 rfl), (fun _ _ => .store rfl rfl rfl sz41 rfl rfl), (fun _ _ => .store rfl rfl rfl sz41 rfl rfl), trivial⟩ (by kernel_rfl) ?_
    refine TE.obj 23 (.box 41 (hdv (txH ix p k))) rfl rfl ?_
    refine TE.obj 24 (.box 41 (hdv o)) rfl rfl ?_
    refine .nextF ?_
    refine .seq ?_
    refine .seq ?_
    refine .region hOp rfl ?_
    refine .step rfl (.ldem (ds := hdv ix) rfl rfl rfl rfl rfl tk41) ?_
    refine .step rfl (.move rfl rfl) ?_
    refine .step rfl (.callf rfl cf121 rfl ⟨trivial, trivial, trivial⟩ (bit_pf ix (((p.path.length - 1 - k) : Nat) : Int))) ?_
    refine .step rfl (.bin rfl rfl rfl rfl) ?_
    refine .nil ?_
    refine .nextF ?_
    refine .cond hOp rfl (fun h3 => ?_) (fun h3 => ?_)
    ·skip
     have hb : bitI ix (((p.path.length - 1 - k) : Nat) : Int) = 1 := of_decide_eq_true h3
     refine .region hOp rfl ?_
     refine .step rfl (.ldpm (ds := hdv o) rfl rfl rfl rfl rfl rfl tk41) ?_
     refine .step rfl (.ldpm (ds := hdv (txH ix p k)) rfl rfl rfl rfl rfl rfl tk41) ?_
     refine .step rfl (.store rfl rfl rfl sz41 rfl rfl) ?_
     refine .step rfl (.store rfl rfl rfl sz41 rfl rfl) ?_
     refine .nil ?_
     refine TE.obj 23 (.box 41 (hdv o)) rfl rfl ?_
     refine TE.obj 24 (.box 41 (hdv (txH ix p k))) rfl rfl ?_
     refine .nextF ?_
     refine .seq ?_
     refine TCF.map (fun a w h => reps_freezeB 10 rfl rfl rfl rfl h) ?_
     refine TCF.map (fun a w h => reps_freezeB 11 rfl rfl rfl rfl h) ?_
     refine .draw hOp rfl mixed [Ro.mk _ (Eff.mk (some (45, _)) []) [], Ro.mk _ (Eff.mk (some (46, _)) []) [], Ro.mk _ (Eff.mk (some (47, _)) [(25, _)]) [25], Ro.mk _ (Eff.mk (some (48, _)) []) [25], Ro.mk _ (Eff.mk (some (12, _)) []) []] rfl ⟨(fun _ _ => .slicee rfl rfl rfl ar41 (Nat.le_of_ble_eq_true rfl) (by decide)), (fun _ _ => .slicee rfl rfl rfl ar41 (Nat.le_of_ble_eq_true rfl) (by decide)), (fun _ _ => .buildsl 25 rfl rfl rfl ap133 zc22 rfl rfl rfl), (fun _ _ => .callf rfl cf122 rfl ⟨trivial, okA_len rfl rfl, trivial⟩ (text_pf 110 [H.l o, H.l (txH ix p k)] (by decide) (by decide) (text2_len _ _))), (fun _ _ => .assign rfl rfl), trivial⟩ (by kernel_rfl) ?_
     rw [show textB 110 [H.l o, H.l (txH ix p k)] = (stepT ix o (txH ix p k) (p.path.length - 1 - k)) by unfold stepT; rw [if_pos hb]]
     refine .nextF ?_
     refine .region hOp rfl ?_
     refine .step rfl (.ldp rfl rfl rfl rfl rfl tk133) ?_
     refine .step rfl (.move rfl rfl) ?_
     refine .step rfl (.buildsl 26 rfl rfl rfl ap133 zc22 rfl rfl rfl) ?_
     refine .asow 49 4 rfl rfl ?_
     refine .unn 4 rfl ?_
     refine .step rfl (.append 27 rfl rfl rfl (ldv_cells _ _ (txL_len k (by omega))) rfl ap133 rfl rfl (okA_len rfl rfl) rfl (by omega) (by omega)) ?_
     refine .step rfl (.move rfl rfl) ?_
     refine .step rfl (.callf rfl cf123 rfl ⟨trivial, trivial⟩ (sum_pf (stepT ix o (txH ix p k) (p.path.length - 1 - k)) (stepT_len _ _ _ _))) ?_
     refine .name 52 rfl rfl (fun u1 u1c => ?_)
     refine .step rfl (.store rfl rfl rfl sz133 rfl rfl) ?_
     refine .step rfl (.store rfl rfl rfl sz41 rfl rfl) ?_
     refine .nil ?_
     refine TE.blkF ?_
     refine TE.obj 27 (.nrow (.slice u1 (k + 1 + 1 : Nat) u1c) (k + 1 + 1) 22 1 ((txL ix p (k + 1)).flatMap ldv)) rfl (by rw [txL_step hj, List.flatMap_append, ho]; rfl) ?_
     refine TE.obj 19 (.box 41 (hdv (txH ix p (k + 1)))) rfl (by rw [txH_step hj, ho]; rfl) ?_
     exact TE.weakF (swp 4 27) (swp_inj 4 27) (hend (u1, u1c)) ⟨⟨rfl, rfl⟩, ⟨rfl, rfl⟩, ⟨rfl, rfl⟩, ⟨rfl, rfl⟩, ⟨rfl, rfl⟩, trivial⟩ ⟨.inr rfl, .inr rfl, .inr rfl, .inr rfl, .inr rfl, .inr rfl, trivial⟩
    ·skip
     have hb : ¬ bitI ix (((p.path.length - 1 - k) : Nat) : Int) = 1 := of_decide_eq_false h3
     refine .skip hOp ?_
     refine .nextF ?_
     refine .seq ?_
     refine TCF.map (fun a w h => reps_freezeB 10 rfl rfl rfl rfl h) ?_
     refine TCF.map (fun a w h => reps_freezeB 11 rfl rfl rfl rfl h) ?_
     refine .draw hOp rfl mixed [Ro.mk _ (Eff.mk (some (45, _)) []) [], Ro.mk _ (Eff.mk (some (46, _)) []) [], Ro.mk _ (Eff.mk (some (47, _)) [(28, _)]) [28], Ro.mk _ (Eff.mk (some (48, _)) []) [28], Ro.mk _ (Eff.mk (some (12, _)) []) []] rfl ⟨(fun _ _ => .slicee rfl rfl rfl ar41 (Nat.le_of_ble_eq_true rfl) (by decide)), (fun _ _ => .slicee rfl rfl rfl ar41 (Nat.le_of_ble_eq_true rfl) (by decide)), (fun _ _ => .buildsl 28 rfl rfl rfl ap133 zc22 rfl rfl rfl), (fun _ _ => .callf rfl cf122 rfl ⟨trivial, okA_len rfl rfl, trivial⟩ (text_pf 110 [H.l (txH ix p k), H.l o] (by decide) (by decide) (text2_len _ _))), (fun _ _ => .assign rfl rfl), trivial⟩ (by kernel_rfl) ?_
     rw [show textB 110 [H.l (txH ix p k), H.l o] = (stepT ix o (txH ix p k) (p.path.length - 1 - k)) by unfold stepT; rw [if_neg hb]]
     refine .nextF ?_
     refine .region hOp rfl ?_
     refine .step rfl (.ldp rfl rfl rfl rfl rfl tk133) ?_
     refine .step rfl (.move rfl rfl) ?_
     refine .step rfl (.buildsl 29 rfl rfl rfl ap133 zc22 rfl rfl rfl) ?_
     refine .asow 49 4 rfl rfl ?_
     refine .unn 4 rfl ?_
     refine .step rfl (.append 30 rfl rfl rfl (ldv_cells _ _ (txL_len k (by omega))) rfl ap133 rfl rfl (okA_len rfl rfl) rfl (by omega) (by omega)) ?_
     refine .step rfl (.move rfl rfl) ?_
     refine .step rfl (.callf rfl cf123 rfl ⟨trivial, trivial⟩ (sum_pf (stepT ix o (txH ix p k) (p.path.length - 1 - k)) (stepT_len _ _ _ _))) ?_
     refine .name 52 rfl rfl (fun u1 u1c => ?_)
     refine .step rfl (.store rfl rfl rfl sz133 rfl rfl) ?_
     refine .step rfl (.store rfl rfl rfl sz41 rfl rfl) ?_
     refine .nil ?_
     refine TE.blkF ?_
     refine TE.obj 30 (.nrow (.slice u1 (k + 1 + 1 : Nat) u1c) (k + 1 + 1) 22 1 ((txL ix p (k + 1)).flatMap ldv)) rfl (by rw [txL_step hj, List.flatMap_append, ho]; rfl) ?_
     refine TE.obj 19 (.box 41 (hdv (txH ix p (k + 1)))) rfl (by rw [txH_step hj, ho]; rfl) ?_
     exact TE.weakF (swp 4 30) (swp_inj 4 30) (hend (u1, u1c)) ⟨⟨rfl, rfl⟩, ⟨rfl, rfl⟩, ⟨rfl, rfl⟩, ⟨rfl, rfl⟩, ⟨rfl, rfl⟩, trivial⟩ ⟨.inr rfl, .inr rfl, .inr rfl, .inr rfl, .inr rfl, .inr rfl, trivial⟩
   ·skip
    refine TE.blkF ?_
    refine .nextF ?_
    refine .seq ?_
    have cR : PM Tryz.prog 125 [.ow 0 (p.path.length + 1) 1] (.mrow 0 22 1 ((txL ix p p.path.length).flatMap ldv)) (.mrow 0 22 1 ((txL ix p p.path.length).reverse.flatMap ldv)) (.d (.tp [])) := by have q := revL_pm (txL ix p p.path.length) (by rw [txL_len _ (Nat.le_refl _)]; omega); rwa [txL_len _ (Nat.le_refl _)] at q
    refine .region open_wide rfl ?_
    refine .step rfl (.ldp rfl rfl rfl rfl rfl tk133) ?_
    refine .asow 55 4 rfl rfl ?_
    refine .step rfl (.callmn 4 rfl cf125 rfl rfl cR) ?_
    refine .nil ?_
    refine .nextF ?_
    refine .seq ?_
    refine .draw open_wide rfl mixed [Ro.mk _ (Eff.mk (some (57, _)) []) [5], Ro.mk _ (Eff.mk (some (58, _)) []) [19], Ro.mk _ (Eff.mk (some (4, _)) []) [], Ro.mk _ (Eff.mk none [(3, _)]) [3]] rfl ⟨(fun _ _ => .ldp rfl rfl rfl rfl rfl tk133), (fun _ _ => .ldpm (ds := hdv (txH ix p p.path.length)) rfl rfl rfl rfl rfl rfl tk41), (fun _ _ => .assign rfl rfl), (fun _ _ => .store rfl rfl rfl sz41 rfl rfl), trivial⟩ (by kernel_rfl) ?_
    refine TE.frzn 4 4 (slT ldv 1 (txL ix p p.path.length).reverse) rfl rfl (ldv_cells _ _ (by rw [List.length_reverse]; exact txL_len _ (Nat.le_refl _))) (by unfold slT; rw [List.length_reverse, txL_len _ (Nat.le_refl _)]) ?_
    refine .nextF ?_
    refine .ret open_wide ?_
    refine TE.leaveF (fn := Tryz.f78) (gD := 20) (by rfl) ?_
    exact TE.rettc rfl rfl rfl
end Go.Proofs.YtdjcclcejmeheaaGreat

