/-
  The program's texts.
-/
import Derived.Test.YtejhgijjegnmnaaZJa
namespace Go.Proofs.Ytejhgijjegnmnaa
set_option linter.unusedVariables false
set_option linter.unusedSimpArgs false
open Go.RowKit Pl
theorem cf29 : cfn Try.prog 29 = true := by kernel_rfl
theorem cf75 : cfn Try.prog 75 = true := by kernel_rfl
theorem cf76 : cfn Try.prog 76 = true := by kernel_rfl
theorem cf77 : cfn Try.prog 77 = true := by kernel_rfl
theorem fo30_0 : fo Try.prog 30 0 = some 0 := by kernel_rfl
theorem fo30_1 : fo Try.prog 30 1 = some 1 := by kernel_rfl
theorem fo30_2 : fo Try.prog 30 2 = some 2 := by kernel_rfl
theorem sz48 : szt Try.prog 48 = some 1 := by kernel_rfl
theorem tk26 : tyk Try.prog 26 = some none := by kernel_rfl
theorem tk48 : tyk Try.prog 48 = some none := by kernel_rfl
theorem zc48 : zc Try.prog 48 = some [.slice none 0 0] := by kernel_rfl
set_option maxRecDepth 100000 in
set_option maxHeartbeats 1600000 in
theorem texts_pc (ix : H) (p : Pf) (hp : p.path.length ≤ 1000000) : PC Try.prog 41 [.ag (hdv (ix)), .ag p.dv] (.tp [slT ldv 1 (txL ix p p.path.length).reverse, .ag (hdv (txH ix p p.path.length))]) := by
  refine PC.enterF (fn := Try.f41) Try.func41 rfl Try.ntmps41 rfl (fun w0 K0 => ?_)
  refine .seq ?_
  refine .region open_wide rfl ?_
  refine .step rfl (.box 1 rfl rfl rfl rfl) ?_
  refine .step rfl (.box 2 rfl rfl rfl rfl) ?_
  refine .step rfl (.assign rfl rfl) ?_
  refine .step rfl (.alloc 3 rfl rfl zc25 rfl) ?_
  refine .nil ?_
  refine TE.frzb 2 rfl rfl rfl rfl ?_
  refine TE.frzb 3 rfl rfl rfl rfl ?_
  refine .nextF ?_
  refine .seq ?_
  refine .region open_wide rfl ?_
  refine .step rfl (.callf rfl cf75 rfl ⟨trivial, trivial, trivial⟩ (.nil2 (text_pf 122 [] (by decide) (by decide) text0_len))) ?_
  refine .step rfl (.buildsl 4 rfl rfl rfl ap48 zc44 rfl rfl rfl) ?_
  refine .step rfl (.alloc 5 rfl rfl zc48 rfl) ?_
  refine .name 14 rfl rfl (fun u0 u0c => ?_)
  refine .step rfl (.store rfl rfl rfl sz48 rfl rfl) ?_
  refine .nil ?_
  refine .nextF ?_
  refine .seq ?_
  refine .seq ?_
  refine .region open_wide rfl ?_
  refine .step rfl (.fielde rfl rfl rfl fo30_1) ?_
  refine .step rfl (.lde rfl rfl rfl rfl tk3) ?_
  refine .step rfl (.bin rfl rfl rfl rfl) ?_
  refine .nil ?_
  refine .nextF ?_
  refine .cond open_wide rfl (fun h1 => ?_) (fun h1 => ?_)
  ·skip
   have he : ¬ p.en = 1 := by simpa using h1
   have hE : textB 108 [H.l p.it.ix, H.l p.it.vl] = endT p := by unfold endT; rw [if_neg he]
   refine .draw open_wide rfl mixed [Ro.mk _ (Eff.mk (some (18, _)) []) [5], Ro.mk _ (Eff.mk (some (19, _)) []) [], Ro.mk _ (Eff.mk (some (20, _)) []) [], Ro.mk _ (Eff.mk (some (21, _)) []) [], Ro.mk _ (Eff.mk (some (22, _)) []) [], Ro.mk _ (Eff.mk (some (23, _)) []) [], Ro.mk _ (Eff.mk (some (24, _)) []) [], Ro.mk _ (Eff.mk (some (25, _)) [(6, _)]) [6], Ro.mk _ (Eff.mk (some (26, _)) []) [6], Ro.mk _ (Eff.mk (some (27, _)) []) [4], Ro.mk _ (Eff.mk none [(4, _)]) [4]] rfl ⟨(fun _ _ => .ldp rfl rfl rfl rfl rfl tk48), (fun _ _ => .fielde rfl rfl rfl fo30_2), (fun _ _ => .fielde rfl rfl rfl fo28_0), (fun _ _ => .slicee rfl rfl rfl ar25 (Nat.le_of_ble_eq_true rfl) (by decide)), (fun _ _ => .fielde rfl rfl rfl fo30_2), (fun _ _ => .fielde rfl rfl rfl fo28_1), (fun _ _ => .slicee rfl rfl rfl ar25 (Nat.le_of_ble_eq_true rfl) (by decide)), (fun _ _ => .buildsl 6 rfl rfl rfl ap48 zc44 rfl rfl rfl), (fun _ _ => .callf rfl cf75 rfl ⟨trivial, okA_len rfl rfl, trivial⟩ (text_pf 108 [H.l p.it.ix, H.l p.it.vl] (by decide) (by decide) (text2_len _ _))), (fun _ _ => .idxn (g := 4) rfl rfl rfl rfl et48 (by decide) (by decide)), (fun _ _ => .storeg rfl rfl rfl rfl sz44 rfl (Nat.le_of_ble_eq_true rfl)), trivial⟩ (by kernel_rfl) ?_
   rw [hE]
   refine .nextF ?_
   refine .seq ?_
   refine .region open_wide rfl ?_
   refine .step rfl (.ldp rfl rfl rfl rfl rfl tk48) ?_
   refine .step rfl (.idxn (g := 4) rfl rfl rfl rfl et48 (by decide) (by decide)) ?_
   refine .step rfl (.ldp rfl rfl rfl rfl rfl tk44) ?_
   refine .step rfl (.callf rfl cf29 rfl ⟨trivial, trivial⟩ (sum_pf (endT p) (endT_len p))) ?_
   refine .step rfl (.alloc 7 rfl rfl zc25 rfl) ?_
   refine .step rfl (.store rfl rfl rfl sz25 rfl rfl) ?_
   refine .nil ?_
   refine .nextF ?_
   refine .seq ?_
   refine .seq ?_
   refine .region open_wide rfl ?_
   refine .step rfl (.fielde rfl rfl rfl fo30_0) ?_
   refine .step rfl (.lde rfl rfl rfl rfl tk26) ?_
   refine .step rfl (.callc rfl cf76 rfl (backward_pc p.path)) ?_
   refine .nil ?_
   refine .nextF ?_
   refine .block ?_
   refine TCF.back (path := p.path) (by omega) 8 9 (by decide) (fun (x : Option Addr × Nat) (k : Nat) => [(2, .d (.el (hdv ix))), (5, .ptr 3 0), (6, .ptr 5 0), (7, .ptr 7 0), (34, .d (.fn (.func 91) [] [.el [slT hdv 32 p.path]]))]) (fun (x : Option Addr × Nat) (k : Nat) => [(3, .box 25 [.v (.int .u8 0), .v (.int .u8 0), .v (.int .u8 0), .v (.int .u8 0), .v (.int .u8 0), .v (.int .u8 0), .v (.int .u8 0), .v (.int .u8 0), .v (.int .u8 0), .v (.int .u8 0), .v (.int .u8 0), .v (.int .u8 0), .v (.int .u8 0), .v (.int .u8 0), .v (.int .u8 0), .v (.int .u8 0), .v (.int .u8 0), .v (.int .u8 0), .v (.int .u8 0), .v (.int .u8 0), .v (.int .u8 0), .v (.int .u8 0), .v (.int .u8 0), .v (.int .u8 0), .v (.int .u8 0), .v (.int .u8 0), .v (.int .u8 0), .v (.int .u8 0), .v (.int .u8 0), .v (.int .u8 0), .v (.int .u8 0), .v (.int .u8 0)]), (5, .box 48 [.v (.slice x.1 (k + 1 : Nat) x.2)]), (4, .nrow (.slice x.1 (k + 1 : Nat) x.2) (k + 1) 44 1 ((txL ix p k).flatMap ldv)), (7, .box 25 (hdv (txH ix p k)))]) [2, 5, 6, 7, 34] (u0, u0c) ⟨⟨rfl, rfl⟩, ⟨rfl, rfl⟩, ⟨rfl, rfl⟩, ⟨rfl, rfl⟩, ⟨rfl, rfl⟩, trivial⟩ ⟨.inr rfl, .inr rfl, .inr rfl, .inr rfl, trivial⟩ (fun x k t' X hX => ls_mem hX) rfl rfl (by decide) rfl rfl (fun _ _ => rfl) (fun _ _ => rfl) (fun _ _ => rfl) (fun Fc vc A Bq oD oR oB x k hk hj hOp hend hA => ?_) (fun D lr xr x => ?_)
   ·skip
    obtain ⟨o, ho⟩ : ∃ o, p.path[p.path.length - 1 - k] = o := ⟨_, rfl⟩
    rw [ho]
    refine .seq ?_
    refine .region hOp rfl ?_
    refine .step rfl (.assign rfl rfl) ?_
    refine .nil ?_
    refine .nextF ?_
    refine .region hOp rfl ?_
    refine .step rfl (.alloc 10 rfl rfl zc25 rfl) ?_
    refine .step rfl (.store rfl rfl rfl sz25 rfl rfl) ?_
    refine .nil ?_
    refine TE.midF (hA _ _ rfl ?_)
    refine .block ?_
    refine .seq ?_
    refine .draw hOp rfl mixed [Ro.mk _ (Eff.mk (some (37, _)) []) [7], Ro.mk _ (Eff.mk (some (38, _)) []) [10], Ro.mk _ (Eff.mk (some (10, _)) [(11, _)]) [11], Ro.mk _ (Eff.mk (some (11, _)) [(12, _)]) [12], Ro.mk _ (Eff.mk none [(11, _)]) [11], Ro.mk _ (Eff.mk none [(12, _)]) [12]] rfl ⟨(fun _ _ => .ldpm (ds := hdv (txH ix p k)) rfl rfl rfl rfl rfl rfl tk25), (fun _ _ => .ldpm (ds := hdv o) rfl rfl rfl rfl rfl rfl tk25), (fun _ _ => .alloc 11 rfl rfl zc25 rfl), (fun _ _ => .alloc 12 rfl rfl zc25 rfl), (fun _ _ => .store rfl rfl rfl sz25 rfl rfl), (fun _ _ => .store rfl rfl rfl sz25 rfl rfl), trivial⟩ (by kernel_rfl) ?_
    refine TE.obj 11 (.box 25 (hdv (txH ix p k))) rfl rfl ?_
    refine TE.obj 12 (.box 25 (hdv o)) rfl rfl ?_
    refine .nextF ?_
    refine .seq ?_
    refine .seq ?_
    refine .region hOp rfl ?_
    refine .step rfl (.ldem (ds := hdv ix) rfl rfl rfl rfl rfl tk25) ?_
    refine .step rfl (.move rfl rfl) ?_
    refine .step rfl (.callf rfl cf35 rfl ⟨trivial, trivial, trivial⟩ (bit_pf ix (((p.path.length - 1 - k) : Nat) : Int))) ?_
    refine .step rfl (.bin rfl rfl rfl rfl) ?_
    refine .nil ?_
    refine .nextF ?_
    refine .cond hOp rfl (fun h2 => ?_) (fun h2 => ?_)
    ·skip
     have hb : bitI ix (((p.path.length - 1 - k) : Nat) : Int) = 1 := of_decide_eq_true h2
     refine .region hOp rfl ?_
     refine .step rfl (.ldpm (ds := hdv o) rfl rfl rfl rfl rfl rfl tk25) ?_
     refine .step rfl (.ldpm (ds := hdv (txH ix p k)) rfl rfl rfl rfl rfl rfl tk25) ?_
     refine .step rfl (.store rfl rfl rfl sz25 rfl rfl) ?_
     refine .step rfl (.store rfl rfl rfl sz25 rfl rfl) ?_
     refine .nil ?_
     refine TE.obj 11 (.box 25 (hdv o)) rfl rfl ?_
     refine TE.obj 12 (.box 25 (hdv (txH ix p k))) rfl rfl ?_
     refine .nextF ?_
     refine .seq ?_
     refine TCF.map (fun a w h => reps_freezeB 10 rfl rfl rfl rfl h) ?_
     refine TCF.map (fun a w h => reps_freezeB 11 rfl rfl rfl rfl h) ?_
     refine .draw hOp rfl mixed [Ro.mk _ (Eff.mk (some (45, _)) []) [], Ro.mk _ (Eff.mk (some (46, _)) []) [], Ro.mk _ (Eff.mk (some (47, _)) [(13, _)]) [13], Ro.mk _ (Eff.mk (some (48, _)) []) [13], Ro.mk _ (Eff.mk (some (12, _)) []) []] rfl ⟨(fun _ _ => .slicee rfl rfl rfl ar25 (Nat.le_of_ble_eq_true rfl) (by decide)), (fun _ _ => .slicee rfl rfl rfl ar25 (Nat.le_of_ble_eq_true rfl) (by decide)), (fun _ _ => .buildsl 13 rfl rfl rfl ap48 zc44 rfl rfl rfl), (fun _ _ => .callf rfl cf75 rfl ⟨trivial, okA_len rfl rfl, trivial⟩ (text_pf 110 [H.l o, H.l (txH ix p k)] (by decide) (by decide) (text2_len _ _))), (fun _ _ => .assign rfl rfl), trivial⟩ (by kernel_rfl) ?_
     rw [show textB 110 [H.l o, H.l (txH ix p k)] = (stepT ix o (txH ix p k) (p.path.length - 1 - k)) by unfold stepT; rw [if_pos hb]]
     refine .nextF ?_
     refine .region hOp rfl ?_
     refine .step rfl (.ldp rfl rfl rfl rfl rfl tk48) ?_
     refine .step rfl (.move rfl rfl) ?_
     refine .step rfl (.buildsl 14 rfl rfl rfl ap48 zc44 rfl rfl rfl) ?_
     refine .asow 49 4 rfl rfl ?_
     refine .unn 4 rfl ?_
     refine .step rfl (.append 15 rfl rfl rfl (ldv_cells _ _ (txL_len k (by omega))) rfl ap48 rfl rfl (okA_len rfl rfl) rfl (by omega) (by omega)) ?_
     refine .step rfl (.move rfl rfl) ?_
     refine .step rfl (.callf rfl cf29 rfl ⟨trivial, trivial⟩ (sum_pf (stepT ix o (txH ix p k) (p.path.length - 1 - k)) (stepT_len _ _ _ _))) ?_
     refine .name 52 rfl rfl (fun u1 u1c => ?_)
     refine .step rfl (.store rfl rfl rfl sz48 rfl rfl) ?_
     refine .step rfl (.store rfl rfl rfl sz25 rfl rfl) ?_
     refine .nil ?_
     refine TE.blkF ?_
     refine TE.obj 15 (.nrow (.slice u1 (k + 1 + 1 : Nat) u1c) (k + 1 + 1) 44 1 ((txL ix p (k + 1)).flatMap ldv)) rfl (by rw [txL_step hj, List.flatMap_append, ho]; rfl) ?_
     refine TE.obj 7 (.box 25 (hdv (txH ix p (k + 1)))) rfl (by rw [txH_step hj, ho]; rfl) ?_
     exact TE.weakF (swp 4 15) (swp_inj 4 15) (hend (u1, u1c)) ⟨⟨rfl, rfl⟩, ⟨rfl, rfl⟩, ⟨rfl, rfl⟩, ⟨rfl, rfl⟩, ⟨rfl, rfl⟩, trivial⟩ ⟨.inr rfl, .inr rfl, .inr rfl, .inr rfl, .inr rfl, .inr rfl, trivial⟩
    ·skip
     have hb : ¬ bitI ix (((p.path.length - 1 - k) : Nat) : Int) = 1 := of_decide_eq_false h2
     refine .skip hOp ?_
     refine .nextF ?_
     refine .seq ?_
     refine TCF.map (fun a w h => reps_freezeB 10 rfl rfl rfl rfl h) ?_
     refine TCF.map (fun a w h => reps_freezeB 11 rfl rfl rfl rfl h) ?_
     refine .draw hOp rfl mixed [Ro.mk _ (Eff.mk (some (45, _)) []) [], Ro.mk _ (Eff.mk (some (46, _)) []) [], Ro.mk _ (Eff.mk (some (47, _)) [(16, _)]) [16], Ro.mk _ (Eff.mk (some (48, _)) []) [16], Ro.mk _ (Eff.mk (some (12, _)) []) []] rfl ⟨(fun _ _ => .slicee rfl rfl rfl ar25 (Nat.le_of_ble_eq_true rfl) (by decide)), (fun _ _ => .slicee rfl rfl rfl ar25 (Nat.le_of_ble_eq_true rfl) (by decide)), (fun _ _ => .buildsl 16 rfl rfl rfl ap48 zc44 rfl rfl rfl), (fun _ _ => .callf rfl cf75 rfl ⟨trivial, okA_len rfl rfl, trivial⟩ (text_pf 110 [H.l (txH ix p k), H.l o] (by decide) (by decide) (text2_len _ _))), (fun _ _ => .assign rfl rfl), trivial⟩ (by kernel_rfl) ?_
     rw [show textB 110 [H.l (txH ix p k), H.l o] = (stepT ix o (txH ix p k) (p.path.length - 1 - k)) by unfold stepT; rw [if_neg hb]]
     refine .nextF ?_
     refine .region hOp rfl ?_
     refine .step rfl (.ldp rfl rfl rfl rfl rfl tk48) ?_
     refine .step rfl (.move rfl rfl) ?_
     refine .step rfl (.buildsl 17 rfl rfl rfl ap48 zc44 rfl rfl rfl) ?_
     refine .asow 49 4 rfl rfl ?_
     refine .unn 4 rfl ?_
     refine .step rfl (.append 18 rfl rfl rfl (ldv_cells _ _ (txL_len k (by omega))) rfl ap48 rfl rfl (okA_len rfl rfl) rfl (by omega) (by omega)) ?_
     refine .step rfl (.move rfl rfl) ?_
     refine .step rfl (.callf rfl cf29 rfl ⟨trivial, trivial⟩ (sum_pf (stepT ix o (txH ix p k) (p.path.length - 1 - k)) (stepT_len _ _ _ _))) ?_
     refine .name 52 rfl rfl (fun u1 u1c => ?_)
     refine .step rfl (.store rfl rfl rfl sz48 rfl rfl) ?_
     refine .step rfl (.store rfl rfl rfl sz25 rfl rfl) ?_
     refine .nil ?_
     refine TE.blkF ?_
     refine TE.obj 18 (.nrow (.slice u1 (k + 1 + 1 : Nat) u1c) (k + 1 + 1) 44 1 ((txL ix p (k + 1)).flatMap ldv)) rfl (by rw [txL_step hj, List.flatMap_append, ho]; rfl) ?_
     refine TE.obj 7 (.box 25 (hdv (txH ix p (k + 1)))) rfl (by rw [txH_step hj, ho]; rfl) ?_
     exact TE.weakF (swp 4 18) (swp_inj 4 18) (hend (u1, u1c)) ⟨⟨rfl, rfl⟩, ⟨rfl, rfl⟩, ⟨rfl, rfl⟩, ⟨rfl, rfl⟩, ⟨rfl, rfl⟩, trivial⟩ ⟨.inr rfl, .inr rfl, .inr rfl, .inr rfl, .inr rfl, .inr rfl, trivial⟩
   ·skip
    refine TE.blkF ?_
    refine .nextF ?_
    refine .seq ?_
    have cR : PM Try.prog 77 [.ow 0 (p.path.length + 1) 1] (.mrow 0 44 1 ((txL ix p p.path.length).flatMap ldv)) (.mrow 0 44 1 ((txL ix p p.path.length).reverse.flatMap ldv)) (.d (.tp [])) := by have q := revL_pm (txL ix p p.path.length) (by rw [txL_len _ (Nat.le_refl _)]; omega); rwa [txL_len _ (Nat.le_refl _)] at q
    refine .region open_wide rfl ?_
    refine .step rfl (.ldp rfl rfl rfl rfl rfl tk48) ?_
    refine .asow 55 4 rfl rfl ?_
    refine .step rfl (.callmn 4 rfl cf77 rfl rfl cR) ?_
    refine .nil ?_
    refine .nextF ?_
    refine .seq ?_
    refine .draw open_wide rfl mixed [Ro.mk _ (Eff.mk (some (57, _)) []) [5], Ro.mk _ (Eff.mk (some (58, _)) []) [7], Ro.mk _ (Eff.mk (some (4, _)) []) [], Ro.mk _ (Eff.mk none [(3, _)]) [3]] rfl ⟨(fun _ _ => .ldp rfl rfl rfl rfl rfl tk48), (fun _ _ => .ldpm (ds := hdv (txH ix p p.path.length)) rfl rfl rfl rfl rfl rfl tk25), (fun _ _ => .assign rfl rfl), (fun _ _ => .store rfl rfl rfl sz25 rfl rfl), trivial⟩ (by kernel_rfl) ?_
    refine TE.frzn 4 4 (slT ldv 1 (txL ix p p.path.length).reverse) rfl rfl (ldv_cells _ _ (by rw [List.length_reverse]; exact txL_len _ (Nat.le_refl _))) (by unfold slT; rw [List.length_reverse, txL_len _ (Nat.le_refl _)]) ?_
    refine .nextF ?_
    refine .ret open_wide ?_
    refine TE.leaveF (fn := Try.f41) (gD := 8) (by rfl) ?_
    exact TE.rettc rfl rfl rfl
  ·skip
   have he : p.en = 1 := by simpa using h1
   have hE : textB 122 [] = endT p := by unfold endT; rw [if_pos he]
   rw [hE]
   refine .skip open_wide ?_
   refine .nextF ?_
   refine .seq ?_
   refine .region open_wide rfl ?_
   refine .step rfl (.ldp rfl rfl rfl rfl rfl tk48) ?_
   refine .step rfl (.idxn (g := 4) rfl rfl rfl rfl et48 (by decide) (by decide)) ?_
   refine .step rfl (.ldp rfl rfl rfl rfl rfl tk44) ?_
   refine .step rfl (.callf rfl cf29 rfl ⟨trivial, trivial⟩ (sum_pf (endT p) (endT_len p))) ?_
   refine .step rfl (.alloc 19 rfl rfl zc25 rfl) ?_
   refine .step rfl (.store rfl rfl rfl sz25 rfl rfl) ?_
   refine .nil ?_
   refine .nextF ?_
   refine .seq ?_
   refine .seq ?_
   refine .region open_wide rfl ?_
   refine .step rfl (.fielde rfl rfl rfl fo30_0) ?_
   refine .step rfl (.lde rfl rfl rfl rfl tk26) ?_
   refine .step rfl (.callc rfl cf76 rfl (backward_pc p.path)) ?_
   refine .nil ?_
   refine .nextF ?_
   refine .block ?_
   refine TCF.back (path := p.path) (by omega) 20 21 (by decide) (fun (x : Option Addr × Nat) (k : Nat) => [(2, .d (.el (hdv ix))), (5, .ptr 3 0), (6, .ptr 5 0), (7, .ptr 19 0), (34, .d (.fn (.func 91) [] [.el [slT hdv 32 p.path]]))]) (fun (x : Option Addr × Nat) (k : Nat) => [(3, .box 25 [.v (.int .u8 0), .v (.int .u8 0), .v (.int .u8 0), .v (.int .u8 0), .v (.int .u8 0), .v (.int .u8 0), .v (.int .u8 0), .v (.int .u8 0), .v (.int .u8 0), .v (.int .u8 0), .v (.int .u8 0), .v (.int .u8 0), .v (.int .u8 0), .v (.int .u8 0), .v (.int .u8 0), .v (.int .u8 0), .v (.int .u8 0), .v (.int .u8 0), .v (.int .u8 0), .v (.int .u8 0), .v (.int .u8 0), .v (.int .u8 0), .v (.int .u8 0), .v (.int .u8 0), .v (.int .u8 0), .v (.int .u8 0), .v (.int .u8 0), .v (.int .u8 0), .v (.int .u8 0), .v (.int .u8 0), .v (.int .u8 0), .v (.int .u8 0)]), (5, .box 48 [.v (.slice x.1 (k + 1 : Nat) x.2)]), (4, .nrow (.slice x.1 (k + 1 : Nat) x.2) (k + 1) 44 1 ((txL ix p k).flatMap ldv)), (19, .box 25 (hdv (txH ix p k)))]) [2, 5, 6, 7, 34] (u0, u0c) ⟨⟨rfl, rfl⟩, ⟨rfl, rfl⟩, ⟨rfl, rfl⟩, ⟨rfl, rfl⟩, ⟨rfl, rfl⟩, trivial⟩ ⟨.inr rfl, .inr rfl, .inr rfl, .inr rfl, trivial⟩ (fun x k t' X hX => ls_mem hX) rfl rfl (by decide) rfl rfl (fun _ _ => rfl) (fun _ _ => rfl) (fun _ _ => rfl) (fun Fc vc A Bq oD oR oB x k hk hj hOp hend hA => ?_) (fun D lr xr x => ?_)
   ·skip
    obtain ⟨o, ho⟩ : ∃ o, p.path[p.path.length - 1 - k] = o := ⟨_, rfl⟩
    rw [ho]
    refine .seq ?_
    refine .region hOp rfl ?_
    refine .step rfl (.assign rfl rfl) ?_
    refine .nil ?_
    refine .nextF ?_
    refine .region hOp rfl ?_
    refine .step rfl (.alloc 22 rfl rfl zc25 rfl) ?_
    refine .step rfl (.store rfl rfl rfl sz25 rfl rfl) ?_
    refine .nil ?_
    refine TE.midF (hA _ _ rfl ?_)
    refine .block ?_
    refine .seq ?_
    refine .draw hOp rfl mixed [Ro.mk _ (Eff.mk (some (37, _)) []) [19], Ro.mk _ (Eff.mk (some (38, _)) []) [22], Ro.mk _ (Eff.mk (some (10, _)) [(23, _)]) [23], Ro.mk _ (Eff.mk (some (11, _)) [(24, _)]) [24], Ro.mk _ (Eff.mk none [(23, _)]) [23], Ro.mk _ (Eff.mk none [(24, _)]) [24]] rfl ⟨(fun _ _ => .ldpm (ds := hdv (txH ix p k)) rfl rfl rfl rfl rfl rfl tk25), (fun _ _ => .ldpm (ds := hdv o) rfl rfl rfl rfl rfl rfl tk25), (fun _ _ => .alloc 23 rfl rfl zc25 rfl), (fun _ _ => .alloc 24 rfl rfl zc25 rfl), (fun _ _ => .store rfl rfl rfl sz25 rfl rfl), (fun _ _ => .store rfl rfl rfl sz25 rfl rfl), trivial⟩ (by kernel_rfl) ?_
    refine TE.obj 23 (.box 25 (hdv (txH ix p k))) rfl rfl ?_
    refine TE.obj 24 (.box 25 (hdv o)) rfl rfl ?_
    refine .nextF ?_
    refine .seq ?_
    refine .seq ?_
    refine .region hOp rfl ?_
    refine .step rfl (.ldem (ds := hdv ix) rfl rfl rfl rfl rfl tk25) ?_
    refine .step rfl (.move rfl rfl) ?_
    refine .step rfl (.callf rfl cf35 rfl ⟨trivial, trivial, trivial⟩ (bit_pf ix (((p.path.length - 1 - k) : Nat) : Int))) ?_
    refine .step rfl (.bin rfl rfl rfl rfl) ?_
    refine .nil ?_
    refine .nextF ?_
    refine .cond hOp rfl (fun h3 => ?_) (fun h3 => ?_)
    ·skip
     have hb : bitI ix (((p.path.length - 1 - k) : Nat) : Int) = 1 := of_decide_eq_true h3
     refine .region hOp rfl ?_
     refine .step rfl (.ldpm (ds := hdv o) rfl rfl rfl rfl rfl rfl tk25) ?_
     refine .step rfl (.ldpm (ds := hdv (txH ix p k)) rfl rfl rfl rfl rfl rfl tk25) ?_
     refine .step rfl (.store rfl rfl rfl sz25 rfl rfl) ?_
     refine .step rfl (.store rfl rfl rfl sz25 rfl rfl) ?_
     refine .nil ?_
     refine TE.obj 23 (.box 25 (hdv o)) rfl rfl ?_
     refine TE.obj 24 (.box 25 (hdv (txH ix p k))) rfl rfl ?_
     refine .nextF ?_
     refine .seq ?_
     refine TCF.map (fun a w h => reps_freezeB 10 rfl rfl rfl rfl h) ?_
     refine TCF.map (fun a w h => reps_freezeB 11 rfl rfl rfl rfl h) ?_
     refine .draw hOp rfl mixed [Ro.mk _ (Eff.mk (some (45, _)) []) [], Ro.mk _ (Eff.mk (some (46, _)) []) [], Ro.mk _ (Eff.mk (some (47, _)) [(25, _)]) [25], Ro.mk _ (Eff.mk (some (48, _)) []) [25], Ro.mk _ (Eff.mk (some (12, _)) []) []] rfl ⟨(fun _ _ => .slicee rfl rfl rfl ar25 (Nat.le_of_ble_eq_true rfl) (by decide)), (fun _ _ => .slicee rfl rfl rfl ar25 (Nat.le_of_ble_eq_true rfl) (by decide)), (fun _ _ => .buildsl 25 rfl rfl rfl ap48 zc44 rfl rfl rfl), (fun _ _ => .callf rfl cf75 rfl ⟨trivial, okA_len rfl rfl, trivial⟩ (text_pf 110 [H.l o, H.l (txH ix p k)] (by decide) (by decide) (text2_len _ _))), (fun _ _ => .assign rfl rfl), trivial⟩ (by kernel_rfl) ?_
     rw [show textB 110 [H.l o, H.l (txH ix p k)] = (stepT ix o (txH ix p k) (p.path.length - 1 - k)) by unfold stepT; rw [if_pos hb]]
     refine .nextF ?_
     refine .region hOp rfl ?_
     refine .step rfl (.ldp rfl rfl rfl rfl rfl tk48) ?_
     refine .step rfl (.move rfl rfl) ?_
     refine .step rfl (.buildsl 26 rfl rfl rfl ap48 zc44 rfl rfl rfl) ?_
     refine .asow 49 4 rfl rfl ?_
     refine .unn 4 rfl ?_
     refine .step rfl (.append 27 rfl rfl rfl (ldv_cells _ _ (txL_len k (by omega))) rfl ap48 rfl rfl (okA_len rfl rfl) rfl (by omega) (by omega)) ?_
     refine .step rfl (.move rfl rfl) ?_
     refine .step rfl (.callf rfl cf29 rfl ⟨trivial, trivial⟩ (sum_pf (stepT ix o (txH ix p k) (p.path.length - 1 - k)) (stepT_len _ _ _ _))) ?_
     refine .name 52 rfl rfl (fun u1 u1c => ?_)
     refine .step rfl (.store rfl rfl rfl sz48 rfl rfl) ?_
     refine .step rfl (.store rfl rfl rfl sz25 rfl rfl) ?_
     refine .nil ?_
     refine TE.blkF ?_
     refine TE.obj 27 (.nrow (.slice u1 (k + 1 + 1 : Nat) u1c) (k + 1 + 1) 44 1 ((txL ix p (k + 1)).flatMap ldv)) rfl (by rw [txL_step hj, List.flatMap_append, ho]; rfl) ?_
     refine TE.obj 19 (.box 25 (hdv (txH ix p (k + 1)))) rfl (by rw [txH_step hj, ho]; rfl) ?_
     exact TE.weakF (swp 4 27) (swp_inj 4 27) (hend (u1, u1c)) ⟨⟨rfl, rfl⟩, ⟨rfl, rfl⟩, ⟨rfl, rfl⟩, ⟨rfl, rfl⟩, ⟨rfl, rfl⟩, trivial⟩ ⟨.inr rfl, .inr rfl, .inr rfl, .inr rfl, .inr rfl, .inr rfl, trivial⟩
    ·skip
     have hb : ¬ bitI ix (((p.path.length - 1 - k) : Nat) : Int) = 1 := of_decide_eq_false h3
     refine .skip hOp ?_
     refine .nextF ?_
     refine .seq ?_
     refine TCF.map (fun a w h => reps_freezeB 10 rfl rfl rfl rfl h) ?_
     refine TCF.map (fun a w h => reps_freezeB 11 rfl rfl rfl rfl h) ?_
     refine .draw hOp rfl mixed [Ro.mk _ (Eff.mk (some (45, _)) []) [], Ro.mk _ (Eff.mk (some (46, _)) []) [], Ro.mk _ (Eff.mk (some (47, _)) [(28, _)]) [28], Ro.mk _ (Eff.mk (some (48, _)) []) [28], Ro.mk _ (Eff.mk (some (12, _)) []) []] rfl ⟨(fun _ _ => .slicee rfl rfl rfl ar25 (Nat.le_of_ble_eq_true rfl) (by decide)), (fun _ _ => .slicee rfl rfl rfl ar25 (Nat.le_of_ble_eq_true rfl) (by decide)), (fun _ _ => .buildsl 28 rfl rfl rfl ap48 zc44 rfl rfl rfl), (fun _ _ => .callf rfl cf75 rfl ⟨trivial, okA_len rfl rfl, trivial⟩ (text_pf 110 [H.l (txH ix p k), H.l o] (by decide) (by decide) (text2_len _ _))), (fun _ _ => .assign rfl rfl), trivial⟩ (by kernel_rfl) ?_
     rw [show textB 110 [H.l (txH ix p k), H.l o] = (stepT ix o (txH ix p k) (p.path.length - 1 - k)) by unfold stepT; rw [if_neg hb]]
     refine .nextF ?_
     refine .region hOp rfl ?_
     refine .step rfl (.ldp rfl rfl rfl rfl rfl tk48) ?_
     refine .step rfl (.move rfl rfl) ?_
     refine .step rfl (.buildsl 29 rfl rfl rfl ap48 zc44 rfl rfl rfl) ?_
     refine .asow 49 4 rfl rfl ?_
     refine .unn 4 rfl ?_
     refine .step rfl (.append 30 rfl rfl rfl (ldv_cells _ _ (txL_len k (by omega))) rfl ap48 rfl rfl (okA_len rfl rfl) rfl (by omega) (by omega)) ?_
     refine .step rfl (.move rfl rfl) ?_
     refine .step rfl (.callf rfl cf29 rfl ⟨trivial, trivial⟩ (sum_pf (stepT ix o (txH ix p k) (p.path.length - 1 - k)) (stepT_len _ _ _ _))) ?_
     refine .name 52 rfl rfl (fun u1 u1c => ?_)
     refine .step rfl (.store rfl rfl rfl sz48 rfl rfl) ?_
     refine .step rfl (.store rfl rfl rfl sz25 rfl rfl) ?_
     refine .nil ?_
     refine TE.blkF ?_
     refine TE.obj 30 (.nrow (.slice u1 (k + 1 + 1 : Nat) u1c) (k + 1 + 1) 44 1 ((txL ix p (k + 1)).flatMap ldv)) rfl (by rw [txL_step hj, List.flatMap_append, ho]; rfl) ?_
     refine TE.obj 19 (.box 25 (hdv (txH ix p (k + 1)))) rfl (by rw [txH_step hj, ho]; rfl) ?_
     exact TE.weakF (swp 4 30) (swp_inj 4 30) (hend (u1, u1c)) ⟨⟨rfl, rfl⟩, ⟨rfl, rfl⟩, ⟨rfl, rfl⟩, ⟨rfl, rfl⟩, ⟨rfl, rfl⟩, trivial⟩ ⟨.inr rfl, .inr rfl, .inr rfl, .inr rfl, .inr rfl, .inr rfl, trivial⟩
   ·skip
    refine TE.blkF ?_
    refine .nextF ?_
    refine .seq ?_
    have cR : PM Try.prog 77 [.ow 0 (p.path.length + 1) 1] (.mrow 0 44 1 ((txL ix p p.path.length).flatMap ldv)) (.mrow 0 44 1 ((txL ix p p.path.length).reverse.flatMap ldv)) (.d (.tp [])) := by have q := revL_pm (txL ix p p.path.length) (by rw [txL_len _ (Nat.le_refl _)]; omega); rwa [txL_len _ (Nat.le_refl _)] at q
    refine .region open_wide rfl ?_
    refine .step rfl (.ldp rfl rfl rfl rfl rfl tk48) ?_
    refine .asow 55 4 rfl rfl ?_
    refine .step rfl (.callmn 4 rfl cf77 rfl rfl cR) ?_
    refine .nil ?_
    refine .nextF ?_
    refine .seq ?_
    refine .draw open_wide rfl mixed [Ro.mk _ (Eff.mk (some (57, _)) []) [5], Ro.mk _ (Eff.mk (some (58, _)) []) [19], Ro.mk _ (Eff.mk (some (4, _)) []) [], Ro.mk _ (Eff.mk none [(3, _)]) [3]] rfl ⟨(fun _ _ => .ldp rfl rfl rfl rfl rfl tk48), (fun _ _ => .ldpm (ds := hdv (txH ix p p.path.length)) rfl rfl rfl rfl rfl rfl tk25), (fun _ _ => .assign rfl rfl), (fun _ _ => .store rfl rfl rfl sz25 rfl rfl), trivial⟩ (by kernel_rfl) ?_
    refine TE.frzn 4 4 (slT ldv 1 (txL ix p p.path.length).reverse) rfl rfl (ldv_cells _ _ (by rw [List.length_reverse]; exact txL_len _ (Nat.le_refl _))) (by unfold slT; rw [List.length_reverse, txL_len _ (Nat.le_refl _)]) ?_
    refine .nextF ?_
    refine .ret open_wide ?_
    refine TE.leaveF (fn := Try.f41) (gD := 20) (by rfl) ?_
    exact TE.rettc rfl rfl rfl
end Go.Proofs.Ytejhgijjegnmnaa

