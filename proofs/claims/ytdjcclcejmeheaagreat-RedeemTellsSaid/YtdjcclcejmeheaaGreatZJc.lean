import Derived.Test.YtdjcclcejmeheaaGreatZJb
import Derived.Test.YtdjcclcejmeheaaGreatZFb
import Derived.Test.YtdjcclcejmeheaaGreatZEv
import Derived.Test.YtdjcclcejmeheaaGreatZGr
/-
  The reference's texts.
-/
namespace Go.Proofs.YtdjcclcejmeheaaGreat
set_option linter.unusedVariables false
set_option linter.unusedSimpArgs false
open Go.RowKit Pl
set_option maxRecDepth 100000
set_option maxHeartbeats 3200000
theorem cf132 : cfn Tryz.prog 132 = true := by kernel_rfl
theorem cf90 : cfn Tryz.prog 90 = true := by kernel_rfl
theorem cf98 : cfn Tryz.prog 98 = true := by kernel_rfl
theorem is52 : isSl Tryz.prog 52 = some true := by kernel_rfl
set_option maxRecDepth 100000 in
set_option maxHeartbeats 1600000 in
theorem rtexts_pc (ix : H) (p : Pf) (hp : p.path.length ≤ 1000000) : PC Tryz.prog 91 [.ag (hdv (ix)), .ag p.dv] (slT ldv 1 (txL ix p p.path.length).reverse) := by
  refine PC.enter (fn := Tryz.f91) Tryz.func91 rfl Tryz.ntmps91 rfl (fun w0 K0 => ?_)
  refine .seq ?_
  refine .region ?_
  refine .step rfl (.box 1 rfl rfl rfl rfl) ?_
  refine .step rfl (.box 2 rfl rfl rfl rfl) ?_
  refine .step rfl (.assign rfl rfl) ?_
  refine .nil ?_
  refine TE.frzb 2 rfl rfl rfl rfl ?_
  refine TE.frzb 3 rfl rfl rfl rfl ?_
  refine .next ?_
  refine .seq ?_
  refine .region ?_
  refine .step rfl (.callf rfl cf132 rfl ⟨trivial, trivial, trivial⟩ (.nil2 (rtext_pf 122 [] (by decide) (by decide) text0_len))) ?_
  refine .step rfl (.assign rfl rfl) ?_
  refine .nil ?_
  refine .next ?_
  refine .seq ?_
  refine .seq ?_
  refine .region ?_
  refine .step rfl (.fielde rfl rfl rfl fo81_1) ?_
  refine .step rfl (.lde rfl rfl rfl rfl tk3) ?_
  refine .step rfl (.bin rfl rfl rfl rfl) ?_
  refine .nil ?_
  refine .next ?_
  refine .cond rfl (fun h1 => ?_) (fun h1 => ?_)
  ·skip
   have he : ¬ p.en = 1 := by simpa using h1
   have hE : textB 108 [H.l p.it.ix, H.l p.it.vl] = endT p := by unfold endT; rw [if_neg he]
   refine .draw mixed [Ro.mk _ (Eff.mk (some (14, _)) []) [], Ro.mk _ (Eff.mk (some (15, _)) []) [], Ro.mk _ (Eff.mk (some (16, _)) []) [], Ro.mk _ (Eff.mk (some (17, _)) []) [], Ro.mk _ (Eff.mk (some (18, _)) []) [], Ro.mk _ (Eff.mk (some (19, _)) []) [], Ro.mk _ (Eff.mk (some (20, _)) [(3, _)]) [3], Ro.mk _ (Eff.mk (some (21, _)) []) [3], Ro.mk _ (Eff.mk (some (5, _)) []) []] rfl ⟨(fun _ _ => .fielde rfl rfl rfl fo81_2), (fun _ _ => .fielde rfl rfl rfl fo79_0), (fun _ _ => .slicee rfl rfl rfl ar41 (Nat.le_of_ble_eq_true rfl) (by decide)), (fun _ _ => .fielde rfl rfl rfl fo81_2), (fun _ _ => .fielde rfl rfl rfl fo79_1), (fun _ _ => .slicee rfl rfl rfl ar41 (Nat.le_of_ble_eq_true rfl) (by decide)), (fun _ _ => .buildsl 3 rfl rfl rfl ap133 zc22 rfl rfl rfl), (fun _ _ => .callf rfl cf132 rfl ⟨trivial, okA_len rfl rfl, trivial⟩ (rtext_pf 108 [H.l p.it.ix, H.l p.it.vl] (by decide) (by decide) (text2_len _ _))), (fun _ _ => .assign rfl rfl), trivial⟩ (by kernel_rfl) ?_
   rw [hE]
   refine .next ?_
   refine .seq ?_
   refine .region ?_
   refine .step rfl (.move rfl rfl) ?_
   refine .step rfl (.buildsl 4 rfl rfl rfl ap133 zc22 rfl rfl rfl) ?_
   refine .step rfl (.assign rfl rfl) ?_
   refine .nil ?_
   refine .next ?_
   refine .seq ?_
   refine .region ?_
   refine .step rfl (.move rfl rfl) ?_
   refine .step rfl (.callf rfl cf90 rfl ⟨trivial, trivial⟩ (rsum_pf (endT p) (endT_len p))) ?_
   refine .step rfl (.alloc 5 rfl rfl zc41 rfl) ?_
   refine .step rfl (.store rfl rfl rfl sz41 rfl rfl) ?_
   refine .nil ?_
   refine TE.obj 5 (.box 41 (hdv (txH ix p 0))) rfl rfl ?_
   refine TE.obj 4 (.row 22 1 ((txL ix p 0).reverse.flatMap ldv)) rfl rfl ?_
   refine .next ?_
   refine .seq ?_
   refine .seq ?_
   refine .region ?_
   refine .step rfl (.fielde rfl rfl rfl fo81_0) ?_
   refine .step rfl (.lde rfl rfl rfl rfl tk52) ?_
   refine .step rfl (.len rfl rfl ⟨_, _, rfl⟩ is52) ?_
   refine .step rfl (.binv (.int .i64 ((p.path.length : Int) - 1)) rfl rfl rfl rfl (congrArg _ (by rw [IntKind.wrap_i64]; omega))) ?_
   refine .step rfl (.assign rfl rfl) ?_
   refine .nil ?_
   refine TE.setv 8 (.int .i64 ((p.path.length : Int) - 1 - ((0 : Nat) : Int))) rfl (congrArg _ (by simp)) ?_
   refine .next ?_
   refine .block ?_
   refine TC.loop (S := Nat) (fun k => k ≤ p.path.length) (fun k => p.path.length - k) (fun k => [(2, .d (.el (hdv ix))), (3, .d (.el p.dv)), (6, .ow 4 (k + 1) 1), (7, .ptr 5 0), (8, .d (.v (.int .i64 ((p.path.length : Int) - 1 - (k : Int)))))]) (fun k => [(1, .dead), (2, .dead), (3, .dead), (4, .row 22 1 ((txL ix p k).reverse.flatMap ldv)), (5, .box 41 (hdv (txH ix p k)))]) (0) (Nat.zero_le _) ⟨⟨rfl, rfl⟩, ⟨rfl, rfl⟩, ⟨rfl, rfl⟩, ⟨rfl, rfl⟩, ⟨rfl, rfl⟩, trivial⟩ ⟨.inl rfl, .inl rfl, .inl rfl, .inr rfl, .inr rfl, trivial⟩ (fun k hI => ?_)
   refine .seq ?_
   refine .seq ?_
   refine .region ?_
   refine .step rfl (.move rfl rfl) ?_
   refine .step rfl (.bin rfl rfl rfl rfl) ?_
   refine .nil ?_
   refine .next ?_
   refine .cond rfl (fun h2 => ?_) (fun h2 => ?_)
   ·skip
    have hk : k < p.path.length := by have q := of_decide_eq_true h2; (try dsimp only at q); omega
    have hj : p.path.length - 1 - k < p.path.length := by omega
    obtain ⟨o, ho⟩ : ∃ o, p.path[p.path.length - 1 - k] = o := ⟨_, rfl⟩
    refine TC.setv 8 (.int .i64 (((p.path.length - 1 - k) : Nat) : Int)) rfl (congrArg _ (by (try dsimp only); omega)) ?_
    refine .skip ?_
    refine .next ?_
    refine .seq ?_
    refine .block ?_
    refine .seq ?_
    refine .sub [(7, .el (hdv (txH ix p k))), (3, .el p.dv), (8, .v (.int .i64 (((p.path.length - 1 - k) : Nat) : Int)))] [(2, .d (.el (hdv ix))), (3, .d (.el p.dv)), (6, .ow 4 (k + 1) 1), (7, .ptr 5 0), (8, .d (.v (.int .i64 (((p.path.length - 1 - k) : Nat) : Int))))] 9 (slT bdv 1 (textB 110 [H.l (txH ix p k), H.l o])) rfl ⟨rfl, rfl, rfl, trivial⟩ ⟨⟨rfl, rfl⟩, ⟨rfl, rfl⟩, ⟨rfl, rfl⟩, ⟨rfl, rfl⟩, ⟨rfl, rfl⟩, trivial⟩ (fun w1 us => ?_) ?_
    ·skip
     refine .draw open_wide rfl mixed [Ro.mk _ (Eff.mk (some (34, _)) []) [], Ro.mk _ (Eff.mk (some (35, _)) []) [], Ro.mk _ (Eff.mk (some (36, _)) []) [], Ro.mk _ (Eff.mk (some (37, _)) []) [], Ro.mk _ (Eff.mk (some (38, _)) []) [], Ro.mk _ (Eff.mk (some (39, _)) []) [], Ro.mk _ (Eff.mk (some (40, _)) [(6, _)]) [6], Ro.mk _ (Eff.mk (some (41, _)) []) [6], Ro.mk _ (Eff.mk (some (9, _)) []) []] rfl ⟨(fun _ _ => .slicee rfl rfl rfl ar41 (Nat.le_of_ble_eq_true rfl) (by decide)), (fun _ _ => .fielde rfl rfl rfl fo81_0), (fun _ _ => .lde rfl rfl rfl rfl tk52), (fun _ _ => .move rfl rfl), (fun _ _ => .idx (o) rfl rfl rfl rfl et52 (fun _ => rfl) (Int.natCast_nonneg _) (by rw [back_get hj, ho])), (fun _ _ => .slicee rfl rfl rfl ar41 (Nat.le_of_ble_eq_true rfl) (by decide)), (fun _ _ => .buildsl 6 rfl rfl rfl ap133 zc22 rfl rfl rfl), (fun _ _ => .callf rfl cf132 rfl ⟨trivial, okA_len rfl rfl, trivial⟩ (rtext_pf 110 [H.l (txH ix p k), H.l o] (by decide) (by decide) (text2_len _ _))), (fun _ _ => .assign rfl rfl), trivial⟩ (by kernel_rfl) ?_
     exact TE.subend rfl rfl trivial
    ·skip
     refine .next ?_
     refine .seq ?_
     refine .seq ?_
     refine .region ?_
     refine .step rfl (.ldem (ds := hdv ix) rfl rfl rfl rfl rfl tk41) ?_
     refine .step rfl (.move rfl rfl) ?_
     refine .step rfl (.callf rfl cf98 rfl ⟨trivial, trivial, trivial⟩ (rbit_pf ix (((p.path.length - 1 - k) : Nat) : Int))) ?_
     refine .step rfl (.bin rfl rfl rfl rfl) ?_
     refine .nil ?_
     refine .next ?_
     refine .cond rfl (fun h3 => ?_) (fun h3 => ?_)
     ·skip
      have hb : bitI ix (((p.path.length - 1 - k) : Nat) : Int) = 1 := of_decide_eq_true h3
      refine .sub [(7, .el (hdv (txH ix p k))), (3, .el p.dv), (8, .v (.int .i64 (((p.path.length - 1 - k) : Nat) : Int)))] [(2, .d (.el (hdv ix))), (3, .d (.el p.dv)), (6, .ow 4 (k + 1) 1), (7, .ptr 5 0), (8, .d (.v (.int .i64 (((p.path.length - 1 - k) : Nat) : Int))))] 9 (slT bdv 1 (textB 110 [H.l o, H.l (txH ix p k)])) rfl ⟨rfl, rfl, rfl, trivial⟩ ⟨⟨rfl, rfl⟩, ⟨rfl, rfl⟩, ⟨rfl, rfl⟩, ⟨rfl, rfl⟩, ⟨rfl, rfl⟩, trivial⟩ (fun w1 us => ?_) ?_
      ·skip
       refine .draw open_wide rfl mixed [Ro.mk _ (Eff.mk (some (46, _)) []) [], Ro.mk _ (Eff.mk (some (47, _)) []) [], Ro.mk _ (Eff.mk (some (48, _)) []) [], Ro.mk _ (Eff.mk (some (49, _)) []) [], Ro.mk _ (Eff.mk (some (50, _)) []) [], Ro.mk _ (Eff.mk (some (51, _)) []) [], Ro.mk _ (Eff.mk (some (52, _)) [(7, _)]) [7], Ro.mk _ (Eff.mk (some (53, _)) []) [7], Ro.mk _ (Eff.mk (some (9, _)) []) []] rfl ⟨(fun _ _ => .fielde rfl rfl rfl fo81_0), (fun _ _ => .lde rfl rfl rfl rfl tk52), (fun _ _ => .move rfl rfl), (fun _ _ => .idx (o) rfl rfl rfl rfl et52 (fun _ => rfl) (Int.natCast_nonneg _) (by rw [back_get hj, ho])), (fun _ _ => .slicee rfl rfl rfl ar41 (Nat.le_of_ble_eq_true rfl) (by decide)), (fun _ _ => .slicee rfl rfl rfl ar41 (Nat.le_of_ble_eq_true rfl) (by decide)), (fun _ _ => .buildsl 7 rfl rfl rfl ap133 zc22 rfl rfl rfl), (fun _ _ => .callf rfl cf132 rfl ⟨trivial, okA_len rfl rfl, trivial⟩ (rtext_pf 110 [H.l o, H.l (txH ix p k)] (by decide) (by decide) (text2_len _ _))), (fun _ _ => .assign rfl rfl), trivial⟩ (by kernel_rfl) ?_
       exact TE.subend rfl rfl trivial
      ·skip
       rw [show textB 110 [H.l o, H.l (txH ix p k)] = (stepT ix o (txH ix p k) (p.path.length - 1 - k)) by unfold stepT; rw [if_pos hb]]
       refine .next ?_
       refine .seq ?_
       refine .region ?_
       refine .step rfl (.move rfl rfl) ?_
       refine .step rfl (.buildsl 8 rfl rfl rfl ap133 zc22 rfl rfl rfl) ?_
       refine .step rfl (.move rfl rfl) ?_
       refine .step rfl (.append 9 rfl rfl rfl rfl rfl ap133 rfl rfl (okA_len rfl (ldv_cells _ _ (by rw [List.length_reverse]; exact txL_len k (by omega)))) (flat_one (fun _ => rfl) _) (by omega) (by omega)) ?_
       refine .step rfl (.assign rfl rfl) ?_
       refine .nil ?_
       refine .next ?_
       refine .region ?_
       refine .step rfl (.move rfl rfl) ?_
       refine .step rfl (.callf rfl cf90 rfl ⟨trivial, trivial⟩ (rsum_pf (stepT ix o (txH ix p k) (p.path.length - 1 - k)) (stepT_len _ _ _ _))) ?_
       refine .step rfl (.store rfl rfl rfl sz41 rfl rfl) ?_
       refine .nil ?_
       refine TE.blk ?_
       refine .next ?_
       refine .region ?_
       refine .step rfl (.move rfl rfl) ?_
       refine .step rfl (.binv (.int .i64 ((p.path.length : Int) - 1 - ((k + 1 : Nat) : Int))) rfl rfl rfl rfl (congrArg _ (by (try dsimp only); rw [IntKind.wrap_i64]; omega))) ?_
       refine .step rfl (.assign rfl rfl) ?_
       refine .nil ?_
       refine TE.obj 9 (.row 22 1 ((txL ix p (k + 1)).reverse.flatMap ldv)) rfl (by rw [txL_step hj, ho, List.reverse_append]; rfl) ?_
       refine TE.set 6 (.ow 9 (k + 1 + 1) 1) rfl (by rw [Nat.add_comm]) ?_
       refine TE.obj 5 (.box 41 (hdv (txH ix p (k + 1)))) rfl (by rw [txH_step hj, ho]; rfl) ?_
       refine TE.setv 8 (.int .i64 ((p.path.length : Int) - 1 - ((k + 1 : Nat) : Int))) rfl rfl ?_
       exact TE.round (swp 4 9) (swp_inj 4 9) (k + 1) (by omega) (by omega) ⟨⟨rfl, rfl⟩, ⟨rfl, rfl⟩, ⟨rfl, rfl⟩, ⟨rfl, rfl⟩, ⟨rfl, rfl⟩, trivial⟩ ⟨.inl rfl, .inl rfl, .inl rfl, .inr rfl, .inr rfl, trivial⟩
     ·skip
      have hb : ¬ bitI ix (((p.path.length - 1 - k) : Nat) : Int) = 1 := of_decide_eq_false h3
      rw [show textB 110 [H.l (txH ix p k), H.l o] = (stepT ix o (txH ix p k) (p.path.length - 1 - k)) by unfold stepT; rw [if_neg hb]]
      refine .skip ?_
      refine .next ?_
      refine .seq ?_
      refine .region ?_
      refine .step rfl (.move rfl rfl) ?_
      refine .step rfl (.buildsl 10 rfl rfl rfl ap133 zc22 rfl rfl rfl) ?_
      refine .step rfl (.move rfl rfl) ?_
      refine .step rfl (.append 11 rfl rfl rfl rfl rfl ap133 rfl rfl (okA_len rfl (ldv_cells _ _ (by rw [List.length_reverse]; exact txL_len k (by omega)))) (flat_one (fun _ => rfl) _) (by omega) (by omega)) ?_
      refine .step rfl (.assign rfl rfl) ?_
      refine .nil ?_
      refine .next ?_
      refine .region ?_
      refine .step rfl (.move rfl rfl) ?_
      refine .step rfl (.callf rfl cf90 rfl ⟨trivial, trivial⟩ (rsum_pf (stepT ix o (txH ix p k) (p.path.length - 1 - k)) (stepT_len _ _ _ _))) ?_
      refine .step rfl (.store rfl rfl rfl sz41 rfl rfl) ?_
      refine .nil ?_
      refine TE.blk ?_
      refine .next ?_
      refine .region ?_
      refine .step rfl (.move rfl rfl) ?_
      refine .step rfl (.binv (.int .i64 ((p.path.length : Int) - 1 - ((k + 1 : Nat) : Int))) rfl rfl rfl rfl (congrArg _ (by (try dsimp only); rw [IntKind.wrap_i64]; omega))) ?_
      refine .step rfl (.assign rfl rfl) ?_
      refine .nil ?_
      refine TE.obj 11 (.row 22 1 ((txL ix p (k + 1)).reverse.flatMap ldv)) rfl (by rw [txL_step hj, ho, List.reverse_append]; rfl) ?_
      refine TE.set 6 (.ow 11 (k + 1 + 1) 1) rfl (by rw [Nat.add_comm]) ?_
      refine TE.obj 5 (.box 41 (hdv (txH ix p (k + 1)))) rfl (by rw [txH_step hj, ho]; rfl) ?_
      refine TE.setv 8 (.int .i64 ((p.path.length : Int) - 1 - ((k + 1 : Nat) : Int))) rfl rfl ?_
      exact TE.round (swp 4 11) (swp_inj 4 11) (k + 1) (by omega) (by omega) ⟨⟨rfl, rfl⟩, ⟨rfl, rfl⟩, ⟨rfl, rfl⟩, ⟨rfl, rfl⟩, ⟨rfl, rfl⟩, trivial⟩ ⟨.inl rfl, .inl rfl, .inl rfl, .inr rfl, .inr rfl, trivial⟩
   ·skip
    have hk : k = p.path.length := by have q := of_decide_eq_false h2; (try dsimp only at q); omega
    subst hk
    refine .exit ?_
    refine TE.pass ?_
    refine TE.pass ?_
    refine TE.here ?_
    refine .next ?_
    refine .seq ?_
    refine .region ?_
    refine .step rfl (.move rfl rfl) ?_
    refine .step rfl (.assign rfl rfl) ?_
    refine .nil ?_
    refine .next ?_
    refine .ret ?_
    refine TE.frz 4 (slT ldv 1 (txL ix p p.path.length).reverse) rfl rfl (ldv_cells _ _ (by rw [List.length_reverse]; exact txL_len _ (Nat.le_refl _))) (by unfold slT; rw [List.length_reverse, txL_len _ (Nat.le_refl _)]) ?_
    exact TE.retc rfl rfl rfl
  ·skip
   have he : p.en = 1 := by simpa using h1
   have hE : textB 122 [] = endT p := by unfold endT; rw [if_pos he]
   rw [hE]
   refine .skip ?_
   refine .next ?_
   refine .seq ?_
   refine .region ?_
   refine .step rfl (.move rfl rfl) ?_
   refine .step rfl (.buildsl 12 rfl rfl rfl ap133 zc22 rfl rfl rfl) ?_
   refine .step rfl (.assign rfl rfl) ?_
   refine .nil ?_
   refine .next ?_
   refine .seq ?_
   refine .region ?_
   refine .step rfl (.move rfl rfl) ?_
   refine .step rfl (.callf rfl cf90 rfl ⟨trivial, trivial⟩ (rsum_pf (endT p) (endT_len p))) ?_
   refine .step rfl (.alloc 13 rfl rfl zc41 rfl) ?_
   refine .step rfl (.store rfl rfl rfl sz41 rfl rfl) ?_
   refine .nil ?_
   refine TE.obj 13 (.box 41 (hdv (txH ix p 0))) rfl rfl ?_
   refine TE.obj 12 (.row 22 1 ((txL ix p 0).reverse.flatMap ldv)) rfl rfl ?_
   refine .next ?_
   refine .seq ?_
   refine .seq ?_
   refine .region ?_
   refine .step rfl (.fielde rfl rfl rfl fo81_0) ?_
   refine .step rfl (.lde rfl rfl rfl rfl tk52) ?_
   refine .step rfl (.len rfl rfl ⟨_, _, rfl⟩ is52) ?_
   refine .step rfl (.binv (.int .i64 ((p.path.length : Int) - 1)) rfl rfl rfl rfl (congrArg _ (by rw [IntKind.wrap_i64]; omega))) ?_
   refine .step rfl (.assign rfl rfl) ?_
   refine .nil ?_
   refine TE.setv 8 (.int .i64 ((p.path.length : Int) - 1 - ((0 : Nat) : Int))) rfl (congrArg _ (by simp)) ?_
   refine .next ?_
   refine .block ?_
   refine TC.loop (S := Nat) (fun k => k ≤ p.path.length) (fun k => p.path.length - k) (fun k => [(2, .d (.el (hdv ix))), (3, .d (.el p.dv)), (6, .ow 12 (k + 1) 1), (7, .ptr 13 0), (8, .d (.v (.int .i64 ((p.path.length : Int) - 1 - (k : Int)))))]) (fun k => [(1, .dead), (2, .dead), (12, .row 22 1 ((txL ix p k).reverse.flatMap ldv)), (13, .box 41 (hdv (txH ix p k)))]) (0) (Nat.zero_le _) ⟨⟨rfl, rfl⟩, ⟨rfl, rfl⟩, ⟨rfl, rfl⟩, ⟨rfl, rfl⟩, ⟨rfl, rfl⟩, trivial⟩ ⟨.inl rfl, .inl rfl, .inr rfl, .inr rfl, trivial⟩ (fun k hI => ?_)
   refine .seq ?_
   refine .seq ?_
   refine .region ?_
   refine .step rfl (.move rfl rfl) ?_
   refine .step rfl (.bin rfl rfl rfl rfl) ?_
   refine .nil ?_
   refine .next ?_
   refine .cond rfl (fun h4 => ?_) (fun h4 => ?_)
   ·skip
    have hk : k < p.path.length := by have q := of_decide_eq_true h4; (try dsimp only at q); omega
    have hj : p.path.length - 1 - k < p.path.length := by omega
    obtain ⟨o, ho⟩ : ∃ o, p.path[p.path.length - 1 - k] = o := ⟨_, rfl⟩
    refine TC.setv 8 (.int .i64 (((p.path.length - 1 - k) : Nat) : Int)) rfl (congrArg _ (by (try dsimp only); omega)) ?_
    refine .skip ?_
    refine .next ?_
    refine .seq ?_
    refine .block ?_
    refine .seq ?_
    refine .sub [(7, .el (hdv (txH ix p k))), (3, .el p.dv), (8, .v (.int .i64 (((p.path.length - 1 - k) : Nat) : Int)))] [(2, .d (.el (hdv ix))), (3, .d (.el p.dv)), (6, .ow 12 (k + 1) 1), (7, .ptr 13 0), (8, .d (.v (.int .i64 (((p.path.length - 1 - k) : Nat) : Int))))] 9 (slT bdv 1 (textB 110 [H.l (txH ix p k), H.l o])) rfl ⟨rfl, rfl, rfl, trivial⟩ ⟨⟨rfl, rfl⟩, ⟨rfl, rfl⟩, ⟨rfl, rfl⟩, ⟨rfl, rfl⟩, ⟨rfl, rfl⟩, trivial⟩ (fun w1 us => ?_) ?_
    ·skip
     refine .draw open_wide rfl mixed [Ro.mk _ (Eff.mk (some (34, _)) []) [], Ro.mk _ (Eff.mk (some (35, _)) []) [], Ro.mk _ (Eff.mk (some (36, _)) []) [], Ro.mk _ (Eff.mk (some (37, _)) []) [], Ro.mk _ (Eff.mk (some (38, _)) []) [], Ro.mk _ (Eff.mk (some (39, _)) []) [], Ro.mk _ (Eff.mk (some (40, _)) [(14, _)]) [14], Ro.mk _ (Eff.mk (some (41, _)) []) [14], Ro.mk _ (Eff.mk (some (9, _)) []) []] rfl ⟨(fun _ _ => .slicee rfl rfl rfl ar41 (Nat.le_of_ble_eq_true rfl) (by decide)), (fun _ _ => .fielde rfl rfl rfl fo81_0), (fun _ _ => .lde rfl rfl rfl rfl tk52), (fun _ _ => .move rfl rfl), (fun _ _ => .idx (o) rfl rfl rfl rfl et52 (fun _ => rfl) (Int.natCast_nonneg _) (by rw [back_get hj, ho])), (fun _ _ => .slicee rfl rfl rfl ar41 (Nat.le_of_ble_eq_true rfl) (by decide)), (fun _ _ => .buildsl 14 rfl rfl rfl ap133 zc22 rfl rfl rfl), (fun _ _ => .callf rfl cf132 rfl ⟨trivial, okA_len rfl rfl, trivial⟩ (rtext_pf 110 [H.l (txH ix p k), H.l o] (by decide) (by decide) (text2_len _ _))), (fun _ _ => .assign rfl rfl), trivial⟩ (by kernel_rfl) ?_
     exact TE.subend rfl rfl trivial
    ·skip
     refine .next ?_
     refine .seq ?_
     refine .seq ?_
     refine .region ?_
     refine .step rfl (.ldem (ds := hdv ix) rfl rfl rfl rfl rfl tk41) ?_
     refine .step rfl (.move rfl rfl) ?_
     refine .step rfl (.callf rfl cf98 rfl ⟨trivial, trivial, trivial⟩ (rbit_pf ix (((p.path.length - 1 - k) : Nat) : Int))) ?_
     refine .step rfl (.bin rfl rfl rfl rfl) ?_
     refine .nil ?_
     refine .next ?_
     refine .cond rfl (fun h5 => ?_) (fun h5 => ?_)
     ·skip
      have hb : bitI ix (((p.path.length - 1 - k) : Nat) : Int) = 1 := of_decide_eq_true h5
      refine .sub [(7, .el (hdv (txH ix p k))), (3, .el p.dv), (8, .v (.int .i64 (((p.path.length - 1 - k) : Nat) : Int)))] [(2, .d (.el (hdv ix))), (3, .d (.el p.dv)), (6, .ow 12 (k + 1) 1), (7, .ptr 13 0), (8, .d (.v (.int .i64 (((p.path.length - 1 - k) : Nat) : Int))))] 9 (slT bdv 1 (textB 110 [H.l o, H.l (txH ix p k)])) rfl ⟨rfl, rfl, rfl, trivial⟩ ⟨⟨rfl, rfl⟩, ⟨rfl, rfl⟩, ⟨rfl, rfl⟩, ⟨rfl, rfl⟩, ⟨rfl, rfl⟩, trivial⟩ (fun w1 us => ?_) ?_
      ·skip
       refine .draw open_wide rfl mixed [Ro.mk _ (Eff.mk (some (46, _)) []) [], Ro.mk _ (Eff.mk (some (47, _)) []) [], Ro.mk _ (Eff.mk (some (48, _)) []) [], Ro.mk _ (Eff.mk (some (49, _)) []) [], Ro.mk _ (Eff.mk (some (50, _)) []) [], Ro.mk _ (Eff.mk (some (51, _)) []) [], Ro.mk _ (Eff.mk (some (52, _)) [(15, _)]) [15], Ro.mk _ (Eff.mk (some (53, _)) []) [15], Ro.mk _ (Eff.mk (some (9, _)) []) []] rfl ⟨(fun _ _ => .fielde rfl rfl rfl fo81_0), (fun _ _ => .lde rfl rfl rfl rfl tk52), (fun _ _ => .move rfl rfl), (fun _ _ => .idx (o) rfl rfl rfl rfl et52 (fun _ => rfl) (Int.natCast_nonneg _) (by rw [back_get hj, ho])), (fun _ _ => .slicee rfl rfl rfl ar41 (Nat.le_of_ble_eq_true rfl) (by decide)), (fun _ _ => .slicee rfl rfl rfl ar41 (Nat.le_of_ble_eq_true rfl) (by decide)), (fun _ _ => .buildsl 15 rfl rfl rfl ap133 zc22 rfl rfl rfl), (fun _ _ => .callf rfl cf132 rfl ⟨trivial, okA_len rfl rfl, trivial⟩ (rtext_pf 110 [H.l o, H.l (txH ix p k)] (by decide) (by decide) (text2_len _ _))), (fun _ _ => .assign rfl rfl), trivial⟩ (by kernel_rfl) ?_
       exact TE.subend rfl rfl trivial
      ·skip
       rw [show textB 110 [H.l o, H.l (txH ix p k)] = (stepT ix o (txH ix p k) (p.path.length - 1 - k)) by unfold stepT; rw [if_pos hb]]
       refine .next ?_
       refine .seq ?_
       refine .region ?_
       refine .step rfl (.move rfl rfl) ?_
       refine .step rfl (.buildsl 16 rfl rfl rfl ap133 zc22 rfl rfl rfl) ?_
       refine .step rfl (.move rfl rfl) ?_
       refine .step rfl (.append 17 rfl rfl rfl rfl rfl ap133 rfl rfl (okA_len rfl (ldv_cells _ _ (by rw [List.length_reverse]; exact txL_len k (by omega)))) (flat_one (fun _ => rfl) _) (by omega) (by omega)) ?_
       refine .step rfl (.assign rfl rfl) ?_
       refine .nil ?_
       refine .next ?_
       refine .region ?_
       refine .step rfl (.move rfl rfl) ?_
       refine .step rfl (.callf rfl cf90 rfl ⟨trivial, trivial⟩ (rsum_pf (stepT ix o (txH ix p k) (p.path.length - 1 - k)) (stepT_len _ _ _ _))) ?_
       refine .step rfl (.store rfl rfl rfl sz41 rfl rfl) ?_
       refine .nil ?_
       refine TE.blk ?_
       refine .next ?_
       refine .region ?_
       refine .step rfl (.move rfl rfl) ?_
       refine .step rfl (.binv (.int .i64 ((p.path.length : Int) - 1 - ((k + 1 : Nat) : Int))) rfl rfl rfl rfl (congrArg _ (by (try dsimp only); rw [IntKind.wrap_i64]; omega))) ?_
       refine .step rfl (.assign rfl rfl) ?_
       refine .nil ?_
       refine TE.obj 17 (.row 22 1 ((txL ix p (k + 1)).reverse.flatMap ldv)) rfl (by rw [txL_step hj, ho, List.reverse_append]; rfl) ?_
       refine TE.set 6 (.ow 17 (k + 1 + 1) 1) rfl (by rw [Nat.add_comm]) ?_
       refine TE.obj 13 (.box 41 (hdv (txH ix p (k + 1)))) rfl (by rw [txH_step hj, ho]; rfl) ?_
       refine TE.setv 8 (.int .i64 ((p.path.length : Int) - 1 - ((k + 1 : Nat) : Int))) rfl rfl ?_
       exact TE.round (swp 12 17) (swp_inj 12 17) (k + 1) (by omega) (by omega) ⟨⟨rfl, rfl⟩, ⟨rfl, rfl⟩, ⟨rfl, rfl⟩, ⟨rfl, rfl⟩, ⟨rfl, rfl⟩, trivial⟩ ⟨.inl rfl, .inl rfl, .inr rfl, .inr rfl, trivial⟩
     ·skip
      have hb : ¬ bitI ix (((p.path.length - 1 - k) : Nat) : Int) = 1 := of_decide_eq_false h5
      rw [show textB 110 [H.l (txH ix p k), H.l o] = (stepT ix o (txH ix p k) (p.path.length - 1 - k)) by unfold stepT; rw [if_neg hb]]
      refine .skip ?_
      refine .next ?_
      refine .seq ?_
      refine .region ?_
      refine .step rfl (.move rfl rfl) ?_
      refine .step rfl (.buildsl 18 rfl rfl rfl ap133 zc22 rfl rfl rfl) ?_
      refine .step rfl (.move rfl rfl) ?_
      refine .step rfl (.append 19 rfl rfl rfl rfl rfl ap133 rfl rfl (okA_len rfl (ldv_cells _ _ (by rw [List.length_reverse]; exact txL_len k (by omega)))) (flat_one (fun _ => rfl) _) (by omega) (by omega)) ?_
      refine .step rfl (.assign rfl rfl) ?_
      refine .nil ?_
      refine .next ?_
      refine .region ?_
      refine .step rfl (.move rfl rfl) ?_
      refine .step rfl (.callf rfl cf90 rfl ⟨trivial, trivial⟩ (rsum_pf (stepT ix o (txH ix p k) (p.path.length - 1 - k)) (stepT_len _ _ _ _))) ?_
      refine .step rfl (.store rfl rfl rfl sz41 rfl rfl) ?_
      refine .nil ?_
      refine TE.blk ?_
      refine .next ?_
      refine .region ?_
      refine .step rfl (.move rfl rfl) ?_
      refine .step rfl (.binv (.int .i64 ((p.path.length : Int) - 1 - ((k + 1 : Nat) : Int))) rfl rfl rfl rfl (congrArg _ (by (try dsimp only); rw [IntKind.wrap_i64]; omega))) ?_
      refine .step rfl (.assign rfl rfl) ?_
      refine .nil ?_
      refine TE.obj 19 (.row 22 1 ((txL ix p (k + 1)).reverse.flatMap ldv)) rfl (by rw [txL_step hj, ho, List.reverse_append]; rfl) ?_
      refine TE.set 6 (.ow 19 (k + 1 + 1) 1) rfl (by rw [Nat.add_comm]) ?_
      refine TE.obj 13 (.box 41 (hdv (txH ix p (k + 1)))) rfl (by rw [txH_step hj, ho]; rfl) ?_
      refine TE.setv 8 (.int .i64 ((p.path.length : Int) - 1 - ((k + 1 : Nat) : Int))) rfl rfl ?_
      exact TE.round (swp 12 19) (swp_inj 12 19) (k + 1) (by omega) (by omega) ⟨⟨rfl, rfl⟩, ⟨rfl, rfl⟩, ⟨rfl, rfl⟩, ⟨rfl, rfl⟩, ⟨rfl, rfl⟩, trivial⟩ ⟨.inl rfl, .inl rfl, .inr rfl, .inr rfl, trivial⟩
   ·skip
    have hk : k = p.path.length := by have q := of_decide_eq_false h4; (try dsimp only at q); omega
    subst hk
    refine .exit ?_
    refine TE.pass ?_
    refine TE.pass ?_
    refine TE.here ?_
    refine .next ?_
    refine .seq ?_
    refine .region ?_
    refine .step rfl (.move rfl rfl) ?_
    refine .step rfl (.assign rfl rfl) ?_
    refine .nil ?_
    refine .next ?_
    refine .ret ?_
    refine TE.frz 4 (slT ldv 1 (txL ix p p.path.length).reverse) rfl rfl (ldv_cells _ _ (by rw [List.length_reverse]; exact txL_len _ (Nat.le_refl _))) (by unfold slT; rw [List.length_reverse, txL_len _ (Nat.le_refl _)]) ?_
    exact TE.retc rfl rfl rfl
end Go.Proofs.YtdjcclcejmeheaaGreat

