/-
  Keys and requests of few numbers.
-/
import Derived.Test.YtkkgjmfnlabbdaaWf
import Derived.Test.YtkkgjmfnlabbdaaDs
namespace Go.Proofs.Ytkkgjmfnlabbdaa
set_option linter.unusedVariables false
set_option linter.unusedSimpArgs false
open Go.RowKit Pl

theorem cf16 : cfn Try.prog 16 = true := by kernel_rfl
theorem cf19 : cfn Try.prog 19 = true := by kernel_rfl
theorem cf20 : cfn Try.prog 20 = true := by kernel_rfl
theorem cf30 : cfn Try.prog 30 = true := by kernel_rfl
theorem fo27_3 : fo Try.prog 27 3 = some 3 := by kernel_rfl
theorem sp27 : stp Try.prog 27 = some ([.string ⟨#[]⟩, .int .i64 0, .int .u64 0, .int .i64 0, .int .u64 0, .int .u64 0], [(0, 1), (1, 1), (2, 1), (3, 1), (4, 2)]) := by kernel_rfl
theorem sz23 : szt Try.prog 23 = some 1 := by kernel_rfl
theorem sz3 : szt Try.prog 3 = some 1 := by kernel_rfl
theorem uk5 : ukd Try.prog 5 = some .u8 := by kernel_rfl

set_option maxRecDepth 100000 in
set_option maxHeartbeats 1600000 in
theorem key_pf (nm : List UInt8) (v : Int) (alt : Bool) (hn : nm.length ≤ 1048576) : PF Try.prog 16 [.v (strV nm), .v (.int .i64 v), .v (.bool alt)] (.v (.int .u64 (keyF nm v alt))) := by
  refine PF.enter (fn := Try.f16) Try.func16 rfl Try.ntmps16 rfl (fun w0 => ?_)
  refine .seq ?_
  refine .region ?_
  refine .step rfl (.assign rfl rfl) ?_
  refine .nil ?_
  refine .next ?_
  refine .seq ?_
  refine .region ?_
  refine .step rfl (.move rfl rfl) ?_
  refine .step rfl (.move rfl rfl) ?_
  refine .step rfl (.move rfl rfl) ?_
  refine .step rfl (.callf rfl cf19 rfl ⟨trivial, trivial, trivial, trivial⟩ (secret_pf nm v alt hn)) ?_
  refine .step rfl (.callf rfl cf30 rfl ⟨trivial, trivial⟩ (public_pf _ (secF_bd _ _ _))) ?_
  refine .step rfl (.assign rfl rfl) ?_
  refine .nil ?_
  refine .next ?_
  refine .ret ?_
  exact TE.retf rfl rfl rfl trivial

set_option maxRecDepth 100000 in
set_option maxHeartbeats 1600000 in
theorem seatUpd_pf (nm : List UInt8) (v cls how : Int) (hn : nm.length ≤ 1048576) (h0 : 1 ≤ v) (hv : v ≤ 1073741824) (c0 : 0 ≤ cls) (c1 : cls < 256) (k0 : 0 ≤ how) : PF Try.prog 12 [.v (strV nm), .v (.int .i64 v), .v (.int .u8 cls), .v (.int .u8 how)] (.ag (seatU nm v cls how).dv) := by
  have hpre := preU_ok nm v cls how hn h0 hv c0
  have hw1 : IntKind.i64.wrap (v - 1) = v - 1 := by rw [IntKind.wrap_i64]; omega
  refine PF.enter (fn := Try.f12) Try.func12 rfl Try.ntmps12 rfl (fun w0 => ?_)
  refine .seq ?_
  refine .region ?_
  refine .step rfl (.alloc 1 rfl rfl zc27 rfl) ?_
  refine .nil ?_
  refine .next ?_
  refine .seq ?_
  refine .region ?_
  refine .step rfl (.move rfl rfl) ?_
  refine .step rfl (.move rfl rfl) ?_
  refine .step rfl (.move rfl rfl) ?_
  refine .step rfl (.rem (cls % 2) rfl rfl rfl (by decide) (Int.tmod_eq_emod_of_nonneg c0)) ?_
  refine .step rfl (.conviv (cls % 2) rfl rfl uk5 uk3 (by rw [IntKind.wrap_i64]; omega)) ?_
  refine .step rfl (.build rfl rfl sp27 rfl rfl) ?_
  refine .step rfl (.alloc 2 rfl rfl zc27 rfl) ?_
  refine .step rfl (.store rfl rfl rfl sz27 rfl rfl) ?_
  refine .nil ?_
  refine .next ?_
  refine .seq ?_
  refine .region ?_
  refine .step rfl (.move rfl rfl) ?_
  refine .step rfl (.move rfl rfl) ?_
  refine .step rfl (.move rfl rfl) ?_
  refine .step rfl (.rem (how % 8) rfl rfl rfl (by decide) (Int.tmod_eq_emod_of_nonneg k0)) ?_
  refine .step rfl (.bin rfl rfl rfl rfl) ?_
  refine .step rfl (.callf rfl cf16 rfl ⟨trivial, trivial, trivial, trivial⟩ (key_pf nm v _ hn)) ?_
  refine .step rfl (.fieldp rfl rfl rfl rfl fo27_2) ?_
  refine .step rfl (.store rfl rfl rfl sz23 rfl rfl) ?_
  refine .nil ?_
  refine .next ?_
  refine .seq ?_
  refine .region ?_
  refine .step rfl (.move rfl rfl) ?_
  refine .step rfl (.move rfl rfl) ?_
  refine .step rfl (.binv (.int .i64 (v - 1)) rfl rfl rfl rfl (congrArg _ hw1)) ?_
  refine .step rfl (.max2 rfl rfl rfl) ?_
  refine .step rfl (.move rfl rfl) ?_
  refine .step rfl (.rem (how % 8) rfl rfl rfl (by decide) (Int.tmod_eq_emod_of_nonneg k0)) ?_
  refine .step rfl (.bin rfl rfl rfl rfl) ?_
  refine .step rfl (.move rfl rfl) ?_
  refine .case 31 rfl (fun h1 => ?_) (fun h1 => ?_)
  · skip
    have hsix : decide (how % 8 = 6) = true := h1
    refine .go 31 rfl rfl rfl rfl (.move rfl rfl) ?_
    refine .go 31 rfl rfl rfl rfl (.bin rfl rfl rfl rfl) ?_
    refine .step rfl (.pick rfl rfl rfl) ?_
    refine .step rfl (.callf rfl cf19 rfl ⟨trivial, trivial, trivial, trivial⟩ (secret_pf nm (max (v - 1) 1) _ hn)) ?_
    refine .step rfl (.assign rfl rfl) ?_
    refine .nil ?_
    refine .next ?_
    refine .seq ?_
    refine .seq ?_
    refine .region ?_
    refine .step rfl (.move rfl rfl) ?_
    refine .step rfl (.rem (how % 8) rfl rfl rfl (by decide) (Int.tmod_eq_emod_of_nonneg k0)) ?_
    refine .step rfl (.bin rfl rfl rfl rfl) ?_
    refine .nil ?_
    refine .next ?_
    refine .cond rfl (fun h2 => ?_) (fun h2 => ?_)
    · skip
      have hfive : how % 8 = 5 := of_decide_eq_true h2
      refine .region ?_
      refine .step rfl (.move rfl rfl) ?_
      refine .step rfl (.binv (.int .u64 (u64 (secF nm (max (v - 1) 1) (decide (v = 1)) + 3))) rfl rfl rfl rfl (congrArg _ (by rw [IntKind.wrap_u64]; rfl))) ?_
      refine .step rfl (.assign rfl rfl) ?_
      refine .nil ?_
      refine .next ?_
      refine .seq ?_
      refine .region ?_
      refine .step rfl (.move rfl rfl) ?_
      refine .step rfl (.ldpm rfl rfl rfl rfl rfl rfl tk27) ?_
      refine .step rfl (.callf rfl cf20 rfl ⟨trivial, trivial, trivial⟩ (rsign_pf (u64 (secF nm (max (v - 1) 1) (decide (v = 1)) + 3)) ⟨nm, v, keyF nm v (decide (how % 8 = 6)), cls % 2, 0, 0⟩ (u64_bd _) hpre)) ?_
      refine .step rfl (.store rfl rfl rfl sz27 rfl rfl) ?_
      refine .nil ?_
      refine .next ?_
      refine .seq ?_
      refine .seq ?_
      refine .region ?_
      refine .step rfl (.move rfl rfl) ?_
      refine .step rfl (.rem (how % 8) rfl rfl rfl (by decide) (Int.tmod_eq_emod_of_nonneg k0)) ?_
      refine .step rfl (.bin rfl rfl rfl rfl) ?_
      refine .nil ?_
      refine .next ?_
      refine .cond rfl (fun h3 => ?_) (fun h3 => ?_)
      · skip
        have hseven : how % 8 = 7 := of_decide_eq_true h3
        exact absurd hseven (by omega)
      · skip
        have hseven : ¬ (how % 8 = 7) := of_decide_eq_false h3
        refine .skip ?_
        refine .next ?_
        refine .seq ?_
        refine .region ?_
        refine .step rfl (.ldpm rfl rfl rfl rfl rfl rfl tk27) ?_
        refine .step rfl (.store rfl rfl rfl sz27 rfl rfl) ?_
        refine .nil ?_
        refine .next ?_
        refine .ret ?_
        have e : seatU nm v cls how = signU (u64 (secF nm (max (v - 1) 1) (decide (v = 1)) + 3)) ⟨nm, v, keyF nm v (decide (how % 8 = 6)), cls % 2, 0, 0⟩ := by unfold seatU seatBy; rw [if_neg hseven, if_pos hfive]; simp only [hsix, Bool.true_and, Bool.false_and]
        rw [e]
        exact TE.retf rfl rfl rfl (pl_ag (pl_up _))
    · skip
      have hfive : ¬ (how % 8 = 5) := of_decide_eq_false h2
      refine .skip ?_
      refine .next ?_
      refine .seq ?_
      refine .region ?_
      refine .step rfl (.move rfl rfl) ?_
      refine .step rfl (.ldpm rfl rfl rfl rfl rfl rfl tk27) ?_
      refine .step rfl (.callf rfl cf20 rfl ⟨trivial, trivial, trivial⟩ (rsign_pf (secF nm (max (v - 1) 1) (decide (v = 1))) ⟨nm, v, keyF nm v (decide (how % 8 = 6)), cls % 2, 0, 0⟩ (secF_bd _ _ _) hpre)) ?_
      refine .step rfl (.store rfl rfl rfl sz27 rfl rfl) ?_
      refine .nil ?_
      refine .next ?_
      refine .seq ?_
      refine .seq ?_
      refine .region ?_
      refine .step rfl (.move rfl rfl) ?_
      refine .step rfl (.rem (how % 8) rfl rfl rfl (by decide) (Int.tmod_eq_emod_of_nonneg k0)) ?_
      refine .step rfl (.bin rfl rfl rfl rfl) ?_
      refine .nil ?_
      refine .next ?_
      refine .cond rfl (fun h4 => ?_) (fun h4 => ?_)
      · skip
        have hseven : how % 8 = 7 := of_decide_eq_true h4
        refine .region ?_
        refine .step rfl (.fieldp rfl rfl rfl rfl fo27_3) ?_
        refine .step rfl (.store rfl rfl rfl sz3 rfl rfl) ?_
        refine .nil ?_
        refine .next ?_
        refine .seq ?_
        refine .region ?_
        refine .step rfl (.ldpm rfl rfl rfl rfl rfl rfl tk27) ?_
        refine .step rfl (.store rfl rfl rfl sz27 rfl rfl) ?_
        refine .nil ?_
        refine .next ?_
        refine .ret ?_
        have e : seatU nm v cls how = { signU (secF nm (max (v - 1) 1) (decide (v = 1))) ⟨nm, v, keyF nm v (decide (how % 8 = 6)), cls % 2, 0, 0⟩ with cls := 5 } := by unfold seatU seatBy; rw [if_pos hseven, if_neg hfive]; simp only [hsix, Bool.true_and, Bool.false_and]
        rw [e]
        exact TE.retf rfl rfl rfl (pl_ag (pl_up ({ signU (secF nm (max (v - 1) 1) (decide (v = 1))) ⟨nm, v, keyF nm v (decide (how % 8 = 6)), cls % 2, 0, 0⟩ with cls := 5 })))
      · skip
        have hseven : ¬ (how % 8 = 7) := of_decide_eq_false h4
        refine .skip ?_
        refine .next ?_
        refine .seq ?_
        refine .region ?_
        refine .step rfl (.ldpm rfl rfl rfl rfl rfl rfl tk27) ?_
        refine .step rfl (.store rfl rfl rfl sz27 rfl rfl) ?_
        refine .nil ?_
        refine .next ?_
        refine .ret ?_
        have e : seatU nm v cls how = signU (secF nm (max (v - 1) 1) (decide (v = 1))) ⟨nm, v, keyF nm v (decide (how % 8 = 6)), cls % 2, 0, 0⟩ := by unfold seatU seatBy; rw [if_neg hseven, if_neg hfive]; simp only [hsix, Bool.true_and, Bool.false_and]
        rw [e]
        exact TE.retf rfl rfl rfl (pl_ag (pl_up _))
  · skip
    have hsix : decide (how % 8 = 6) = false := h1
    refine .no 31 rfl rfl rfl rfl rfl rfl rfl ?_
    refine .no 31 rfl rfl rfl rfl rfl rfl rfl ?_
    refine .step rfl (.pick rfl rfl rfl) ?_
    refine .step rfl (.callf rfl cf19 rfl ⟨trivial, trivial, trivial, trivial⟩ (secret_pf nm (max (v - 1) 1) _ hn)) ?_
    refine .step rfl (.assign rfl rfl) ?_
    refine .nil ?_
    refine .next ?_
    refine .seq ?_
    refine .seq ?_
    refine .region ?_
    refine .step rfl (.move rfl rfl) ?_
    refine .step rfl (.rem (how % 8) rfl rfl rfl (by decide) (Int.tmod_eq_emod_of_nonneg k0)) ?_
    refine .step rfl (.bin rfl rfl rfl rfl) ?_
    refine .nil ?_
    refine .next ?_
    refine .cond rfl (fun h5 => ?_) (fun h5 => ?_)
    · skip
      have hfive : how % 8 = 5 := of_decide_eq_true h5
      refine .region ?_
      refine .step rfl (.move rfl rfl) ?_
      refine .step rfl (.binv (.int .u64 (u64 (secF nm (max (v - 1) 1) false + 3))) rfl rfl rfl rfl (congrArg _ (by rw [IntKind.wrap_u64]; rfl))) ?_
      refine .step rfl (.assign rfl rfl) ?_
      refine .nil ?_
      refine .next ?_
      refine .seq ?_
      refine .region ?_
      refine .step rfl (.move rfl rfl) ?_
      refine .step rfl (.ldpm rfl rfl rfl rfl rfl rfl tk27) ?_
      refine .step rfl (.callf rfl cf20 rfl ⟨trivial, trivial, trivial⟩ (rsign_pf (u64 (secF nm (max (v - 1) 1) false + 3)) ⟨nm, v, keyF nm v (decide (how % 8 = 6)), cls % 2, 0, 0⟩ (u64_bd _) hpre)) ?_
      refine .step rfl (.store rfl rfl rfl sz27 rfl rfl) ?_
      refine .nil ?_
      refine .next ?_
      refine .seq ?_
      refine .seq ?_
      refine .region ?_
      refine .step rfl (.move rfl rfl) ?_
      refine .step rfl (.rem (how % 8) rfl rfl rfl (by decide) (Int.tmod_eq_emod_of_nonneg k0)) ?_
      refine .step rfl (.bin rfl rfl rfl rfl) ?_
      refine .nil ?_
      refine .next ?_
      refine .cond rfl (fun h6 => ?_) (fun h6 => ?_)
      · skip
        have hseven : how % 8 = 7 := of_decide_eq_true h6
        exact absurd hseven (by omega)
      · skip
        have hseven : ¬ (how % 8 = 7) := of_decide_eq_false h6
        refine .skip ?_
        refine .next ?_
        refine .seq ?_
        refine .region ?_
        refine .step rfl (.ldpm rfl rfl rfl rfl rfl rfl tk27) ?_
        refine .step rfl (.store rfl rfl rfl sz27 rfl rfl) ?_
        refine .nil ?_
        refine .next ?_
        refine .ret ?_
        have e : seatU nm v cls how = signU (u64 (secF nm (max (v - 1) 1) false + 3)) ⟨nm, v, keyF nm v (decide (how % 8 = 6)), cls % 2, 0, 0⟩ := by unfold seatU seatBy; rw [if_neg hseven, if_pos hfive]; simp only [hsix, Bool.true_and, Bool.false_and]
        rw [e]
        exact TE.retf rfl rfl rfl (pl_ag (pl_up _))
    · skip
      have hfive : ¬ (how % 8 = 5) := of_decide_eq_false h5
      refine .skip ?_
      refine .next ?_
      refine .seq ?_
      refine .region ?_
      refine .step rfl (.move rfl rfl) ?_
      refine .step rfl (.ldpm rfl rfl rfl rfl rfl rfl tk27) ?_
      refine .step rfl (.callf rfl cf20 rfl ⟨trivial, trivial, trivial⟩ (rsign_pf (secF nm (max (v - 1) 1) false) ⟨nm, v, keyF nm v (decide (how % 8 = 6)), cls % 2, 0, 0⟩ (secF_bd _ _ _) hpre)) ?_
      refine .step rfl (.store rfl rfl rfl sz27 rfl rfl) ?_
      refine .nil ?_
      refine .next ?_
      refine .seq ?_
      refine .seq ?_
      refine .region ?_
      refine .step rfl (.move rfl rfl) ?_
      refine .step rfl (.rem (how % 8) rfl rfl rfl (by decide) (Int.tmod_eq_emod_of_nonneg k0)) ?_
      refine .step rfl (.bin rfl rfl rfl rfl) ?_
      refine .nil ?_
      refine .next ?_
      refine .cond rfl (fun h7 => ?_) (fun h7 => ?_)
      · skip
        have hseven : how % 8 = 7 := of_decide_eq_true h7
        refine .region ?_
        refine .step rfl (.fieldp rfl rfl rfl rfl fo27_3) ?_
        refine .step rfl (.store rfl rfl rfl sz3 rfl rfl) ?_
        refine .nil ?_
        refine .next ?_
        refine .seq ?_
        refine .region ?_
        refine .step rfl (.ldpm rfl rfl rfl rfl rfl rfl tk27) ?_
        refine .step rfl (.store rfl rfl rfl sz27 rfl rfl) ?_
        refine .nil ?_
        refine .next ?_
        refine .ret ?_
        have e : seatU nm v cls how = { signU (secF nm (max (v - 1) 1) false) ⟨nm, v, keyF nm v (decide (how % 8 = 6)), cls % 2, 0, 0⟩ with cls := 5 } := by unfold seatU seatBy; rw [if_pos hseven, if_neg hfive]; simp only [hsix, Bool.true_and, Bool.false_and]
        rw [e]
        exact TE.retf rfl rfl rfl (pl_ag (pl_up ({ signU (secF nm (max (v - 1) 1) false) ⟨nm, v, keyF nm v (decide (how % 8 = 6)), cls % 2, 0, 0⟩ with cls := 5 })))
      · skip
        have hseven : ¬ (how % 8 = 7) := of_decide_eq_false h7
        refine .skip ?_
        refine .next ?_
        refine .seq ?_
        refine .region ?_
        refine .step rfl (.ldpm rfl rfl rfl rfl rfl rfl tk27) ?_
        refine .step rfl (.store rfl rfl rfl sz27 rfl rfl) ?_
        refine .nil ?_
        refine .next ?_
        refine .ret ?_
        have e : seatU nm v cls how = signU (secF nm (max (v - 1) 1) false) ⟨nm, v, keyF nm v (decide (how % 8 = 6)), cls % 2, 0, 0⟩ := by unfold seatU seatBy; rw [if_neg hseven, if_neg hfive]; simp only [hsix, Bool.true_and, Bool.false_and]
        rw [e]
        exact TE.retf rfl rfl rfl (pl_ag (pl_up _))

end Go.Proofs.Ytkkgjmfnlabbdaa
