/-
  TreeBits.
-/
import Derived.Test.YthbcbfghfhecjaaVq
import Derived.Test.YthbcbfghfhecjaaTj
namespace Go.Proofs.Ythbcbfghfhecjaa
set_option linter.unusedVariables false
set_option linter.unusedSimpArgs false
open Go.RowKit Pl

theorem cf7 : cfn Try.prog 7 = true := by kernel_rfl

set_option maxRecDepth 100000 in
set_option maxHeartbeats 1600000 in
theorem treeBits_pf (h : H) : PF Try.prog 6 [.ag (hdv h)] (.v (.bool true)) := by
  refine PF.enter (fn := Try.f6) Try.func6 rfl Try.ntmps6 rfl (fun w0 => ?_)
  refine .seq ?_
  refine .region ?_
  refine .step rfl (.box 1 rfl rfl rfl rfl) ?_
  refine .step rfl (.assign rfl rfl) ?_
  refine .nil ?_
  refine TE.frzb 1 rfl rfl rfl rfl ?_
  refine .next ?_
  refine .seq ?_
  refine .seq ?_
  refine .region ?_
  refine .step rfl (.callf rfl cf7 rfl trivial (known_pf)) ?_
  refine .step rfl (.un rfl rfl rfl) ?_
  refine .nil ?_
  refine .next ?_
  refine .cond rfl (fun h1 => absurd h1 (by decide)) (fun h1 => ?_)
  refine .skip ?_
  refine .next ?_
  refine .seq ?_
  refine .region ?_
  refine .step rfl (.alloc 2 rfl rfl zc24 rfl) ?_
  refine .nil ?_
  refine TE.obj 2 (.box 24 (hdv (gN h 0))) rfl (by rw [gN_zero]; rfl) ?_
  refine .next ?_
  refine .seq ?_
  refine .seq ?_
  refine .region ?_
  refine .step rfl (.assign rfl rfl) ?_
  refine .nil ?_
  refine TE.setv 4 (.int .i64 ((0 : Nat) : Int)) rfl (congrArg _ (by first | rfl | (dsimp only; first | done | rfl | omega))) ?_
  refine .next ?_
  refine .block ?_
  refine TC.loop (S := Nat) (fun i => i ≤ 256) (fun i => 256 - i) (fun i => [(0, .d (.ag (hdv h))), (1, .d (.el (hdv h))), (3, .ptr 2 0), (4, .d (.v (.int .i64 ((i : Nat) : Int))))]) (fun i => [(1, .dead), (2, .box 24 (hdv (gN h i)))]) (0) (Nat.zero_le _) ⟨⟨rfl, rfl⟩, ⟨rfl, rfl⟩, ⟨rfl, rfl⟩, ⟨rfl, rfl⟩, trivial⟩ ⟨.inl rfl, .inr rfl, trivial⟩ (fun i hI => ?_)
  refine .seq ?_
  refine .seq ?_
  refine .region ?_
  refine .step rfl (.move rfl rfl) ?_
  refine .step rfl (.bin rfl rfl rfl rfl) ?_
  refine .nil ?_
  refine .next ?_
  refine .cond rfl (fun h2 => ?_) (fun h2 => ?_)
  · skip
    have hi : i < 256 := by have q := of_decide_eq_true h2; (try dsimp only at q); omega
    refine .skip ?_
    refine .next ?_
    refine .seq ?_
    refine .block ?_
    refine .seq ?_
    refine .region ?_
    refine .step rfl (.ldem (ds := hdv h) rfl rfl rfl rfl rfl tk24) ?_
    refine .step rfl (.move rfl rfl) ?_
    refine .step rfl (.callf rfl cf24 rfl ⟨trivial, trivial, trivial⟩ (bitI_nat h hi ▸ bit_pf h ((i : Nat) : Int))) ?_
    refine .step rfl (.assign rfl rfl) ?_
    refine .nil ?_
    refine .next ?_
    refine .seq ?_
    refine .seq ?_
    by_cases hz : ¬ bitN h i = 0
    · skip
      refine .region ?_
      refine .step rfl (.move rfl rfl) ?_
      refine .step rfl (.binv (.bool true) rfl rfl rfl rfl (by simp; omega)) ?_
      refine .step rfl (.move rfl rfl) ?_
      refine .go 17 rfl rfl rfl rfl (.move rfl rfl) ?_
      refine .go 17 rfl rfl rfl rfl (.binv (.bool false) rfl rfl rfl rfl (by have := bitN_lt h i; simp; omega)) ?_
      refine .step rfl (.pick rfl rfl rfl) ?_
      refine .nil ?_
      refine .next ?_
      refine .cond rfl (fun h4 => absurd h4 (by decide)) (fun h4 => ?_)
      refine .skip ?_
      refine .next ?_
      refine .region ?_
      refine .step rfl (.move rfl rfl) ?_
      refine .step rfl (.quo (((i / 8 : Nat) : Int)) rfl rfl rfl (by decide) (by rw [Int.tdiv_eq_ediv_of_nonneg (by omega), IntKind.wrap_i64]; omega)) ?_
      refine .step rfl (.move rfl rfl) ?_
      refine .step rfl (.quo (((i / 8 : Nat) : Int)) rfl rfl rfl (by decide) (by rw [Int.tdiv_eq_ediv_of_nonneg (by omega), IntKind.wrap_i64]; omega)) ?_
      refine .step rfl (.idxp rfl rfl rfl rfl rfl ar24 (Int.natCast_nonneg _) (by omega)) ?_
      refine .step rfl (.ldp rfl rfl rfl rfl (by rw [Nat.mul_one, Nat.zero_add, Int.toNat_natCast]; exact hdv_byte (gN h i) (by omega)) tk5) ?_
      refine .step rfl (.shl (((2 * (nextB h i).toNat / 2 - (nextB h i).toNat % 2 : Nat) : Int)) rfl rfl rfl (by decide) (shl_gN h hi)) ?_
      refine .step rfl (.move rfl rfl) ?_
      refine .step rfl (.conviv (((bitN h i : Nat) : Int)) rfl rfl uk3 uk5 (bit_cast h i)) ?_
      refine .step rfl (.bits ((((nextB h i).toNat : Nat) : Int)) rfl rfl rfl rfl (or_gN h i)) ?_
      refine .step rfl (.idxp rfl rfl rfl rfl rfl ar24 (Int.natCast_nonneg _) (by omega)) ?_
      refine .step rfl (.storeg rfl rfl rfl rfl sz5 rfl (by rw [h_len, Nat.mul_one, Nat.zero_add, Int.toNat_natCast]; show i / 8 + 1 ≤ 32; omega)) ?_
      refine .nil ?_
      refine TE.obj 2 (.box 24 (hdv (gN h (i + 1)))) rfl (by rw [Nat.mul_one, Nat.zero_add, Int.toNat_natCast]; exact congrArg (AO.box _) ((splice_set (gN h i) (by omega) (nextB h i)).trans (by rw [gN_step h hi]))) ?_
      refine TE.blk ?_
      refine .next ?_
      refine .region ?_
      refine .step rfl (.move rfl rfl) ?_
      refine .step rfl (.binv (.int .i64 ((i + 1 : Nat) : Int)) rfl rfl rfl rfl (congrArg _ (by (try dsimp only); rw [IntKind.wrap_i64]; omega))) ?_
      refine .step rfl (.assign rfl rfl) ?_
      refine .nil ?_
      refine TE.setv 4 (.int .i64 ((i + 1 : Nat) : Int)) rfl (congrArg _ (by first | rfl | (dsimp only; first | done | rfl | omega))) ?_
      exact TE.round id (fun _ _ e => e) (i + 1) (by omega) (by omega) ⟨⟨rfl, rfl⟩, ⟨rfl, rfl⟩, ⟨rfl, rfl⟩, ⟨rfl, rfl⟩, trivial⟩ ⟨.inl rfl, .inr rfl, trivial⟩
    · skip
      refine .region ?_
      refine .step rfl (.move rfl rfl) ?_
      refine .step rfl (.binv (.bool false) rfl rfl rfl rfl (by simp; omega)) ?_
      refine .step rfl (.move rfl rfl) ?_
      refine .no 17 rfl rfl rfl rfl rfl rfl rfl ?_
      refine .no 17 rfl rfl rfl rfl rfl rfl rfl ?_
      refine .step rfl (.pick rfl rfl rfl) ?_
      refine .nil ?_
      refine .next ?_
      refine .cond rfl (fun h5 => absurd h5 (by decide)) (fun h5 => ?_)
      refine .skip ?_
      refine .next ?_
      refine .region ?_
      refine .step rfl (.move rfl rfl) ?_
      refine .step rfl (.quo (((i / 8 : Nat) : Int)) rfl rfl rfl (by decide) (by rw [Int.tdiv_eq_ediv_of_nonneg (by omega), IntKind.wrap_i64]; omega)) ?_
      refine .step rfl (.move rfl rfl) ?_
      refine .step rfl (.quo (((i / 8 : Nat) : Int)) rfl rfl rfl (by decide) (by rw [Int.tdiv_eq_ediv_of_nonneg (by omega), IntKind.wrap_i64]; omega)) ?_
      refine .step rfl (.idxp rfl rfl rfl rfl rfl ar24 (Int.natCast_nonneg _) (by omega)) ?_
      refine .step rfl (.ldp rfl rfl rfl rfl (by rw [Nat.mul_one, Nat.zero_add, Int.toNat_natCast]; exact hdv_byte (gN h i) (by omega)) tk5) ?_
      refine .step rfl (.shl (((2 * (nextB h i).toNat / 2 - (nextB h i).toNat % 2 : Nat) : Int)) rfl rfl rfl (by decide) (shl_gN h hi)) ?_
      refine .step rfl (.move rfl rfl) ?_
      refine .step rfl (.conviv (((bitN h i : Nat) : Int)) rfl rfl uk3 uk5 (bit_cast h i)) ?_
      refine .step rfl (.bits ((((nextB h i).toNat : Nat) : Int)) rfl rfl rfl rfl (or_gN h i)) ?_
      refine .step rfl (.idxp rfl rfl rfl rfl rfl ar24 (Int.natCast_nonneg _) (by omega)) ?_
      refine .step rfl (.storeg rfl rfl rfl rfl sz5 rfl (by rw [h_len, Nat.mul_one, Nat.zero_add, Int.toNat_natCast]; show i / 8 + 1 ≤ 32; omega)) ?_
      refine .nil ?_
      refine TE.obj 2 (.box 24 (hdv (gN h (i + 1)))) rfl (by rw [Nat.mul_one, Nat.zero_add, Int.toNat_natCast]; exact congrArg (AO.box _) ((splice_set (gN h i) (by omega) (nextB h i)).trans (by rw [gN_step h hi]))) ?_
      refine TE.blk ?_
      refine .next ?_
      refine .region ?_
      refine .step rfl (.move rfl rfl) ?_
      refine .step rfl (.binv (.int .i64 ((i + 1 : Nat) : Int)) rfl rfl rfl rfl (congrArg _ (by (try dsimp only); rw [IntKind.wrap_i64]; omega))) ?_
      refine .step rfl (.assign rfl rfl) ?_
      refine .nil ?_
      refine TE.setv 4 (.int .i64 ((i + 1 : Nat) : Int)) rfl (congrArg _ (by first | rfl | (dsimp only; first | done | rfl | omega))) ?_
      exact TE.round id (fun _ _ e => e) (i + 1) (by omega) (by omega) ⟨⟨rfl, rfl⟩, ⟨rfl, rfl⟩, ⟨rfl, rfl⟩, ⟨rfl, rfl⟩, trivial⟩ ⟨.inl rfl, .inr rfl, trivial⟩
  · skip
    have hi : ¬ (i < 256) := by have q := of_decide_eq_false h2; (try dsimp only at q); omega
    have e : i = 256 := by have : i ≤ 256 := hI; omega
    subst e
    refine TC.obj 2 (.box 24 (hdv h)) rfl (by rw [gN_all]) ?_
    refine .exit ?_
    refine TE.pass ?_
    refine TE.pass ?_
    refine TE.here ?_
    refine .next ?_
    refine .seq ?_
    refine .region ?_
    refine .step rfl (.ldpm rfl rfl rfl rfl (show _ = hdv h from rfl) (h_len _) tk24) ?_
    refine .step rfl (.ldem (ds := hdv h) rfl rfl rfl rfl rfl tk24) ?_
    refine .step rfl (.eqht (a := h) (b := h) (rfl) rfl rfl rfl qh24) ?_
    refine .step rfl (.move rfl rfl) ?_
    refine .go 35 rfl rfl rfl rfl (.ldem (ds := hdv h) rfl rfl rfl rfl rfl tk24) ?_
    refine .go 35 rfl rfl rfl rfl (.callf rfl cf24 rfl ⟨trivial, trivial, trivial⟩ (bit_pf h (-1))) ?_
    refine .go 35 rfl rfl rfl rfl (.binv (.bool true) rfl rfl rfl rfl (by rw [bit_neg]; rfl)) ?_
    refine .step rfl (.pick rfl rfl rfl) ?_
    refine .step rfl (.move rfl rfl) ?_
    refine .go 40 rfl rfl rfl rfl (.ldem (ds := hdv h) rfl rfl rfl rfl rfl tk24) ?_
    refine .go 40 rfl rfl rfl rfl (.callf rfl cf24 rfl ⟨trivial, trivial, trivial⟩ (bit_pf h (256))) ?_
    refine .go 40 rfl rfl rfl rfl (.binv (.bool true) rfl rfl rfl rfl (by rw [bit_256]; rfl)) ?_
    refine .step rfl (.pick rfl rfl rfl) ?_
    refine .step rfl (.assign rfl rfl) ?_
    refine .nil ?_
    refine .next ?_
    refine .ret ?_
    exact TE.retf rfl rfl rfl trivial

end Go.Proofs.Ythbcbfghfhecjaa
