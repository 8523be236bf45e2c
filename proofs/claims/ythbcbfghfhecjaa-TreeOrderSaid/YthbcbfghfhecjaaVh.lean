/-
  Bits of a hash: both sides.
-/
import Derived.Test.YthbcbfghfhecjaaVg
import Derived.Test.YthbcbfghfhecjaaTf
namespace Go.Proofs.Ythbcbfghfhecjaa
set_option linter.unusedVariables false
set_option linter.unusedSimpArgs false
open Go.RowKit Pl

theorem tk5 : tyk Try.prog 5 = some none := by kernel_rfl
theorem uk5 : ukd Try.prog 5 = some .u8 := by kernel_rfl

set_option maxRecDepth 100000 in
set_option maxHeartbeats 1600000 in
theorem bit_pf (h : H) (i : Int) : PF Try.prog 24 [.ag (hdv h), .v (.int .i64 i)] (.v (.int .i64 (bitI h i))) := by
  refine PF.enter (fn := Try.f24) Try.func24 rfl Try.ntmps24 rfl (fun w0 => ?_)
  refine .seq ?_
  refine .region ?_
  refine .step rfl (.box 1 rfl rfl rfl rfl) ?_
  refine .step rfl (.assign rfl rfl) ?_
  refine .nil ?_
  refine .next ?_
  refine .seq ?_
  refine .seq ?_
  by_cases h0 : i < 0
  · skip
    have e : bitI h i = 0 := by unfold bitI; rw [if_pos h0]
    refine .region ?_
    refine .step rfl (.move rfl rfl) ?_
    refine .step rfl (.binv (.bool true) rfl rfl rfl rfl (congrArg Value.bool (decide_eq_true h0))) ?_
    refine .step rfl (.move rfl rfl) ?_
    refine .no 7 rfl rfl rfl rfl rfl rfl rfl ?_
    refine .no 7 rfl rfl rfl rfl rfl rfl rfl ?_
    refine .step rfl (.pick rfl rfl rfl) ?_
    refine .nil ?_
    refine .next ?_
    refine .cond rfl (fun h2 => ?_) (fun h2 => absurd h2 (by decide))
    refine .seq ?_
    refine .region ?_
    refine .step rfl (.assign rfl rfl) ?_
    refine .nil ?_
    refine .next ?_
    refine .ret ?_
    rw [e]
    exact TE.retf rfl rfl rfl trivial
  · skip
    by_cases h1 : i ≥ 256
    · skip
      have e : bitI h i = 0 := by unfold bitI; rw [if_neg h0, if_pos h1]
      refine .region ?_
      refine .step rfl (.move rfl rfl) ?_
      refine .step rfl (.binv (.bool false) rfl rfl rfl rfl (congrArg Value.bool (decide_eq_false h0))) ?_
      refine .step rfl (.move rfl rfl) ?_
      refine .go 7 rfl rfl rfl rfl (.move rfl rfl) ?_
      refine .go 7 rfl rfl rfl rfl (.binv (.bool true) rfl rfl rfl rfl (congrArg Value.bool (decide_eq_true h1))) ?_
      refine .step rfl (.pick rfl rfl rfl) ?_
      refine .nil ?_
      refine .next ?_
      refine .cond rfl (fun h4 => ?_) (fun h4 => absurd h4 (by decide))
      refine .seq ?_
      refine .region ?_
      refine .step rfl (.assign rfl rfl) ?_
      refine .nil ?_
      refine .next ?_
      refine .ret ?_
      rw [e]
      exact TE.retf rfl rfl rfl trivial
    · skip
      obtain ⟨k, rfl⟩ : ∃ k : Nat, i = k := ⟨i.toNat, by omega⟩
      have hk : k < 256 := by omega
      have e := bitI_nat h hk
      have hb := byteN_lt h (k / 8)
      have hs : byteN h (k / 8) / 2 ^ (7 - k % 8) < 256 := Nat.lt_of_le_of_lt (Nat.div_le_self _ _) hb
      refine .region ?_
      refine .step rfl (.move rfl rfl) ?_
      refine .step rfl (.binv (.bool false) rfl rfl rfl rfl (congrArg Value.bool (decide_eq_false h0))) ?_
      refine .step rfl (.move rfl rfl) ?_
      refine .go 7 rfl rfl rfl rfl (.move rfl rfl) ?_
      refine .go 7 rfl rfl rfl rfl (.binv (.bool false) rfl rfl rfl rfl (congrArg Value.bool (decide_eq_false h1))) ?_
      refine .step rfl (.pick rfl rfl rfl) ?_
      refine .nil ?_
      refine .next ?_
      refine .cond rfl (fun h5 => absurd h5 (by decide)) (fun h5 => ?_)
      refine .skip ?_
      refine .next ?_
      refine .seq ?_
      refine .region ?_
      refine .step rfl (.move rfl rfl) ?_
      refine .step rfl (.quo (((k / 8 : Nat) : Int)) rfl rfl rfl (by decide) (by rw [Int.tdiv_eq_ediv_of_nonneg (by omega), IntKind.wrap_i64]; omega)) ?_
      refine .step rfl (.idxp rfl rfl rfl rfl rfl ar24 (Int.natCast_nonneg _) (by omega)) ?_
      refine .step rfl (.ldp rfl rfl rfl rfl (by rw [Nat.mul_one, Nat.zero_add, Int.toNat_natCast]; exact hdv_byte h (by omega)) tk5) ?_
      refine .step rfl (.move rfl rfl) ?_
      refine .step rfl (.rem (((k % 8 : Nat) : Int)) rfl rfl rfl (by decide) (by rw [Int.tmod_eq_emod_of_nonneg (by omega)]; omega)) ?_
      refine .step rfl (.binv (.int .i64 ((7 - k % 8 : Nat) : Int)) rfl rfl rfl rfl (congrArg _ (by (try dsimp only); rw [IntKind.wrap_i64]; omega))) ?_
      refine .step rfl (.shr (((byteN h (k / 8) / 2 ^ (7 - k % 8) : Nat) : Int)) rfl rfl rfl (by omega) (shr_bit (by omega))) ?_
      refine .step rfl (.conviv (((byteN h (k / 8) / 2 ^ (7 - k % 8) : Nat) : Int)) rfl rfl uk5 uk3 (wrap_nat _ (Nat.le_trans (Nat.le_of_lt hs) (by decide)))) ?_
      refine .step rfl (.bits (((byteN h (k / 8) / 2 ^ (7 - k % 8) % 2 : Nat) : Int)) rfl rfl rfl rfl (and1_i64 _ hs)) ?_
      refine .step rfl (.assign rfl rfl) ?_
      refine .nil ?_
      refine .next ?_
      refine .ret ?_
      rw [e]
      exact TE.retf rfl rfl rfl trivial

set_option maxRecDepth 100000 in
set_option maxHeartbeats 1600000 in
theorem rbit_pf (h : H) (i : Int) : PF Try.prog 25 [.ag (hdv h), .v (.int .i64 i)] (.v (.int .i64 (bitI h i))) := by
  refine PF.enter (fn := Try.f25) Try.func25 rfl Try.ntmps25 rfl (fun w0 => ?_)
  refine .seq ?_
  refine .region ?_
  refine .step rfl (.box 1 rfl rfl rfl rfl) ?_
  refine .step rfl (.assign rfl rfl) ?_
  refine .nil ?_
  refine .next ?_
  refine .seq ?_
  refine .seq ?_
  by_cases h0 : i < 0
  · skip
    have e : bitI h i = 0 := by unfold bitI; rw [if_pos h0]
    refine .region ?_
    refine .step rfl (.move rfl rfl) ?_
    refine .step rfl (.binv (.bool true) rfl rfl rfl rfl (congrArg Value.bool (decide_eq_true h0))) ?_
    refine .step rfl (.move rfl rfl) ?_
    refine .no 7 rfl rfl rfl rfl rfl rfl rfl ?_
    refine .no 7 rfl rfl rfl rfl rfl rfl rfl ?_
    refine .step rfl (.pick rfl rfl rfl) ?_
    refine .nil ?_
    refine .next ?_
    refine .cond rfl (fun h2 => ?_) (fun h2 => absurd h2 (by decide))
    refine .seq ?_
    refine .region ?_
    refine .step rfl (.assign rfl rfl) ?_
    refine .nil ?_
    refine .next ?_
    refine .ret ?_
    rw [e]
    exact TE.retf rfl rfl rfl trivial
  · skip
    by_cases h1 : i ≥ 256
    · skip
      have e : bitI h i = 0 := by unfold bitI; rw [if_neg h0, if_pos h1]
      refine .region ?_
      refine .step rfl (.move rfl rfl) ?_
      refine .step rfl (.binv (.bool false) rfl rfl rfl rfl (congrArg Value.bool (decide_eq_false h0))) ?_
      refine .step rfl (.move rfl rfl) ?_
      refine .go 7 rfl rfl rfl rfl (.move rfl rfl) ?_
      refine .go 7 rfl rfl rfl rfl (.binv (.bool true) rfl rfl rfl rfl (congrArg Value.bool (decide_eq_true h1))) ?_
      refine .step rfl (.pick rfl rfl rfl) ?_
      refine .nil ?_
      refine .next ?_
      refine .cond rfl (fun h4 => ?_) (fun h4 => absurd h4 (by decide))
      refine .seq ?_
      refine .region ?_
      refine .step rfl (.assign rfl rfl) ?_
      refine .nil ?_
      refine .next ?_
      refine .ret ?_
      rw [e]
      exact TE.retf rfl rfl rfl trivial
    · skip
      obtain ⟨k, rfl⟩ : ∃ k : Nat, i = k := ⟨i.toNat, by omega⟩
      have hk : k < 256 := by omega
      have e := bitI_nat h hk
      have hb := byteN_lt h (k / 8)
      have hs : byteN h (k / 8) / 2 ^ (7 - k % 8) < 256 := Nat.lt_of_le_of_lt (Nat.div_le_self _ _) hb
      refine .region ?_
      refine .step rfl (.move rfl rfl) ?_
      refine .step rfl (.binv (.bool false) rfl rfl rfl rfl (congrArg Value.bool (decide_eq_false h0))) ?_
      refine .step rfl (.move rfl rfl) ?_
      refine .go 7 rfl rfl rfl rfl (.move rfl rfl) ?_
      refine .go 7 rfl rfl rfl rfl (.binv (.bool false) rfl rfl rfl rfl (congrArg Value.bool (decide_eq_false h1))) ?_
      refine .step rfl (.pick rfl rfl rfl) ?_
      refine .nil ?_
      refine .next ?_
      refine .cond rfl (fun h5 => absurd h5 (by decide)) (fun h5 => ?_)
      refine .skip ?_
      refine .next ?_
      refine .seq ?_
      refine .region ?_
      refine .step rfl (.move rfl rfl) ?_
      refine .step rfl (.quo (((k / 8 : Nat) : Int)) rfl rfl rfl (by decide) (by rw [Int.tdiv_eq_ediv_of_nonneg (by omega), IntKind.wrap_i64]; omega)) ?_
      refine .step rfl (.idxp rfl rfl rfl rfl rfl ar24 (Int.natCast_nonneg _) (by omega)) ?_
      refine .step rfl (.ldp rfl rfl rfl rfl (by rw [Nat.mul_one, Nat.zero_add, Int.toNat_natCast]; exact hdv_byte h (by omega)) tk5) ?_
      refine .step rfl (.move rfl rfl) ?_
      refine .step rfl (.rem (((k % 8 : Nat) : Int)) rfl rfl rfl (by decide) (by rw [Int.tmod_eq_emod_of_nonneg (by omega)]; omega)) ?_
      refine .step rfl (.binv (.int .i64 ((7 - k % 8 : Nat) : Int)) rfl rfl rfl rfl (congrArg _ (by (try dsimp only); rw [IntKind.wrap_i64]; omega))) ?_
      refine .step rfl (.shr (((byteN h (k / 8) / 2 ^ (7 - k % 8) : Nat) : Int)) rfl rfl rfl (by omega) (shr_bit (by omega))) ?_
      refine .step rfl (.bits (((byteN h (k / 8) / 2 ^ (7 - k % 8) % 2 : Nat) : Int)) rfl rfl rfl rfl (and1_u8 _ hs)) ?_
      refine .step rfl (.conviv (((byteN h (k / 8) / 2 ^ (7 - k % 8) % 2 : Nat) : Int)) rfl rfl uk5 uk3 (wrap_nat _ (Nat.le_trans (Nat.le_of_lt (Nat.mod_lt _ (by decide))) (by decide)))) ?_
      refine .step rfl (.assign rfl rfl) ?_
      refine .nil ?_
      refine .next ?_
      refine .ret ?_
      rw [e]
      exact TE.retf rfl rfl rfl trivial

end Go.Proofs.Ythbcbfghfhecjaa
