/-
  The seat's names and entries.
-/
import Derived.Test.YthidepbffhhkmaaIh
namespace Go.Proofs.Ythidepbffhhkmaa
set_option linter.unusedVariables false
set_option linter.unusedSimpArgs false
open Go.RowKit Pl

theorem ap53 : apt Try.prog 53 = some (9, 1, 16) := by kernel_rfl
theorem cf13 : cfn Try.prog 13 = true := by kernel_rfl
theorem et53 : elt Try.prog 53 = some (9, 1) := by kernel_rfl
theorem uk5 : ukd Try.prog 5 = some .u8 := by kernel_rfl
theorem zc9 : zc Try.prog 9 = some [.string ⟨#[]⟩] := by kernel_rfl

set_option maxRecDepth 100000 in
set_option maxHeartbeats 1600000 in
theorem name_pf (b : UInt8) : PF Try.prog 13 [.v (.int .u8 ((b.toNat : Nat) : Int))] (.v (strV (nameL ((b.toNat : Nat) : Int)))) := by
  refine PF.enter (fn := Try.f13) Try.func13 rfl Try.ntmps13 rfl (fun w0 => ?_)
  refine .seq ?_
  refine .region ?_
  refine .step rfl (.assign rfl rfl) ?_
  refine .nil ?_
  refine .next ?_
  refine .seq ?_
  by_cases n0 : b.toNat % 6 = 0
  ·skip
   have e : nameL ((b.toNat : Nat) : Int) = [97] := by unfold nameL; rw [if_pos (by omega)]
   refine .region ?_
   refine .step rfl (.buildsl 1 rfl rfl rfl ap53 zc9 rfl rfl rfl) ?_
   refine .step rfl (.move rfl rfl) ?_
   refine .step rfl (.rem (0) rfl rfl rfl (by decide) (by rw [Int.tmod_eq_emod_of_nonneg (by omega)]; omega)) ?_
   refine .step rfl (.idxo rfl rfl rfl rfl rfl et53 (by decide) (by decide)) ?_
   refine .step rfl (.ldp rfl rfl rfl rfl rfl tk9) ?_
   refine .step rfl (.assign rfl rfl) ?_
   refine .nil ?_
   refine .next ?_
   refine .ret ?_
   rw [e]
   exact TE.retf rfl rfl rfl (pl_v _)
  ·skip
   by_cases n1 : b.toNat % 6 = 1
   ·skip
    have e : nameL ((b.toNat : Nat) : Int) = [98] := by unfold nameL; rw [if_neg (by omega), if_pos (by omega)]
    refine .region ?_
    refine .step rfl (.buildsl 2 rfl rfl rfl ap53 zc9 rfl rfl rfl) ?_
    refine .step rfl (.move rfl rfl) ?_
    refine .step rfl (.rem (1) rfl rfl rfl (by decide) (by rw [Int.tmod_eq_emod_of_nonneg (by omega)]; omega)) ?_
    refine .step rfl (.idxo rfl rfl rfl rfl rfl et53 (by decide) (by decide)) ?_
    refine .step rfl (.ldp rfl rfl rfl rfl rfl tk9) ?_
    refine .step rfl (.assign rfl rfl) ?_
    refine .nil ?_
    refine .next ?_
    refine .ret ?_
    rw [e]
    exact TE.retf rfl rfl rfl (pl_v _)
   ·skip
    by_cases n2 : b.toNat % 6 = 2
    ·skip
     have e : nameL ((b.toNat : Nat) : Int) = [97, 110, 110] := by unfold nameL; rw [if_neg (by omega), if_neg (by omega), if_pos (by omega)]
     refine .region ?_
     refine .step rfl (.buildsl 3 rfl rfl rfl ap53 zc9 rfl rfl rfl) ?_
     refine .step rfl (.move rfl rfl) ?_
     refine .step rfl (.rem (2) rfl rfl rfl (by decide) (by rw [Int.tmod_eq_emod_of_nonneg (by omega)]; omega)) ?_
     refine .step rfl (.idxo rfl rfl rfl rfl rfl et53 (by decide) (by decide)) ?_
     refine .step rfl (.ldp rfl rfl rfl rfl rfl tk9) ?_
     refine .step rfl (.assign rfl rfl) ?_
     refine .nil ?_
     refine .next ?_
     refine .ret ?_
     rw [e]
     exact TE.retf rfl rfl rfl (pl_v _)
    ·skip
     by_cases n3 : b.toNat % 6 = 3
     ·skip
      have e : nameL ((b.toNat : Nat) : Int) = [98, 111, 98] := by unfold nameL; rw [if_neg (by omega), if_neg (by omega), if_neg (by omega), if_pos (by omega)]
      refine .region ?_
      refine .step rfl (.buildsl 4 rfl rfl rfl ap53 zc9 rfl rfl rfl) ?_
      refine .step rfl (.move rfl rfl) ?_
      refine .step rfl (.rem (3) rfl rfl rfl (by decide) (by rw [Int.tmod_eq_emod_of_nonneg (by omega)]; omega)) ?_
      refine .step rfl (.idxo rfl rfl rfl rfl rfl et53 (by decide) (by decide)) ?_
      refine .step rfl (.ldp rfl rfl rfl rfl rfl tk9) ?_
      refine .step rfl (.assign rfl rfl) ?_
      refine .nil ?_
      refine .next ?_
      refine .ret ?_
      rw [e]
      exact TE.retf rfl rfl rfl (pl_v _)
     ·skip
      by_cases n4 : b.toNat % 6 = 4
      ·skip
       have e : nameL ((b.toNat : Nat) : Int) = [195, 169] := by unfold nameL; rw [if_neg (by omega), if_neg (by omega), if_neg (by omega), if_neg (by omega), if_pos (by omega)]
       refine .region ?_
       refine .step rfl (.buildsl 5 rfl rfl rfl ap53 zc9 rfl rfl rfl) ?_
       refine .step rfl (.move rfl rfl) ?_
       refine .step rfl (.rem (4) rfl rfl rfl (by decide) (by rw [Int.tmod_eq_emod_of_nonneg (by omega)]; omega)) ?_
       refine .step rfl (.idxo rfl rfl rfl rfl rfl et53 (by decide) (by decide)) ?_
       refine .step rfl (.ldp rfl rfl rfl rfl rfl tk9) ?_
       refine .step rfl (.assign rfl rfl) ?_
       refine .nil ?_
       refine .next ?_
       refine .ret ?_
       rw [e]
       exact TE.retf rfl rfl rfl (pl_v _)
      ·skip
       have e : nameL ((b.toNat : Nat) : Int) = [48, 49, 50, 51, 52, 53, 54, 55, 56, 57, 48, 49, 50, 51, 52, 53, 54, 55, 56, 57, 48, 49, 50, 51, 52, 53, 54, 55, 56, 57, 48, 122] := by unfold nameL; rw [if_neg (by omega), if_neg (by omega), if_neg (by omega), if_neg (by omega), if_neg (by omega)]
       refine .region ?_
       refine .step rfl (.buildsl 6 rfl rfl rfl ap53 zc9 rfl rfl rfl) ?_
       refine .step rfl (.move rfl rfl) ?_
       refine .step rfl (.rem (5) rfl rfl rfl (by decide) (by rw [Int.tmod_eq_emod_of_nonneg (by omega)]; omega)) ?_
       refine .step rfl (.idxo rfl rfl rfl rfl rfl et53 (by decide) (by decide)) ?_
       refine .step rfl (.ldp rfl rfl rfl rfl rfl tk9) ?_
       refine .step rfl (.assign rfl rfl) ?_
       refine .nil ?_
       refine .next ?_
       refine .ret ?_
       rw [e]
       exact TE.retf rfl rfl rfl (pl_v _)

/-- The seat's entries. -/
def keyE (b : UInt8) (v : Int) : Int := IntKind.u64.wrap (IntKind.u64.wrap (IntKind.u64.wrap (IntKind.u64.wrap v * 1000) + ((b.toNat : Nat) : Int)) + 1)
def seatE (b : UInt8) (v : Int) : En := ⟨nameL ((b.toNat : Nat) : Int), v, keyE b v⟩

set_option maxRecDepth 100000 in
set_option maxHeartbeats 1600000 in
theorem entry_pf (b : UInt8) (v : Int) : PF Try.prog 14 [.v (.int .u8 ((b.toNat : Nat) : Int)), .v (.int .i64 v)] (.ag (seatE b v).dv) := by
  refine PF.enter (fn := Try.f14) Try.func14 rfl Try.ntmps14 rfl (fun w0 => ?_)
  refine .seq ?_
  refine .region ?_
  refine .step rfl (.alloc 1 rfl rfl zc30 rfl) ?_
  refine .nil ?_
  refine .next ?_
  refine .seq ?_
  refine .region ?_
  refine .step rfl (.move rfl rfl) ?_
  refine .step rfl (.callf rfl cf13 rfl ⟨trivial, trivial⟩ (name_pf b)) ?_
  refine .step rfl (.move rfl rfl) ?_
  refine .step rfl (.move rfl rfl) ?_
  refine .step rfl (.conviv (IntKind.u64.wrap v) rfl rfl uk3 uk28 (rfl)) ?_
  refine .step rfl (.bin rfl rfl rfl rfl) ?_
  refine .step rfl (.move rfl rfl) ?_
  refine .step rfl (.conviv (((b.toNat : Nat) : Int)) rfl rfl uk5 uk28 (by rw [IntKind.wrap_u64]; have := b.toNat_lt; omega)) ?_
  refine .step rfl (.bin rfl rfl rfl rfl) ?_
  refine .step rfl (.bin rfl rfl rfl rfl) ?_
  refine .step rfl (.build (ds := (seatE b v).dv) rfl rfl sp30 rfl rfl) ?_
  refine .step rfl (.store rfl rfl rfl sz30 rfl rfl) ?_
  refine .nil ?_
  refine .next ?_
  refine .ret ?_
  exact TE.retf rfl rfl rfl (pl_ag (pl_en _))

end Go.Proofs.Ythidepbffhhkmaa
