import Derived.Test.YtmjokdhhniblgaaGreatYIh
import Derived.Test.YtmjokdhhniblgaaGreatYEv
/-
  The seat's names and entries.
-/
namespace Go.Proofs.YtmjokdhhniblgaaGreat
set_option linter.unusedVariables false
set_option linter.unusedSimpArgs false
open Go.RowKit Pl
set_option maxRecDepth 100000
set_option maxHeartbeats 3200000
theorem name_pf (b : UInt8) : PF Tryz.prog 10 [.v (.int .u8 ((b.toNat : Nat) : Int))] (.v (strV (nameL ((b.toNat : Nat) : Int)))) := by
 refine PF.enter (fn := Tryz.f10) Tryz.func10 rfl Tryz.ntmps10 rfl (fun w0 => .w ?_)
 by_cases n0 : b.toNat % 6 = 0
 ·skip
  have e : nameL ((b.toNat : Nat) : Int) = [97] := by unfold nameL; rw [if_pos (by omega)]
  refine .t 1 1 rfl rfl (.ba 1 rfl) ?_
  refine .t 1 2 rfl rfl (.rem (0) rfl rfl rfl (by decide) (by rw [Int.tmod_eq_emod_of_nonneg (by omega)]; omega)) ?_
  refine .t 0 2 rfl rfl (.ixo rfl (by decide) (by decide)) ?_
  rw [e]
  exact .z 2 2 rfl (TE.retf rfl rfl rfl (pl_v _))
 ·skip
  by_cases n1 : b.toNat % 6 = 1
  ·skip
   have e : nameL ((b.toNat : Nat) : Int) = [98] := by unfold nameL; rw [if_neg (by omega), if_pos (by omega)]
   refine .t 1 1 rfl rfl (.ba 2 rfl) ?_
   refine .t 1 3 rfl rfl (.rem (1) rfl rfl rfl (by decide) (by rw [Int.tmod_eq_emod_of_nonneg (by omega)]; omega)) ?_
   refine .t 0 3 rfl rfl (.ixo rfl (by decide) (by decide)) ?_
   rw [e]
   exact .z 2 3 rfl (TE.retf rfl rfl rfl (pl_v _))
  ·skip
   by_cases n2 : b.toNat % 6 = 2
   ·skip
    have e : nameL ((b.toNat : Nat) : Int) = [97, 110, 110] := by unfold nameL; rw [if_neg (by omega), if_neg (by omega), if_pos (by omega)]
    refine .t 1 1 rfl rfl (.ba 3 rfl) ?_
    refine .t 1 4 rfl rfl (.rem (2) rfl rfl rfl (by decide) (by rw [Int.tmod_eq_emod_of_nonneg (by omega)]; omega)) ?_
    refine .t 0 4 rfl rfl (.ixo rfl (by decide) (by decide)) ?_
    rw [e]
    exact .z 2 4 rfl (TE.retf rfl rfl rfl (pl_v _))
   ·skip
    by_cases n3 : b.toNat % 6 = 3
    ·skip
     have e : nameL ((b.toNat : Nat) : Int) = [98, 111, 98] := by unfold nameL; rw [if_neg (by omega), if_neg (by omega), if_neg (by omega), if_pos (by omega)]
     refine .t 1 1 rfl rfl (.ba 4 rfl) ?_
     refine .t 1 5 rfl rfl (.rem (3) rfl rfl rfl (by decide) (by rw [Int.tmod_eq_emod_of_nonneg (by omega)]; omega)) ?_
     refine .t 0 5 rfl rfl (.ixo rfl (by decide) (by decide)) ?_
     rw [e]
     exact .z 2 5 rfl (TE.retf rfl rfl rfl (pl_v _))
    ·skip
     by_cases n4 : b.toNat % 6 = 4
     ·skip
      have e : nameL ((b.toNat : Nat) : Int) = [195, 169] := by unfold nameL; rw [if_neg (by omega), if_neg (by omega), if_neg (by omega), if_neg (by omega), if_pos (by omega)]
      refine .t 1 1 rfl rfl (.ba 5 rfl) ?_
      refine .t 1 6 rfl rfl (.rem (4) rfl rfl rfl (by decide) (by rw [Int.tmod_eq_emod_of_nonneg (by omega)]; omega)) ?_
      refine .t 0 6 rfl rfl (.ixo rfl (by decide) (by decide)) ?_
      rw [e]
      exact .z 2 6 rfl (TE.retf rfl rfl rfl (pl_v _))
     ·skip
      have e : nameL ((b.toNat : Nat) : Int) = [48, 49, 50, 51, 52, 53, 54, 55, 56, 57, 48, 49, 50, 51, 52, 53, 54, 55, 56, 57, 48, 49, 50, 51, 52, 53, 54, 55, 56, 57, 48, 122] := by unfold nameL; rw [if_neg (by omega), if_neg (by omega), if_neg (by omega), if_neg (by omega), if_neg (by omega)]
      refine .t 1 1 rfl rfl (.ba 6 rfl) ?_
      refine .t 1 7 rfl rfl (.rem (5) rfl rfl rfl (by decide) (by rw [Int.tmod_eq_emod_of_nonneg (by omega)]; omega)) ?_
      refine .t 0 7 rfl rfl (.ixo rfl (by decide) (by decide)) ?_
      rw [e]
      exact .z 2 7 rfl (TE.retf rfl rfl rfl (pl_v _))
/-- The seat's entries. -/
def keyE (b : UInt8) (v : Int) : Int := IntKind.u64.wrap (IntKind.u64.wrap (IntKind.u64.wrap (IntKind.u64.wrap v * 1000) + ((b.toNat : Nat) : Int)) + 1)
def seatE (b : UInt8) (v : Int) : En := ⟨nameL ((b.toNat : Nat) : Int), v, keyE b v⟩
theorem entry_pf (b : UInt8) (v : Int) : PF Tryz.prog 11 [.v (.int .u8 ((b.toNat : Nat) : Int)), .v (.int .i64 v)] (.ag (seatE b v).dv) := by
 refine PF.enter (fn := Tryz.f11) Tryz.func11 rfl Tryz.ntmps11 rfl (fun w0 => .w ?_)
 refine .t 2 1 rfl rfl (.cf (name_pf b) rfl) ?_
 refine .t 2 2 rfl rfl (.cv (IntKind.u64.wrap v) rfl (rfl)) ?_
 refine .t 2 2 rfl rfl (.cv (((b.toNat : Nat) : Int)) rfl (by rw [IntKind.wrap_u64]; have := b.toNat_lt; omega)) ?_
 refine .t 2 2 rfl rfl (.bd ((seatE b v).dv) rfl) ?_
 exact .z 1 2 rfl (TE.retf rfl rfl rfl (pl_ag (pl_en _)))
end Go.Proofs.YtmjokdhhniblgaaGreat

