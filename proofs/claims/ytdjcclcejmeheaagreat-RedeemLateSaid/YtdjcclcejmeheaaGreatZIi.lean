import Derived.Test.YtdjcclcejmeheaaGreatZIf
import Derived.Test.YtdjcclcejmeheaaGreatZEv
/-
  The program's Add.
-/
namespace Go.Proofs.YtdjcclcejmeheaaGreat
set_option linter.unusedVariables false
set_option linter.unusedSimpArgs false
open Go.RowKit Pl
set_option maxRecDepth 100000
set_option maxHeartbeats 3200000
end Go.Proofs.YtdjcclcejmeheaaGreat
/-
  Items of both directories.
-/
namespace Go.Proofs.YtdjcclcejmeheaaGreat
set_option linter.unusedVariables false
set_option linter.unusedSimpArgs false
open Go.RowKit Pl
set_option maxRecDepth 100000
set_option maxHeartbeats 3200000
theorem cf96 : cfn Tryz.prog 96 = true := by kernel_rfl
/-- The items that an epoch shows. -/
def itsK (ep : Int) (l : List Kn) : List It := (l.filter (fun k => decide (k.ep ≤ ep))).map (fun k => itemI k.nm k.ver k.key)
theorem itsK_yes {ep : Int} {l : List Kn} {i : Nat} (h : i < l.length) (hy : l[i].ep ≤ ep) : itsK ep (l.take (i + 1)) = itsK ep (l.take i) ++ [itemI l[i].nm l[i].ver l[i].key] := by
  unfold itsK; rw [take_snoc' h, List.filter_append, List.map_append]; simp [hy]
theorem itsK_no {ep : Int} {l : List Kn} {i : Nat} (h : i < l.length) (hy : ¬ l[i].ep ≤ ep) : itsK ep (l.take (i + 1)) = itsK ep (l.take i) := by
  unfold itsK; rw [take_snoc' h, List.filter_append, List.map_append]; simp [hy]
theorem itsK_le (ep : Int) (l : List Kn) : (itsK ep l).length ≤ l.length := by
  unfold itsK; rw [List.length_map]; exact List.length_filter_le _ _
theorem itsK_take (ep : Int) (l : List Kn) (i : Nat) : (itsK ep (l.take i)).length ≤ l.length := Nat.le_trans (itsK_le _ _) (by rw [List.length_take]; omega)
/-- Knowledge that can be hashed. -/
def knIn (l : List Kn) : Prop := ∀ k ∈ l, k.nm.length ≤ 1048576 ∧ 0 ≤ k.key ∧ k.key < 18446744073709551616
theorem ritems_pf (l : List Kn) (ep : Int) (hl : l.length ≤ 1048576) (hk : knIn l) : PF Tryz.prog 44 [slT Kn.dv 4 l, .v (.int .i64 ep)] (slT It.dv 64 (setR (itsK ep l) [])) := by
 have hle0 := itsK_le ep l
 refine PF.enter (fn := Tryz.f44) Tryz.func44 rfl Tryz.ntmps44 rfl (fun w0 => .w ?_)
 refine .g 2 1 rfl ?_
 refine TE.own0 5 1 79 64 rfl rfl ?_
 refine .g 1 2 rfl ?_
 refine TE.setv 6 (.int .i64 ((0 : Nat) : Int)) rfl (congrArg _ (by first | rfl | (dsimp only; first | done | rfl | omega))) ?_
 refine TE.set 5 (.ow 1 (itsK ep (l.take (0))).length 64) rfl rfl ?_
 refine TE.obj 1 (.row 79 64 ((itsK ep (l.take (0))).flatMap It.dv)) rfl rfl ?_
 refine .lo (T := Nat) 0 2 rfl (fun i => i ≤ l.length) (fun i => l.length - i) [0, 1] [] (fun i => [(5, .ow 1 (itsK ep (l.take (i))).length 64), (6, .d (.v (.int .i64 ((i : Nat) : Int))))]) (fun i => [(1, .row 79 64 ((itsK ep (l.take (i))).flatMap It.dv))]) (0) rfl rfl (Nat.zero_le _) rfl rfl rfl (fun i hI => ?_)
 refine .q 4 2 rfl rfl (fun h1 => ?_) (fun h1 => ?_)
 ·skip
  have hi : i < l.length := by have q := of_decide_eq_true h1; (try dsimp only at q); omega
  have hin := hk l[i] (List.getElem_mem hi)
  have hle := itsK_take ep l i
  refine .t 2 2 rfl rfl (.idx (l[i]) rfl rfl rfl rfl et27 (fun _ => rfl) (Int.natCast_nonneg i) (get_nat hi)) ?_
  refine .q 4 2 rfl rfl (fun h2 => ?_) (fun h2 => ?_)
  ·skip
   have hy : l[i].ep ≤ ep := of_decide_eq_true h2
   refine .t 3 2 rfl rfl (.idx (l[i]) rfl rfl rfl rfl et27 (fun _ => rfl) (Int.natCast_nonneg i) (get_nat hi)) ?_
   refine .t 1 2 rfl rfl (.lm (entD l[i].nm l[i].ver l[i].key) rfl) ?_
   refine .t 0 2 rfl rfl (.cf (ritem_pf l[i].nm l[i].ver l[i].key hin.1 hin.2.1 hin.2.2) rfl) ?_
   refine .t 0 2 rfl rfl (.bb ((itemI l[i].nm l[i].ver l[i].key).dv) 2 rfl) ?_
   refine .t 0 3 rfl rfl (.ap 3 rfl (it_flat _) (it_one _) (by omega) (by omega)) ?_
   refine .t 2 4 rfl rfl (.bv (.int .i64 ((i + 1 : Nat) : Int)) rfl (congrArg _ (by (try dsimp only); rw [IntKind.wrap_i64]; omega))) ?_
   refine .g 1 4 rfl ?_
   refine TE.set 5 (.ow 3 (itsK ep (l.take (i + 1))).length 64) rfl (by rw [itsK_yes hi hy]; simp) ?_
   refine TE.obj 3 (.row 79 64 ((itsK ep (l.take (i + 1))).flatMap It.dv)) rfl (by rw [itsK_yes hi hy]; simp [List.flatMap_append]) ?_
   refine TE.setv 6 (.int .i64 ((i + 1 : Nat) : Int)) rfl (congrArg _ (by first | rfl | (dsimp only; first | done | rfl | omega))) ?_
   exact .rd 0 4 (swp 1 3) (swp_inj 1 3) rfl (i + 1) (by omega) (by omega) rfl rfl rfl
  ·skip
   have hno : ¬ l[i].ep ≤ ep := of_decide_eq_false h2
   refine .t 1 4 rfl rfl (.bv (.int .i64 ((i + 1 : Nat) : Int)) rfl (congrArg _ (by (try dsimp only); rw [IntKind.wrap_i64]; omega))) ?_
   refine .g 1 4 rfl ?_
   refine TE.set 5 (.ow 1 (itsK ep (l.take (i + 1))).length 64) rfl (by rw [itsK_no hi hno]) ?_
   refine TE.obj 1 (.row 79 64 ((itsK ep (l.take (i + 1))).flatMap It.dv)) rfl (by rw [itsK_no hi hno]) ?_
   refine TE.setv 6 (.int .i64 ((i + 1 : Nat) : Int)) rfl (congrArg _ (by first | rfl | (dsimp only; first | done | rfl | omega))) ?_
   exact .rd 0 4 id (fun _ _ e => e) rfl (i + 1) (by omega) (by omega) rfl rfl rfl
 ·skip
  have hi : ¬ (i < l.length) := by have q := of_decide_eq_false h1; (try dsimp only at q); omega
  have e : itsK ep l = itsK ep (l.take (i)) := by rw [List.take_of_length_le (by omega)]
  rw [← e]
  refine .t 1 4 rfl rfl (.callf rfl cf96 rfl ⟨okA_len rfl (it_flat _), trivial, trivial⟩ (.nil2 (PO.pf (rset_po (itsK ep l) [] (by simp; omega))))) ?_
  exact .z 1 4 rfl (TE.retf rfl rfl rfl trivial)
end Go.Proofs.YtdjcclcejmeheaaGreat
/-
  The seat's names and entries.
-/
namespace Go.Proofs.YtdjcclcejmeheaaGreat
set_option linter.unusedVariables false
set_option linter.unusedSimpArgs false
open Go.RowKit Pl
set_option maxRecDepth 100000
set_option maxHeartbeats 3200000
theorem name_pf (b : UInt8) : PF Tryz.prog 23 [.v (.int .u8 ((b.toNat : Nat) : Int))] (.v (strV (nameL ((b.toNat : Nat) : Int)))) := by
 refine PF.enter (fn := Tryz.f23) Tryz.func23 rfl Tryz.ntmps23 rfl (fun w0 => .w ?_)
 by_cases n0 : b.toNat % 6 = 0
 ·skip
  have e : nameL ((b.toNat : Nat) : Int) = [97] := by unfold nameL; rw [if_pos (by omega)]
  refine .t 1 1 rfl rfl (.ba 1 rfl) ?_
  refine .t 1 2 rfl rfl (.rem (0) rfl rfl rfl (by decide) (by rw [Int.tmod_eq_emod_of_nonneg (by omega)]; omega)) ?_
  refine .t 0 2 rfl rfl (.ixo rfl (by decide) (by decide)) ?_
  rw [e]
  exact .z 2 2 rfl (TE.retf rfl rfl rfl (pl_v _))
 ·skip
  by_cases n1 : b.toNat % 6 = 1
  ·skip
   have e : nameL ((b.toNat : Nat) : Int) = [98] := by unfold nameL; rw [if_neg (by omega), if_pos (by omega)]
   refine .t 1 1 rfl rfl (.ba 2 rfl) ?_
   refine .t 1 3 rfl rfl (.rem (1) rfl rfl rfl (by decide) (by rw [Int.tmod_eq_emod_of_nonneg (by omega)]; omega)) ?_
   refine .t 0 3 rfl rfl (.ixo rfl (by decide) (by decide)) ?_
   rw [e]
   exact .z 2 3 rfl (TE.retf rfl rfl rfl (pl_v _))
  ·skip
   by_cases n2 : b.toNat % 6 = 2
   ·skip
    have e : nameL ((b.toNat : Nat) : Int) = [97, 110, 110] := by unfold nameL; rw [if_neg (by omega), if_neg (by omega), if_pos (by omega)]
    refine .t 1 1 rfl rfl (.ba 3 rfl) ?_
    refine .t 1 4 rfl rfl (.rem (2) rfl rfl rfl (by decide) (by rw [Int.tmod_eq_emod_of_nonneg (by omega)]; omega)) ?_
    refine .t 0 4 rfl rfl (.ixo rfl (by decide) (by decide)) ?_
    rw [e]
    exact .z 2 4 rfl (TE.retf rfl rfl rfl (pl_v _))
   ·skip
    by_cases n3 : b.toNat % 6 = 3
    ·skip
     have e : nameL ((b.toNat : Nat) : Int) = [98, 111, 98] := by unfold nameL; rw [if_neg (by omega), if_neg (by omega), if_neg (by omega), if_pos (by omega)]
     refine .t 1 1 rfl rfl (.ba 4 rfl) ?_
     refine .t 1 5 rfl rfl (.rem (3) rfl rfl rfl (by decide) (by rw [Int.tmod_eq_emod_of_nonneg (by omega)]; omega)) ?_
     refine .t 0 5 rfl rfl (.ixo rfl (by decide) (by decide)) ?_
     rw [e]
     exact .z 2 5 rfl (TE.retf rfl rfl rfl (pl_v _))
    ·skip
     by_cases n4 : b.toNat % 6 = 4
     ·skip
      have e : nameL ((b.toNat : Nat) : Int) = [195, 169] := by unfold nameL; rw [if_neg (by omega), if_neg (by omega), if_neg (by omega), if_neg (by omega), if_pos (by omega)]
      refine .t 1 1 rfl rfl (.ba 5 rfl) ?_
      refine .t 1 6 rfl rfl (.rem (4) rfl rfl rfl (by decide) (by rw [Int.tmod_eq_emod_of_nonneg (by omega)]; omega)) ?_
      refine .t 0 6 rfl rfl (.ixo rfl (by decide) (by decide)) ?_
      rw [e]
      exact .z 2 6 rfl (TE.retf rfl rfl rfl (pl_v _))
     ·skip
      have e : nameL ((b.toNat : Nat) : Int) = [48, 49, 50, 51, 52, 53, 54, 55, 56, 57, 48, 49, 50, 51, 52, 53, 54, 55, 56, 57, 48, 49, 50, 51, 52, 53, 54, 55, 56, 57, 48, 122] := by unfold nameL; rw [if_neg (by omega), if_neg (by omega), if_neg (by omega), if_neg (by omega), if_neg (by omega)]
      refine .t 1 1 rfl rfl (.ba 6 rfl) ?_
      refine .t 1 7 rfl rfl (.rem (5) rfl rfl rfl (by decide) (by rw [Int.tmod_eq_emod_of_nonneg (by omega)]; omega)) ?_
      refine .t 0 7 rfl rfl (.ixo rfl (by decide) (by decide)) ?_
      rw [e]
      exact .z 2 7 rfl (TE.retf rfl rfl rfl (pl_v _))
/-- The seat's entries. -/
def keyE (b : UInt8) (v : Int) : Int := IntKind.u64.wrap (IntKind.u64.wrap (IntKind.u64.wrap (IntKind.u64.wrap v * 1000) + ((b.toNat : Nat) : Int)) + 1)
def seatE (b : UInt8) (v : Int) : En := ⟨nameL ((b.toNat : Nat) : Int), v, keyE b v⟩
theorem entry_pf (b : UInt8) (v : Int) : PF Tryz.prog 21 [.v (.int .u8 ((b.toNat : Nat) : Int)), .v (.int .i64 v)] (.ag (seatE b v).dv) := by
 refine PF.enter (fn := Tryz.f21) Tryz.func21 rfl Tryz.ntmps21 rfl (fun w0 => .w ?_)
 refine .t 2 1 rfl rfl (.cf (name_pf b) rfl) ?_
 refine .t 2 2 rfl rfl (.cv (IntKind.u64.wrap v) rfl (rfl)) ?_
 refine .t 2 2 rfl rfl (.cv (((b.toNat : Nat) : Int)) rfl (by rw [IntKind.wrap_u64]; have := b.toNat_lt; omega)) ?_
 refine .t 2 2 rfl rfl (.bd ((seatE b v).dv) rfl) ?_
 exact .z 1 2 rfl (TE.retf rfl rfl rfl (pl_ag (pl_en _)))
end Go.Proofs.YtdjcclcejmeheaaGreat

