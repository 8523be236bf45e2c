import Derived.Test.YtmjokdhhniblgaaGreatYIg
import Derived.Test.YtmjokdhhniblgaaGreatYEv
/-
  Items of both directories.
-/
namespace Go.Proofs.YtmjokdhhniblgaaGreat
set_option linter.unusedVariables false
set_option linter.unusedSimpArgs false
open Go.RowKit Pl
set_option maxRecDepth 100000
set_option maxHeartbeats 3200000
theorem cf42 : cfn Tryz.prog 42 = true := by kernel_rfl
/-- The items that an epoch shows. -/
def itsK (ep : Int) (l : List Kn) : List It := (l.filter (fun k => decide (k.ep ≤ ep))).map (fun k => itemI k.nm k.ver k.key)
theorem itsK_yes {ep : Int} {l : List Kn} {i : Nat} (h : i < l.length) (hy : l[i].ep ≤ ep) : itsK ep (l.take (i + 1)) = itsK ep (l.take i) ++ [itemI l[i].nm l[i].ver l[i].key] := by
  unfold itsK; rw [take_snoc' h, List.filter_append, List.map_append]; simp [hy]
theorem itsK_no {ep : Int} {l : List Kn} {i : Nat} (h : i < l.length) (hy : ¬ l[i].ep ≤ ep) : itsK ep (l.take (i + 1)) = itsK ep (l.take i) := by
  unfold itsK; rw [take_snoc' h, List.filter_append, List.map_append]; simp [hy]
theorem itsK_le (ep : Int) (l : List Kn) : (itsK ep l).length ≤ l.length := by
  unfold itsK; rw [List.length_map]; exact List.length_filter_le _ _
theorem itsK_take (ep : Int) (l : List Kn) (i : Nat) : (itsK ep (l.take i)).length ≤ l.length := Nat.le_trans (itsK_le _ _) (by rw [List.length_take]; omega)
/-- Knowledge that can be hashed. -/
def knIn (l : List Kn) : Prop := ∀ k ∈ l, k.nm.length ≤ 1048576 ∧ 0 ≤ k.key ∧ k.key < 18446744073709551616
theorem items_pc (l : List Kn) (ep : Int) (hl : l.length ≤ 1048576) (hk : knIn l) : PC Tryz.prog 55 [slT Kn.dv 4 l, .v (.int .i64 ep)] (slT It.dv 64 (setA [] (itsK ep l))) := by
 have hle0 := itsK_le ep l
 refine PC.enter (fn := Tryz.f55) Tryz.func55 rfl Tryz.ntmps55 rfl (fun w0 K0 => .w ?_)
 refine .g 2 1 rfl ?_
 refine TE.own0 5 1 86 64 rfl rfl ?_
 refine .g 3 2 rfl ?_
 refine TE.setv 10 (.int .i64 ((0 : Nat) : Int)) rfl (congrArg _ (by first | rfl | (dsimp only; first | done | rfl | omega))) ?_
 refine TE.set 5 (.ow 1 (itsK ep (l.take (0))).length 64) rfl rfl ?_
 refine TE.obj 1 (.row 86 64 ((itsK ep (l.take (0))).flatMap It.dv)) rfl rfl ?_
 refine .lo (T := Nat) 0 2 rfl (fun i => i ≤ l.length) (fun i => l.length - i) [0, 1] [] (fun i => [(5, .ow 1 (itsK ep (l.take (i))).length 64), (8, .d (slT Kn.dv 4 l)), (9, .f (.v (.int .i64 ((l.length : Nat) : Int)))), (10, .d (.v (.int .i64 ((i : Nat) : Int))))]) (fun i => [(1, .row 86 64 ((itsK ep (l.take (i))).flatMap It.dv))]) (0) rfl rfl (Nat.zero_le _) rfl rfl rfl (fun i hI => ?_)
 refine .q 1 2 rfl rfl (fun h1 => ?_) (fun h1 => ?_)
 ·skip
  have hi : i < l.length := by have q := of_decide_eq_true h1; (try dsimp only at q); omega
  have hin := hk l[i] (List.getElem_mem hi)
  have hle := itsK_take ep l i
  refine .t 0 2 rfl rfl (.idx (l[i]) rfl rfl rfl rfl et33 (fun _ => rfl) (Int.natCast_nonneg i) (get_nat hi)) ?_
  refine .q 7 2 rfl rfl (fun h2 => ?_) (fun h2 => ?_)
  ·skip
   have hy : l[i].ep ≤ ep := of_decide_eq_true h2
   refine .t 3 3 rfl rfl (.cf (item_pf l[i].nm l[i].ver l[i].key hin.1 hin.2.1 hin.2.2) rfl) ?_
   refine .t 0 3 rfl rfl (.bb ((itemI l[i].nm l[i].ver l[i].key).dv) 3 rfl) ?_
   refine .t 0 4 rfl rfl (.ap 4 rfl (it_flat _) (it_one _) (by omega) (by omega)) ?_
   refine .t 1 5 rfl rfl (.bv (.int .i64 ((i + 1 : Nat) : Int)) rfl (congrArg _ (by (try dsimp only); rw [IntKind.wrap_i64]; omega))) ?_
   refine .g 1 5 rfl ?_
   refine TE.set 5 (.ow 4 (itsK ep (l.take (i + 1))).length 64) rfl (by rw [itsK_yes hi hy]; simp) ?_
   refine TE.obj 4 (.row 86 64 ((itsK ep (l.take (i + 1))).flatMap It.dv)) rfl (by rw [itsK_yes hi hy]; simp [List.flatMap_append]) ?_
   refine TE.setv 10 (.int .i64 ((i + 1 : Nat) : Int)) rfl (congrArg _ (by first | rfl | (dsimp only; first | done | rfl | omega))) ?_
   exact .rd 0 5 (swp 1 4) (swp_inj 1 4) rfl (i + 1) (by omega) (by omega) rfl rfl rfl
  ·skip
   have hno : ¬ l[i].ep ≤ ep := of_decide_eq_false h2
   refine .t 0 5 rfl rfl (.bv (.int .i64 ((i + 1 : Nat) : Int)) rfl (congrArg _ (by (try dsimp only); rw [IntKind.wrap_i64]; omega))) ?_
   refine .g 1 5 rfl ?_
   refine TE.set 5 (.ow 1 (itsK ep (l.take (i + 1))).length 64) rfl (by rw [itsK_no hi hno]) ?_
   refine TE.obj 1 (.row 86 64 ((itsK ep (l.take (i + 1))).flatMap It.dv)) rfl (by rw [itsK_no hi hno]) ?_
   refine TE.setv 10 (.int .i64 ((i + 1 : Nat) : Int)) rfl (congrArg _ (by first | rfl | (dsimp only; first | done | rfl | omega))) ?_
   exact .rd 0 5 id (fun _ _ e => e) rfl (i + 1) (by omega) (by omega) rfl rfl rfl
 ·skip
  have hi : ¬ (i < l.length) := by have q := of_decide_eq_false h1; (try dsimp only at q); omega
  have e : itsK ep l = itsK ep (l.take (i)) := by rw [List.take_of_length_le (by omega)]
  rw [← e]
  refine TE.frz 5 (slT It.dv 64 (itsK ep l)) rfl rfl (it_flat _) rfl ?_
  refine .t 1 5 rfl rfl (.cc (.nil1 (set_pc [] (itsK ep l) (by simp; omega))) rfl) ?_
  exact .z 1 5 rfl (TE.retc rfl rfl rfl)
theorem ritems_pf (l : List Kn) (ep : Int) (hl : l.length ≤ 1048576) (hk : knIn l) : PF Tryz.prog 23 [slT Kn.dv 4 l, .v (.int .i64 ep)] (slT It.dv 64 (setR (itsK ep l) [])) := by
 have hle0 := itsK_le ep l
 refine PF.enter (fn := Tryz.f23) Tryz.func23 rfl Tryz.ntmps23 rfl (fun w0 => .w ?_)
 refine .g 2 1 rfl ?_
 refine TE.own0 5 1 86 64 rfl rfl ?_
 refine .g 1 2 rfl ?_
 refine TE.setv 6 (.int .i64 ((0 : Nat) : Int)) rfl (congrArg _ (by first | rfl | (dsimp only; first | done | rfl | omega))) ?_
 refine TE.set 5 (.ow 1 (itsK ep (l.take (0))).length 64) rfl rfl ?_
 refine TE.obj 1 (.row 86 64 ((itsK ep (l.take (0))).flatMap It.dv)) rfl rfl ?_
 refine .lo (T := Nat) 0 2 rfl (fun i => i ≤ l.length) (fun i => l.length - i) [0, 1] [] (fun i => [(5, .ow 1 (itsK ep (l.take (i))).length 64), (6, .d (.v (.int .i64 ((i : Nat) : Int))))]) (fun i => [(1, .row 86 64 ((itsK ep (l.take (i))).flatMap It.dv))]) (0) rfl rfl (Nat.zero_le _) rfl rfl rfl (fun i hI => ?_)
 refine .q 4 2 rfl rfl (fun h1 => ?_) (fun h1 => ?_)
 ·skip
  have hi : i < l.length := by have q := of_decide_eq_true h1; (try dsimp only at q); omega
  have hin := hk l[i] (List.getElem_mem hi)
  have hle := itsK_take ep l i
  refine .t 2 2 rfl rfl (.idx (l[i]) rfl rfl rfl rfl et33 (fun _ => rfl) (Int.natCast_nonneg i) (get_nat hi)) ?_
  refine .q 4 2 rfl rfl (fun h2 => ?_) (fun h2 => ?_)
  ·skip
   have hy : l[i].ep ≤ ep := of_decide_eq_true h2
   refine .t 3 2 rfl rfl (.idx (l[i]) rfl rfl rfl rfl et33 (fun _ => rfl) (Int.natCast_nonneg i) (get_nat hi)) ?_
   refine .t 1 2 rfl rfl (.lm (entD l[i].nm l[i].ver l[i].key) rfl) ?_
   refine .t 0 2 rfl rfl (.cf (ritem_pf l[i].nm l[i].ver l[i].key hin.1 hin.2.1 hin.2.2) rfl) ?_
   refine .t 0 2 rfl rfl (.bb ((itemI l[i].nm l[i].ver l[i].key).dv) 2 rfl) ?_
   refine .t 0 3 rfl rfl (.ap 3 rfl (it_flat _) (it_one _) (by omega) (by omega)) ?_
   refine .t 2 4 rfl rfl (.bv (.int .i64 ((i + 1 : Nat) : Int)) rfl (congrArg _ (by (try dsimp only); rw [IntKind.wrap_i64]; omega))) ?_
   refine .g 1 4 rfl ?_
   refine TE.set 5 (.ow 3 (itsK ep (l.take (i + 1))).length 64) rfl (by rw [itsK_yes hi hy]; simp) ?_
   refine TE.obj 3 (.row 86 64 ((itsK ep (l.take (i + 1))).flatMap It.dv)) rfl (by rw [itsK_yes hi hy]; simp [List.flatMap_append]) ?_
   refine TE.setv 6 (.int .i64 ((i + 1 : Nat) : Int)) rfl (congrArg _ (by first | rfl | (dsimp only; first | done | rfl | omega))) ?_
   exact .rd 0 4 (swp 1 3) (swp_inj 1 3) rfl (i + 1) (by omega) (by omega) rfl rfl rfl
  ·skip
   have hno : ¬ l[i].ep ≤ ep := of_decide_eq_false h2
   refine .t 1 4 rfl rfl (.bv (.int .i64 ((i + 1 : Nat) : Int)) rfl (congrArg _ (by (try dsimp only); rw [IntKind.wrap_i64]; omega))) ?_
   refine .g 1 4 rfl ?_
   refine TE.set 5 (.ow 1 (itsK ep (l.take (i + 1))).length 64) rfl (by rw [itsK_no hi hno]) ?_
   refine TE.obj 1 (.row 86 64 ((itsK ep (l.take (i + 1))).flatMap It.dv)) rfl (by rw [itsK_no hi hno]) ?_
   refine TE.setv 6 (.int .i64 ((i + 1 : Nat) : Int)) rfl (congrArg _ (by first | rfl | (dsimp only; first | done | rfl | omega))) ?_
   exact .rd 0 4 id (fun _ _ e => e) rfl (i + 1) (by omega) (by omega) rfl rfl rfl
 ·skip
  have hi : ¬ (i < l.length) := by have q := of_decide_eq_false h1; (try dsimp only at q); omega
  have e : itsK ep l = itsK ep (l.take (i)) := by rw [List.take_of_length_le (by omega)]
  rw [← e]
  refine .t 1 4 rfl rfl (.callf rfl cf42 rfl ⟨okA_len rfl (it_flat _), trivial, trivial⟩ (.nil2 (PO.pf (rset_po (itsK ep l) [] (by simp; omega))))) ?_
  exact .z 1 4 rfl (TE.retf rfl rfl rfl trivial)
end Go.Proofs.YtmjokdhhniblgaaGreat

