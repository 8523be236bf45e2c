/-
  Items of both directories.
-/
import Derived.Test.YthidepbffhhkmaaIg
namespace Go.Proofs.Ythidepbffhhkmaa
set_option linter.unusedVariables false
set_option linter.unusedSimpArgs false
open Go.RowKit Pl

theorem cf11 : cfn Try.prog 11 = true := by kernel_rfl
theorem cf25 : cfn Try.prog 25 = true := by kernel_rfl
theorem cf26 : cfn Try.prog 26 = true := by kernel_rfl
theorem cf36 : cfn Try.prog 36 = true := by kernel_rfl

/-- The items that an epoch shows. -/
def itsK (ep : Int) (l : List Kn) : List It := (l.filter (fun k => decide (k.ep ≤ ep))).map (fun k => itemI k.nm k.ver k.key)
theorem itsK_yes {ep : Int} {l : List Kn} {i : Nat} (h : i < l.length) (hy : l[i].ep ≤ ep) : itsK ep (l.take (i + 1)) = itsK ep (l.take i) ++ [itemI l[i].nm l[i].ver l[i].key] := by
  unfold itsK; rw [take_snoc' h, List.filter_append, List.map_append]; simp [hy]
theorem itsK_no {ep : Int} {l : List Kn} {i : Nat} (h : i < l.length) (hy : ¬ l[i].ep ≤ ep) : itsK ep (l.take (i + 1)) = itsK ep (l.take i) := by
  unfold itsK; rw [take_snoc' h, List.filter_append, List.map_append]; simp [hy]
theorem itsK_le (ep : Int) (l : List Kn) : (itsK ep l).length ≤ l.length := by
  unfold itsK; rw [List.length_map]; exact List.length_filter_le _ _
theorem itsK_take (ep : Int) (l : List Kn) (i : Nat) : (itsK ep (l.take i)).length ≤ l.length := Nat.le_trans (itsK_le _ _) (by rw [List.length_take]; omega)
/-- Knowledge that can be hashed. -/
def knIn (l : List Kn) : Prop := ∀ k ∈ l, k.nm.length ≤ 1048576 ∧ 0 ≤ k.key ∧ k.key < 18446744073709551616

set_option maxRecDepth 100000 in
set_option maxHeartbeats 1600000 in
theorem items_pc (l : List Kn) (ep : Int) (hl : l.length ≤ 1048576) (hk : knIn l) : PC Try.prog 10 [slT Kn.dv 4 l, .v (.int .i64 ep)] (slT It.dv 64 (setA [] (itsK ep l))) := by
  have hle0 := itsK_le ep l
  refine PC.enter (fn := Try.f10) Try.func10 rfl Try.ntmps10 rfl (fun w0 K0 => ?_)
  refine .seq ?_
  refine .region ?_
  refine .step rfl (.assign rfl rfl) ?_
  refine .nil ?_
  refine .next ?_
  refine .seq ?_
  refine .region ?_
  refine .step rfl (.assign rfl rfl) ?_
  refine .nil ?_
  refine TE.own0 5 1 36 64 rfl rfl ?_
  refine .next ?_
  refine .seq ?_
  refine .seq ?_
  refine .region ?_
  refine .step rfl (.move rfl rfl) ?_
  refine .step rfl (.len rfl rfl ⟨_, _, rfl⟩ is24) ?_
  refine .step rfl (.move rfl rfl) ?_
  refine .nil ?_
  refine TE.setv 10 (.int .i64 ((0 : Nat) : Int)) rfl (congrArg _ (by first | rfl | (dsimp only; first | done | rfl | omega))) ?_
  refine TE.set 5 (.ow 1 (itsK ep (l.take (0))).length 64) rfl rfl ?_
  refine TE.obj 1 (.row 36 64 ((itsK ep (l.take (0))).flatMap It.dv)) rfl rfl ?_
  refine .next ?_
  refine .block ?_
  refine TC.loop (S := Nat) (fun i => i ≤ l.length) (fun i => l.length - i) (fun i => [(0, .d (slT Kn.dv 4 l)), (1, .d (.v (.int .i64 ep))), (5, .ow 1 (itsK ep (l.take (i))).length 64), (8, .d (slT Kn.dv 4 l)), (9, .f (.v (.int .i64 ((l.length : Nat) : Int)))), (10, .d (.v (.int .i64 ((i : Nat) : Int))))]) (fun i => [(1, .row 36 64 ((itsK ep (l.take (i))).flatMap It.dv))]) (0) (Nat.zero_le _) ⟨⟨rfl, rfl⟩, ⟨rfl, rfl⟩, ⟨rfl, rfl⟩, ⟨rfl, rfl⟩, ⟨rfl, rfl⟩, ⟨rfl, rfl⟩, trivial⟩ ⟨.inr rfl, trivial⟩ (fun i hI => ?_)
  refine .seq ?_
  refine .region ?_
  refine .step rfl (.bin rfl rfl rfl rfl) ?_
  refine .nil ?_
  refine .next ?_
  refine .seq ?_
  refine .cond rfl (fun h1 => ?_) (fun h1 => ?_)
  ·skip
   have hi : i < l.length := by have q := of_decide_eq_true h1; (try dsimp only at q); omega
   have hin := hk l[i] (List.getElem_mem hi)
   have hle := itsK_take ep l i
   refine .skip ?_
   refine .next ?_
   refine .seq ?_
   refine .block ?_
   refine .seq ?_
   refine .region ?_
   refine .step rfl (.idx (l[i]) rfl rfl rfl rfl et24 (fun _ => rfl) (Int.natCast_nonneg i) (get_nat hi)) ?_
   refine .step rfl (.ldem rfl rfl rfl rfl rfl tk32) ?_
   refine .step rfl (.alloc 2 rfl rfl zc32 rfl) ?_
   refine .step rfl (.store rfl rfl rfl sz32 rfl rfl) ?_
   refine .nil ?_
   refine .next ?_
   refine .seq ?_
   refine .region ?_
   refine .step rfl (.fieldp rfl rfl rfl rfl fo32_1) ?_
   refine .step rfl (.ldp rfl rfl rfl rfl rfl tk3) ?_
   refine .step rfl (.move rfl rfl) ?_
   refine .step rfl (.bin rfl rfl rfl rfl) ?_
   refine .nil ?_
   refine .next ?_
   refine .cond rfl (fun h2 => ?_) (fun h2 => ?_)
   ·skip
    have hy : l[i].ep ≤ ep := of_decide_eq_true h2
    refine .region ?_
    refine .step rfl (.move rfl rfl) ?_
    refine .step rfl (.fieldp rfl rfl rfl rfl fo32_0) ?_
    refine .step rfl (.ldpm rfl rfl rfl rfl rfl rfl tk30) ?_
    refine .step rfl (.callf rfl cf25 rfl ⟨trivial, trivial⟩ (item_pf l[i].nm l[i].ver l[i].key hin.1 hin.2.1 hin.2.2)) ?_
    refine .step rfl (.buildsl (ds := (itemI l[i].nm l[i].ver l[i].key).dv) 3 rfl rfl rfl ap26 zc36 rfl rfl rfl) ?_
    refine .step rfl (.append 4 rfl rfl rfl (it_flat _) rfl ap26 rfl rfl (okA_len rfl rfl) (it_one _) (by omega) (by omega)) ?_
    refine .step rfl (.assign rfl rfl) ?_
    refine .nil ?_
    refine TE.blk ?_
    refine .next ?_
    refine .region ?_
    refine .step rfl (.binv (.int .i64 ((i + 1 : Nat) : Int)) rfl rfl rfl rfl (congrArg _ (by (try dsimp only); rw [IntKind.wrap_i64]; omega))) ?_
    refine .step rfl (.move rfl rfl) ?_
    refine .nil ?_
    refine TE.set 5 (.ow 4 (itsK ep (l.take (i + 1))).length 64) rfl (by rw [itsK_yes hi hy]; simp) ?_
    refine TE.obj 4 (.row 36 64 ((itsK ep (l.take (i + 1))).flatMap It.dv)) rfl (by rw [itsK_yes hi hy]; simp [List.flatMap_append]) ?_
    refine TE.setv 10 (.int .i64 ((i + 1 : Nat) : Int)) rfl (congrArg _ (by first | rfl | (dsimp only; first | done | rfl | omega))) ?_
    exact TE.round (swp 1 4) (swp_inj 1 4) (i + 1) (by omega) (by omega) ⟨⟨rfl, rfl⟩, ⟨rfl, rfl⟩, ⟨rfl, rfl⟩, ⟨rfl, rfl⟩, ⟨rfl, rfl⟩, ⟨rfl, rfl⟩, trivial⟩ ⟨.inr rfl, trivial⟩
   ·skip
    have hno : ¬ l[i].ep ≤ ep := of_decide_eq_false h2
    refine .skip ?_
    refine TE.blk ?_
    refine .next ?_
    refine .region ?_
    refine .step rfl (.binv (.int .i64 ((i + 1 : Nat) : Int)) rfl rfl rfl rfl (congrArg _ (by (try dsimp only); rw [IntKind.wrap_i64]; omega))) ?_
    refine .step rfl (.move rfl rfl) ?_
    refine .nil ?_
    refine TE.set 5 (.ow 1 (itsK ep (l.take (i + 1))).length 64) rfl (by rw [itsK_no hi hno]) ?_
    refine TE.obj 1 (.row 36 64 ((itsK ep (l.take (i + 1))).flatMap It.dv)) rfl (by rw [itsK_no hi hno]) ?_
    refine TE.setv 10 (.int .i64 ((i + 1 : Nat) : Int)) rfl (congrArg _ (by first | rfl | (dsimp only; first | done | rfl | omega))) ?_
    exact TE.round id (fun _ _ e => e) (i + 1) (by omega) (by omega) ⟨⟨rfl, rfl⟩, ⟨rfl, rfl⟩, ⟨rfl, rfl⟩, ⟨rfl, rfl⟩, ⟨rfl, rfl⟩, ⟨rfl, rfl⟩, trivial⟩ ⟨.inr rfl, trivial⟩
  ·skip
   have hi : ¬ (i < l.length) := by have q := of_decide_eq_false h1; (try dsimp only at q); omega
   have e : itsK ep l = itsK ep (l.take (i)) := by rw [List.take_of_length_le (by omega)]
   refine .exit ?_
   refine TE.pass ?_
   refine TE.pass ?_
   refine TE.here ?_
   refine .next ?_
   refine .seq ?_
   rw [← e]
   refine TC.frz 5 (slT It.dv 64 (itsK ep l)) rfl rfl (it_flat _) rfl ?_
   refine .region ?_
   refine .step rfl (.move rfl rfl) ?_
   refine .step rfl (.callc rfl cf26 rfl (.nil1 (set_pc [] (itsK ep l) (by simp; omega)))) ?_
   refine .step rfl (.assign rfl rfl) ?_
   refine .nil ?_
   refine .next ?_
   refine .ret ?_
   exact TE.retc rfl rfl rfl

set_option maxRecDepth 100000 in
set_option maxHeartbeats 1600000 in
theorem ritems_pf (l : List Kn) (ep : Int) (hl : l.length ≤ 1048576) (hk : knIn l) : PF Try.prog 24 [slT Kn.dv 4 l, .v (.int .i64 ep)] (slT It.dv 64 (setR (itsK ep l) [])) := by
  have hle0 := itsK_le ep l
  refine PF.enter (fn := Try.f24) Try.func24 rfl Try.ntmps24 rfl (fun w0 => ?_)
  refine .seq ?_
  refine .region ?_
  refine .step rfl (.assign rfl rfl) ?_
  refine .nil ?_
  refine .next ?_
  refine .seq ?_
  refine .region ?_
  refine .step rfl (.assign rfl rfl) ?_
  refine .nil ?_
  refine TE.own0 5 1 36 64 rfl rfl ?_
  refine .next ?_
  refine .seq ?_
  refine .seq ?_
  refine .region ?_
  refine .step rfl (.assign rfl rfl) ?_
  refine .nil ?_
  refine TE.setv 6 (.int .i64 ((0 : Nat) : Int)) rfl (congrArg _ (by first | rfl | (dsimp only; first | done | rfl | omega))) ?_
  refine TE.set 5 (.ow 1 (itsK ep (l.take (0))).length 64) rfl rfl ?_
  refine TE.obj 1 (.row 36 64 ((itsK ep (l.take (0))).flatMap It.dv)) rfl rfl ?_
  refine .next ?_
  refine .block ?_
  refine TC.loop (S := Nat) (fun i => i ≤ l.length) (fun i => l.length - i) (fun i => [(0, .d (slT Kn.dv 4 l)), (1, .d (.v (.int .i64 ep))), (5, .ow 1 (itsK ep (l.take (i))).length 64), (6, .d (.v (.int .i64 ((i : Nat) : Int))))]) (fun i => [(1, .row 36 64 ((itsK ep (l.take (i))).flatMap It.dv))]) (0) (Nat.zero_le _) ⟨⟨rfl, rfl⟩, ⟨rfl, rfl⟩, ⟨rfl, rfl⟩, ⟨rfl, rfl⟩, trivial⟩ ⟨.inr rfl, trivial⟩ (fun i hI => ?_)
  refine .seq ?_
  refine .seq ?_
  refine .region ?_
  refine .step rfl (.move rfl rfl) ?_
  refine .step rfl (.move rfl rfl) ?_
  refine .step rfl (.len rfl rfl ⟨_, _, rfl⟩ is24) ?_
  refine .step rfl (.bin rfl rfl rfl rfl) ?_
  refine .nil ?_
  refine .next ?_
  refine .cond rfl (fun h1 => ?_) (fun h1 => ?_)
  ·skip
   have hi : i < l.length := by have q := of_decide_eq_true h1; (try dsimp only at q); omega
   have hin := hk l[i] (List.getElem_mem hi)
   have hle := itsK_take ep l i
   refine .skip ?_
   refine .next ?_
   refine .seq ?_
   refine .block ?_
   refine .seq ?_
   refine .region ?_
   refine .step rfl (.move rfl rfl) ?_
   refine .step rfl (.move rfl rfl) ?_
   refine .step rfl (.idx (l[i]) rfl rfl rfl rfl et24 (fun _ => rfl) (Int.natCast_nonneg i) (get_nat hi)) ?_
   refine .step rfl (.fielde rfl rfl rfl fo32_1) ?_
   refine .step rfl (.lde rfl rfl rfl rfl tk3) ?_
   refine .step rfl (.move rfl rfl) ?_
   refine .step rfl (.bin rfl rfl rfl rfl) ?_
   refine .nil ?_
   refine .next ?_
   refine .cond rfl (fun h2 => ?_) (fun h2 => ?_)
   ·skip
    have hy : l[i].ep ≤ ep := of_decide_eq_true h2
    refine .region ?_
    refine .step rfl (.move rfl rfl) ?_
    refine .step rfl (.move rfl rfl) ?_
    refine .step rfl (.move rfl rfl) ?_
    refine .step rfl (.idx (l[i]) rfl rfl rfl rfl et24 (fun _ => rfl) (Int.natCast_nonneg i) (get_nat hi)) ?_
    refine .step rfl (.fielde rfl rfl rfl fo32_0) ?_
    refine .step rfl (.ldem (ds := entD l[i].nm l[i].ver l[i].key) rfl rfl rfl rfl rfl tk30) ?_
    refine .step rfl (.callf rfl cf11 rfl ⟨trivial, trivial⟩ (ritem_pf l[i].nm l[i].ver l[i].key hin.1 hin.2.1 hin.2.2)) ?_
    refine .step rfl (.buildsl (ds := (itemI l[i].nm l[i].ver l[i].key).dv) 2 rfl rfl rfl ap26 zc36 rfl rfl rfl) ?_
    refine .step rfl (.append 3 rfl rfl rfl (it_flat _) rfl ap26 rfl rfl (okA_len rfl rfl) (it_one _) (by omega) (by omega)) ?_
    refine .step rfl (.assign rfl rfl) ?_
    refine .nil ?_
    refine TE.blk ?_
    refine .next ?_
    refine .region ?_
    refine .step rfl (.move rfl rfl) ?_
    refine .step rfl (.binv (.int .i64 ((i + 1 : Nat) : Int)) rfl rfl rfl rfl (congrArg _ (by (try dsimp only); rw [IntKind.wrap_i64]; omega))) ?_
    refine .step rfl (.assign rfl rfl) ?_
    refine .nil ?_
    refine TE.set 5 (.ow 3 (itsK ep (l.take (i + 1))).length 64) rfl (by rw [itsK_yes hi hy]; simp) ?_
    refine TE.obj 3 (.row 36 64 ((itsK ep (l.take (i + 1))).flatMap It.dv)) rfl (by rw [itsK_yes hi hy]; simp [List.flatMap_append]) ?_
    refine TE.setv 6 (.int .i64 ((i + 1 : Nat) : Int)) rfl (congrArg _ (by first | rfl | (dsimp only; first | done | rfl | omega))) ?_
    exact TE.round (swp 1 3) (swp_inj 1 3) (i + 1) (by omega) (by omega) ⟨⟨rfl, rfl⟩, ⟨rfl, rfl⟩, ⟨rfl, rfl⟩, ⟨rfl, rfl⟩, trivial⟩ ⟨.inr rfl, trivial⟩
   ·skip
    have hno : ¬ l[i].ep ≤ ep := of_decide_eq_false h2
    refine .skip ?_
    refine TE.blk ?_
    refine .next ?_
    refine .region ?_
    refine .step rfl (.move rfl rfl) ?_
    refine .step rfl (.binv (.int .i64 ((i + 1 : Nat) : Int)) rfl rfl rfl rfl (congrArg _ (by (try dsimp only); rw [IntKind.wrap_i64]; omega))) ?_
    refine .step rfl (.assign rfl rfl) ?_
    refine .nil ?_
    refine TE.set 5 (.ow 1 (itsK ep (l.take (i + 1))).length 64) rfl (by rw [itsK_no hi hno]) ?_
    refine TE.obj 1 (.row 36 64 ((itsK ep (l.take (i + 1))).flatMap It.dv)) rfl (by rw [itsK_no hi hno]) ?_
    refine TE.setv 6 (.int .i64 ((i + 1 : Nat) : Int)) rfl (congrArg _ (by first | rfl | (dsimp only; first | done | rfl | omega))) ?_
    exact TE.round id (fun _ _ e => e) (i + 1) (by omega) (by omega) ⟨⟨rfl, rfl⟩, ⟨rfl, rfl⟩, ⟨rfl, rfl⟩, ⟨rfl, rfl⟩, trivial⟩ ⟨.inr rfl, trivial⟩
  ·skip
   have hi : ¬ (i < l.length) := by have q := of_decide_eq_false h1; (try dsimp only at q); omega
   have e : itsK ep l = itsK ep (l.take (i)) := by rw [List.take_of_length_le (by omega)]
   refine .exit ?_
   refine TE.pass ?_
   refine TE.pass ?_
   refine TE.here ?_
   refine .next ?_
   refine .seq ?_
   rw [← e]
   refine .region ?_
   refine .step rfl (.move rfl rfl) ?_
   refine .step rfl (.callf rfl cf36 rfl ⟨okA_len rfl (it_flat _), trivial, trivial⟩ (.nil2 (PO.pf (rset_po (itsK ep l) [] (by simp; omega))))) ?_
   refine .step rfl (.assign rfl rfl) ?_
   refine .nil ?_
   refine .next ?_
   refine .ret ?_
   exact TE.retf rfl rfl rfl trivial

end Go.Proofs.Ythidepbffhhkmaa
