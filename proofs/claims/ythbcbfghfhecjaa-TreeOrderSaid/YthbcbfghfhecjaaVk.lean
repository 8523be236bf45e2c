/-
  Below a place.
-/
import Derived.Test.YthbcbfghfhecjaaVj
namespace Go.Proofs.Ythbcbfghfhecjaa
set_option linter.unusedVariables false
set_option linter.unusedSimpArgs false
open Go.RowKit Pl

theorem cf18 : cfn Try.prog 18 = true := by kernel_rfl
theorem cf20 : cfn Try.prog 20 = true := by kernel_rfl
theorem cf22 : cfn Try.prog 22 = true := by kernel_rfl
theorem cf24 : cfn Try.prog 24 = true := by kernel_rfl
theorem cf37 : cfn Try.prog 37 = true := by kernel_rfl
theorem cf46 : cfn Try.prog 46 = true := by kernel_rfl
theorem cf55 : cfn Try.prog 55 = true := by kernel_rfl
theorem cf56 : cfn Try.prog 56 = true := by kernel_rfl
theorem cf57 : cfn Try.prog 57 = true := by kernel_rfl
theorem cf58 : cfn Try.prog 58 = true := by kernel_rfl
theorem sp35 : stp Try.prog 35 = some ([.int .u8 0, .int .u8 0, .int .u8 0, .int .u8 0, .int .u8 0, .int .u8 0, .int .u8 0, .int .u8 0, .int .u8 0, .int .u8 0, .int .u8 0, .int .u8 0, .int .u8 0, .int .u8 0, .int .u8 0, .int .u8 0, .int .u8 0, .int .u8 0, .int .u8 0, .int .u8 0, .int .u8 0, .int .u8 0, .int .u8 0, .int .u8 0, .int .u8 0, .int .u8 0, .int .u8 0, .int .u8 0, .int .u8 0, .int .u8 0, .int .u8 0, .int .u8 0, .int .u8 0, .int .u8 0, .int .u8 0, .int .u8 0, .int .u8 0, .int .u8 0, .int .u8 0, .int .u8 0, .int .u8 0, .int .u8 0, .int .u8 0, .int .u8 0, .int .u8 0, .int .u8 0, .int .u8 0, .int .u8 0, .int .u8 0, .int .u8 0, .int .u8 0, .int .u8 0, .int .u8 0, .int .u8 0, .int .u8 0, .int .u8 0, .int .u8 0, .int .u8 0, .int .u8 0, .int .u8 0, .int .u8 0, .int .u8 0, .int .u8 0, .int .u8 0], [(0, 32), (32, 32)]) := by kernel_rfl
theorem sz5 : szt Try.prog 5 = some 1 := by kernel_rfl
theorem tk3 : tyk Try.prog 3 = some none := by kernel_rfl

set_option maxRecDepth 100000 in
set_option maxHeartbeats 1600000 in
theorem clone_po (l : List It) (hl : l.length ≤ 1048576) : PO Try.prog 56 [slT It.dv 64 (l)] 35 64 l.length (l.flatMap It.dv) := by
  refine PO.enter (fn := Try.f56) Try.func56 rfl Try.ntmps56 rfl (fun w0 => ?_)
  refine .seq ?_
  refine .region ?_
  refine .step rfl (.assign rfl rfl) ?_
  refine .nil ?_
  refine .next ?_
  refine .seq ?_
  refine .seq ?_
  refine .region ?_
  refine .step rfl (.move rfl rfl) ?_
  refine .eqnil rfl rfl rfl et25 (fun hn0 hc0 => ?_) ?_
  · skip
    have e : l = [] := List.eq_nil_of_length_eq_zero hn0
    subst e
    refine .nil ?_
    refine .next ?_
    refine .cond rfl (fun h1 => ?_) (fun h1 => absurd h1 (by decide))
    refine .seq ?_
    refine .region ?_
    refine .step rfl (.assign rfl rfl) ?_
    refine .nil ?_
    refine TE.own0 2 1 35 64 rfl rfl ?_
    refine .next ?_
    refine .ret ?_
    exact TE.retof rfl rfl rfl rfl (by decide) pl_nil
  · skip
    refine .nil ?_
    refine .next ?_
    refine .cond rfl (fun h2 => absurd h2 (by decide)) (fun h2 => ?_)
    refine .skip ?_
    refine .next ?_
    refine .seq ?_
    refine .region ?_
    refine .step rfl (.buildsl0 2 rfl rfl ap25) ?_
    refine .step rfl (.move rfl rfl) ?_
    refine .step rfl (.append 3 rfl rfl rfl rfl rfl ap25 rfl rfl trivial (it_all _) (by omega) (by omega)) ?_
    refine .step rfl (.assign rfl rfl) ?_
    refine .nil ?_
    refine TE.set 2 (.ow 3 l.length 64) rfl (by rw [Nat.zero_add]) ?_
    refine TE.obj 3 (.row 35 64 (l.flatMap It.dv)) rfl rfl ?_
    refine .next ?_
    refine .ret ?_
    exact TE.retof rfl rfl rfl (it_flat _) (by decide) (pl_flat pl_it _)

set_option maxRecDepth 100000 in
set_option maxHeartbeats 1600000 in
theorem part1_pf (x : It) (a : Int) : PF Try.prog 58 ([.ag x.dv] ++ [.el [.v (.int .i64 a)]]) (.v (.bool (bitB a x))) := by
  refine PF.enter (fn := Try.f58) Try.func58 rfl Try.ntmps58 rfl (fun w0 => ?_)
  refine .seq ?_
  refine .region ?_
  refine .step rfl (.box 1 rfl rfl rfl rfl) ?_
  refine .step rfl (.assign rfl rfl) ?_
  refine .nil ?_
  refine TE.frzb 2 rfl rfl rfl rfl ?_
  refine .next ?_
  refine .seq ?_
  refine .region ?_
  refine .step rfl (.fielde rfl rfl rfl fo35_0) ?_
  refine .step rfl (.ldem (ds := hdv x.ix) rfl rfl rfl rfl rfl tk24) ?_
  refine .step rfl (.lde rfl rfl rfl rfl tk3) ?_
  refine .step rfl (.callf rfl cf24 rfl ⟨trivial, trivial, trivial⟩ (bit_pf x.ix a)) ?_
  refine .step rfl (.bin rfl rfl rfl rfl) ?_
  refine .step rfl (.assign rfl rfl) ?_
  refine .nil ?_
  refine .next ?_
  refine .ret ?_
  exact TE.retf rfl rfl rfl trivial

set_option maxRecDepth 100000 in
set_option maxHeartbeats 1600000 in
theorem idx_pf (l : List It) (a : Int) (hl : l.length ≤ 1048577) : PF Try.prog 55 [slT It.dv 64 (l), .fn (.func 58) [] [.el [.v (.int .i64 a)]]] (.v (.int .i64 (idxF a l))) := by
  refine PF.enter (fn := Try.f55) Try.func55 rfl Try.ntmps55 rfl (fun w0 => ?_)
  refine .seq ?_
  refine .region ?_
  refine .step rfl (.assign rfl rfl) ?_
  refine .nil ?_
  refine .next ?_
  refine .seq ?_
  refine .seq ?_
  refine .region ?_
  refine .step rfl (.move rfl rfl) ?_
  refine .step rfl (.len rfl rfl ⟨_, _, rfl⟩ is25) ?_
  refine .step rfl (.move rfl rfl) ?_
  refine .nil ?_
  refine TE.setv 8 (.int .i64 ((0 : Nat) : Int)) rfl (congrArg _ (by first | rfl | (dsimp only; first | done | rfl | omega))) ?_
  refine .next ?_
  refine .block ?_
  refine TC.loop (S := Nat) (fun i => i ≤ l.length ∧ ∀ j (hj : j < l.length), j < i → bitB a l[j] = false) (fun i => l.length - i) (fun i => [(0, .d (slT It.dv 64 (l))), (1, .d (.fn (.func 58) [] [.el [.v (.int .i64 a)]])), (6, .d (slT It.dv 64 (l))), (7, .f (.v (.int .i64 ((l.length : Nat) : Int)))), (8, .d (.v (.int .i64 ((i : Nat) : Int))))]) (fun i => []) (0) ⟨Nat.zero_le _, fun j _ h => absurd h (Nat.not_lt_zero j)⟩ ⟨⟨rfl, rfl⟩, ⟨rfl, rfl⟩, ⟨rfl, rfl⟩, ⟨rfl, rfl⟩, ⟨rfl, rfl⟩, trivial⟩ trivial (fun i hI => ?_)
  obtain ⟨i1, i2⟩ := hI
  refine .seq ?_
  refine .region ?_
  refine .step rfl (.bin rfl rfl rfl rfl) ?_
  refine .nil ?_
  refine .next ?_
  refine .seq ?_
  refine .cond rfl (fun h1 => ?_) (fun h1 => ?_)
  · skip
    have hi : i < l.length := by have q := of_decide_eq_true h1; (try dsimp only at q); omega
    refine .skip ?_
    refine .next ?_
    refine .seq ?_
    refine .block ?_
    refine .seq ?_
    refine .region ?_
    refine .step rfl (.move rfl rfl) ?_
    refine .step rfl (.assign rfl rfl) ?_
    refine .nil ?_
    refine .next ?_
    refine .seq ?_
    refine .region ?_
    refine .step rfl (.move rfl rfl) ?_
    refine .step rfl (.move rfl rfl) ?_
    refine .step rfl (.move rfl rfl) ?_
    refine .step rfl (.idx (l[i]) rfl rfl rfl rfl et25 it_len (Int.natCast_nonneg _) (get_nat (hi))) ?_
    refine .step rfl (.ldem (ds := l[i].dv) rfl rfl rfl rfl rfl tk35) ?_
    refine .step rfl (.callvf rfl rfl cf58 rfl ⟨trivial, trivial⟩ (part1_pf l[i] a)) ?_
    refine .nil ?_
    refine .next ?_
    refine .cond rfl (fun h2 => ?_) (fun h2 => ?_)
    · skip
      have hb : bitB a l[i] = true := h2
      have e : idxF a l = ((i : Nat) : Int) := by unfold idxF; rw [fst_at hi hb (fun j hj hjk => i2 j hj hjk), if_pos hi]
      refine .seq ?_
      refine .region ?_
      refine .step rfl (.move rfl rfl) ?_
      refine .step rfl (.assign rfl rfl) ?_
      refine .nil ?_
      refine .next ?_
      refine .ret ?_
      rw [e]
      exact TE.retf rfl rfl rfl (pl_v _)
    · skip
      have hb : bitB a l[i] = false := h2
      refine .skip ?_
      refine TE.blk ?_
      refine .next ?_
      refine .region ?_
      refine .step rfl (.binv (.int .i64 ((i + 1 : Nat) : Int)) rfl rfl rfl rfl (congrArg _ (by (try dsimp only); rw [IntKind.wrap_i64]; omega))) ?_
      refine .step rfl (.move rfl rfl) ?_
      refine .nil ?_
      refine TE.setv 8 (.int .i64 ((i + 1 : Nat) : Int)) rfl (congrArg _ (by first | rfl | (dsimp only; first | done | rfl | omega))) ?_
      exact TE.round id (fun _ _ e => e) (i + 1) ⟨hi, fun j hj hjk => (Nat.lt_or_eq_of_le (Nat.le_of_lt_succ hjk)).elim (i2 j hj) (fun e => by subst e; exact hb)⟩ (by omega) ⟨⟨rfl, rfl⟩, ⟨rfl, rfl⟩, ⟨rfl, rfl⟩, ⟨rfl, rfl⟩, ⟨rfl, rfl⟩, trivial⟩ trivial
  · skip
    have hi : ¬ (i < l.length) := by have q := of_decide_eq_false h1; (try dsimp only at q); omega
    have e : idxF a l = -1 := by unfold idxF; rw [fst_none (fun j hj => i2 j hj (by omega)), if_neg (Nat.lt_irrefl _)]
    refine .exit ?_
    refine TE.pass ?_
    refine TE.pass ?_
    refine TE.here ?_
    refine .next ?_
    refine .seq ?_
    refine .region ?_
    refine .step rfl (.assign rfl rfl) ?_
    refine .nil ?_
    refine .next ?_
    refine .ret ?_
    rw [e]
    exact TE.retf rfl rfl rfl trivial

set_option maxRecDepth 100000 in
set_option maxHeartbeats 1600000 in
theorem ones_pf : PF Try.prog 57 [] (.ag (hdv onesH)) := by
  refine PF.enter (fn := Try.f57) Try.func57 rfl Try.ntmps57 rfl (fun w0 => ?_)
  refine .seq ?_
  refine .region ?_
  refine .step rfl (.alloc 1 rfl rfl zc24 rfl) ?_
  refine .nil ?_
  refine .next ?_
  refine .seq ?_
  refine .region ?_
  refine .step rfl (.alloc 2 rfl rfl zc24 rfl) ?_
  refine .nil ?_
  refine TE.obj 1 (.box 24 (hdv zeroH)) rfl rfl ?_
  refine TE.obj 2 (.box 24 (hdv (onesN 0))) rfl rfl ?_
  refine .next ?_
  refine .seq ?_
  refine .seq ?_
  refine .region ?_
  refine .step rfl (.move rfl rfl) ?_
  refine .nil ?_
  refine TE.setv 3 (.int .i64 ((0 : Nat) : Int)) rfl (congrArg _ (by first | rfl | (dsimp only; first | done | rfl | omega))) ?_
  refine .next ?_
  refine .block ?_
  refine TC.loop (S := Nat) (fun i => i ≤ 32) (fun i => 32 - i) (fun i => [(0, .ptr 1 0), (1, .ptr 2 0), (3, .d (.v (.int .i64 ((i : Nat) : Int))))]) (fun i => [(1, .box 24 (hdv zeroH)), (2, .box 24 (hdv (onesN i)))]) (0) (Nat.zero_le _) ⟨⟨rfl, rfl⟩, ⟨rfl, rfl⟩, ⟨rfl, rfl⟩, trivial⟩ ⟨.inr rfl, .inr rfl, trivial⟩ (fun i hI => ?_)
  refine .seq ?_
  refine .region ?_
  refine .step rfl (.bin rfl rfl rfl rfl) ?_
  refine .nil ?_
  refine .next ?_
  refine .seq ?_
  refine .cond rfl (fun h1 => ?_) (fun h1 => ?_)
  · skip
    have hi : i < 32 := by have q := of_decide_eq_true h1; (try dsimp only at q); omega
    refine .skip ?_
    refine .next ?_
    refine .seq ?_
    refine .block ?_
    refine .seq ?_
    refine .region ?_
    refine .step rfl (.move rfl rfl) ?_
    refine .step rfl (.assign rfl rfl) ?_
    refine .nil ?_
    refine .next ?_
    refine .region ?_
    refine .step rfl (.move rfl rfl) ?_
    refine .step rfl (.idxp rfl rfl rfl rfl rfl ar24 (Int.natCast_nonneg _) (by omega)) ?_
    refine .step rfl (.storeg rfl rfl rfl rfl sz5 rfl (by rw [h_len, Nat.mul_one, Nat.zero_add, Int.toNat_natCast]; exact hi)) ?_
    refine .nil ?_
    refine TE.obj 2 (.box 24 (hdv (onesN (i + 1)))) rfl (by rw [Nat.mul_one, Nat.zero_add, Int.toNat_natCast]; exact congrArg (AO.box _) (ones_set hi)) ?_
    refine TE.blk ?_
    refine .next ?_
    refine .region ?_
    refine .step rfl (.binv (.int .i64 ((i + 1 : Nat) : Int)) rfl rfl rfl rfl (congrArg _ (by (try dsimp only); rw [IntKind.wrap_i64]; omega))) ?_
    refine .step rfl (.move rfl rfl) ?_
    refine .nil ?_
    refine TE.setv 3 (.int .i64 ((i + 1 : Nat) : Int)) rfl (congrArg _ (by first | rfl | (dsimp only; first | done | rfl | omega))) ?_
    exact TE.round id (fun _ _ e => e) (i + 1) (by omega) (by omega) ⟨⟨rfl, rfl⟩, ⟨rfl, rfl⟩, ⟨rfl, rfl⟩, trivial⟩ ⟨.inr rfl, .inr rfl, trivial⟩
  · skip
    have hi : ¬ (i < 32) := by have q := of_decide_eq_false h1; (try dsimp only at q); omega
    have e : i = 32 := by have : i ≤ 32 := hI; omega
    subst e
    refine .exit ?_
    refine TE.pass ?_
    refine TE.pass ?_
    refine TE.here ?_
    refine .next ?_
    refine .seq ?_
    refine .region ?_
    refine .step rfl (.ldpm rfl rfl rfl rfl rfl rfl tk24) ?_
    refine .step rfl (.store rfl rfl rfl sz24 rfl rfl) ?_
    refine .nil ?_
    refine .next ?_
    refine .ret ?_
    exact TE.retf rfl rfl rfl (pl_ag (pl_h _))

set_option maxRecDepth 100000 in
set_option maxHeartbeats 1600000 in
theorem part_pf (l : List It) (a : Nat) (ha : a < 256) (hl : l.length ≤ 1048576) : PF Try.prog 46 [slT It.dv 64 (l), .v (.int .i64 ((a : Nat) : Int))] (.v (.int .i64 ((fst_ (fun x => !bit0 a x) l : Nat) : Int))) := by
  refine PF.enter (fn := Try.f46) Try.func46 rfl Try.ntmps46 rfl (fun w0 => ?_)
  refine .seq ?_
  refine .region ?_
  refine .step rfl (.box 1 rfl rfl rfl rfl) ?_
  refine .step rfl (.assign rfl rfl) ?_
  refine .nil ?_
  refine TE.frzb 3 rfl rfl rfl rfl ?_
  refine .next ?_
  refine .seq ?_
  refine .region ?_
  refine .step rfl (.move rfl rfl) ?_
  refine .step rfl (.callo 2 rfl rfl cf56 rfl ⟨trivial, trivial⟩ (clone_po l hl)) ?_
  refine .step rfl (.callf rfl cf57 rfl trivial (ones_pf)) ?_
  refine .step rfl (.build rfl rfl sp35 rfl rfl) ?_
  refine .step rfl (.buildsl (ds := onesI.dv) 3 rfl rfl rfl ap25 zc35 rfl rfl rfl) ?_
  refine .step rfl (.append 4 rfl rfl rfl (it_flat _) rfl ap25 rfl rfl (okA_len rfl rfl) (it_one _) (by omega) (by omega)) ?_
  refine .step rfl (.mkfn rfl rfl) ?_
  refine .frz 10 (slT It.dv 64 (l ++ [onesI])) rfl rfl (by rw [List.length_append, it_flat, it_len]; omega) (by show DV.sl _ _ _ = DV.sl _ _ _; rw [List.length_append, List.flatMap_append]; simp [onesI]) ?_
  refine .step rfl (.callf rfl cf55 rfl ⟨trivial, trivial, trivial⟩ (idx_pf (l ++ [onesI]) ((a : Nat) : Int) (by simp; omega))) ?_
  refine .step rfl (.assign rfl rfl) ?_
  refine .nil ?_
  refine .next ?_
  refine .ret ?_
  rw [← idxF_ones ha]
  exact TE.retf rfl rfl rfl trivial

set_option maxRecDepth 100000 in
set_option maxHeartbeats 1600000 in
theorem below_step (f : Nat) (ih : ∀ g, f = g + 1 → ∀ k l, okT g k l → l.length ≤ 1048576 → k ≤ 256 → PF Try.prog 37 [slT It.dv 64 l, .v (.int .i64 ((k : Nat) : Int))] (.ag (hdv (belowH (g + 1) k l)))) (k : Nat) (l : List It) (ho : okT f k l) (hl : l.length ≤ 1048576) (hk : k ≤ 256) : PF Try.prog 37 [slT It.dv 64 l, .v (.int .i64 ((k : Nat) : Int))] (.ag (hdv (belowH (f + 1) k l))) := by
  refine PF.enter (fn := Try.f37) Try.func37 rfl Try.ntmps37 rfl (fun w0 => ?_)
  refine .seq ?_
  refine .region ?_
  refine .step rfl (.alloc 1 rfl rfl zc24 rfl) ?_
  refine .nil ?_
  refine .next ?_
  refine .seq ?_
  refine .seq ?_
  refine .region ?_
  refine .step rfl (.move rfl rfl) ?_
  refine .step rfl (.len rfl rfl ⟨_, _, rfl⟩ is25) ?_
  refine .nil ?_
  refine .next ?_
  refine .block ?_
  refine .seq ?_
  refine .region ?_
  refine .step rfl (.bin rfl rfl rfl rfl) ?_
  refine .step rfl (.assign rfl rfl) ?_
  refine .nil ?_
  refine .next ?_
  refine .cond rfl (fun h1 => ?_) (fun h1 => ?_)
  · skip
    have h0 : l.length = 0 := by have q := of_decide_eq_true h1; (try dsimp only at q); omega
    have el : l = [] := List.eq_nil_of_length_eq_zero h0
    subst el
    refine .seq ?_
    refine .region ?_
    refine .step rfl (.callf rfl cf22 rfl trivial (empty_pf)) ?_
    refine .step rfl (.store rfl rfl rfl sz24 rfl rfl) ?_
    refine .nil ?_
    refine .next ?_
    refine .ret ?_
    have e : belowH (f + 1) k [] = tagH 122 [] := rfl
    rw [e]
    exact TE.retf rfl rfl rfl (pl_ag (pl_h _))
  · skip
    have h0 : ¬ (l.length = 0) := by have q := of_decide_eq_false h1; (try dsimp only at q); omega
    refine .seq ?_
    refine .region ?_
    refine .step rfl (.bin rfl rfl rfl rfl) ?_
    refine .step rfl (.assign rfl rfl) ?_
    refine .nil ?_
    refine .next ?_
    refine .cond rfl (fun h2 => ?_) (fun h2 => ?_)
    · skip
      have h1 : l.length = 1 := by have q := of_decide_eq_true h2; (try dsimp only at q); omega
      obtain ⟨x, el⟩ := one_of h1
      subst el
      refine .seq ?_
      refine .region ?_
      refine .step rfl (.move rfl rfl) ?_
      refine .step rfl (.idx (x) rfl rfl rfl rfl et25 it_len (by decide) rfl) ?_
      refine .step rfl (.ldem (ds := x.dv) rfl rfl rfl rfl rfl tk35) ?_
      refine .step rfl (.callf rfl cf18 rfl ⟨trivial, trivial⟩ (leaf_pf x)) ?_
      refine .step rfl (.store rfl rfl rfl sz24 rfl rfl) ?_
      refine .nil ?_
      refine .next ?_
      refine .ret ?_
      have e : belowH (f + 1) k [x] = tagH 108 [H.l x.ix, H.l x.vl] := rfl
      rw [e]
      exact TE.retf rfl rfl rfl (pl_ag (pl_h _))
    · skip
      have h1 : ¬ (l.length = 1) := by have q := of_decide_eq_false h2; (try dsimp only at q); omega
      have h2 : ¬ l.length < 2 := by omega
      obtain ⟨g, rfl, hk2, hs, ho1, ho2⟩ := okT_two ho h2
      refine .skip ?_
      refine TE.blk ?_
      refine .next ?_
      refine .seq ?_
      refine .region ?_
      refine .step rfl (.move rfl rfl) ?_
      refine .step rfl (.move rfl rfl) ?_
      refine .step rfl (.callf rfl cf46 rfl ⟨trivial, trivial, trivial⟩ (part_pf l k hk2 hl)) ?_
      refine .step rfl (.assign rfl rfl) ?_
      refine .nil ?_
      refine .next ?_
      refine .seq ?_
      have hN := fst_le (fun x => !bit0 k x) l
      obtain ⟨t1, t2⟩ := take_side _ hs
      rw [filter_nn] at t1
      have f1 := List.length_filter_le (bit0 k) l
      have f2 := List.length_filter_le (fun x => !bit0 k x) l
      have c1 := ih g rfl (k + 1) (l.filter (bit0 k)) ho1 (by omega) (by omega)
      have c2 := ih g rfl (k + 1) (l.filter (fun x => !bit0 k x)) ho2 (by omega) (by omega)
      rw [← t1] at c1
      rw [← t2] at c2
      have c2' : PF Try.prog 37 [slT It.dv 64 ((l.take ((l.length : Nat) : Int).toNat).drop (((fst_ (fun x => !bit0 k x) l : Nat) : Int)).toNat), .v (.int .i64 ((k + 1 : Nat) : Int))] (.ag (hdv (belowH (g + 1) (k + 1) (l.drop (fst_ (fun x => !bit0 k x) l))))) := by rw [Int.toNat_natCast, Int.toNat_natCast, List.take_length]; exact c2
      refine .draw mixed [Ro.mk _ (Eff.mk (some (20, _)) []) [], Ro.mk _ (Eff.mk (some (21, _)) []) [], Ro.mk _ (Eff.mk (some (22, _)) []) [], Ro.mk _ (Eff.mk (some (23, _)) []) [], Ro.mk _ (Eff.mk (some (24, _)) []) [], Ro.mk _ (Eff.mk (some (25, _)) []) [], Ro.mk _ (Eff.mk (some (26, _)) []) [], Ro.mk _ (Eff.mk (some (27, _)) []) [], Ro.mk _ (Eff.mk (some (28, _)) []) [], Ro.mk _ (Eff.mk (some (29, _)) []) [], Ro.mk _ (Eff.mk (some (30, _)) []) [], Ro.mk _ (Eff.mk (some (31, _)) []) [], Ro.mk _ (Eff.mk (some (32, _)) []) [], Ro.mk _ (Eff.mk none [(1, _)]) [1]] rfl ⟨(fun _ _ => .move rfl rfl), (fun _ _ => .move rfl rfl), (fun _ _ => .slice rfl rfl rfl rfl rfl et25 it_len (by decide) (by omega) (by omega)), (fun _ _ => .move rfl rfl), (fun _ _ => .binv (.int .i64 ((k + 1 : Nat) : Int)) rfl rfl rfl rfl (congrArg _ (by (try dsimp only); rw [IntKind.wrap_i64]; omega))), (fun _ _ => .callf rfl cf37 rfl ⟨trivial, trivial, trivial⟩ (c1)), (fun _ _ => .move rfl rfl), (fun _ _ => .move rfl rfl), (fun _ _ => .slice rfl rfl rfl rfl rfl et25 it_len (Int.natCast_nonneg _) (by omega) (by omega)), (fun _ _ => .move rfl rfl), (fun _ _ => .binv (.int .i64 ((k + 1 : Nat) : Int)) rfl rfl rfl rfl (congrArg _ (by (try dsimp only); rw [IntKind.wrap_i64]; omega))), (fun _ _ => .callf rfl cf37 rfl ⟨trivial, trivial, trivial⟩ (c2')), (fun _ _ => .callf rfl cf20 rfl ⟨trivial, trivial, trivial⟩ (node_pf _ _)), (fun _ _ => .store rfl rfl rfl sz24 rfl rfl), trivial⟩ (by kernel_rfl) ?_
      refine .next ?_
      refine .ret ?_
      rw [belowH_two h2]
      rw [← t1, ← t2]
      exact TE.retf rfl rfl rfl (pl_ag (pl_h _))

theorem below_pf : ∀ (f k : Nat) (l : List It), okT f k l → l.length ≤ 1048576 → k ≤ 256 → PF Try.prog 37 [slT It.dv 64 l, .v (.int .i64 ((k : Nat) : Int))] (.ag (hdv (belowH (f + 1) k l)))
  | 0 => below_step 0 (fun g e => by omega)
  | f + 1 => below_step (f + 1) (fun g e => (show f = g by omega) ▸ below_pf f)

end Go.Proofs.Ythbcbfghfhecjaa
