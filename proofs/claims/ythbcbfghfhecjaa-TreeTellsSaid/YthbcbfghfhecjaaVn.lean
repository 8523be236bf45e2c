/-
  The reference's sides and root.
-/
import Derived.Test.YthbcbfghfhecjaaVm
namespace Go.Proofs.Ythbcbfghfhecjaa
set_option linter.unusedVariables false
set_option linter.unusedSimpArgs false
open Go.RowKit Pl

theorem cf19 : cfn Try.prog 19 = true := by kernel_rfl
theorem cf21 : cfn Try.prog 21 = true := by kernel_rfl
theorem cf23 : cfn Try.prog 23 = true := by kernel_rfl
theorem cf25 : cfn Try.prog 25 = true := by kernel_rfl
theorem cf38 : cfn Try.prog 38 = true := by kernel_rfl
theorem cf47 : cfn Try.prog 47 = true := by kernel_rfl

set_option maxRecDepth 100000 in
set_option maxHeartbeats 1600000 in
theorem sides_pc (l : List It) (k : Nat) (hk : k < 256) (hl : l.length ≤ 1048576) : PC Try.prog 47 [slT It.dv 64 (l), .v (.int .i64 ((k : Nat) : Int))] (.tp [slT It.dv 64 (l.filter (bit0 k)), slT It.dv 64 (l.filter (fun x => !bit0 k x))]) := by
  refine PC.enter (fn := Try.f47) Try.func47 rfl Try.ntmps47 rfl (fun w0 K0 => ?_)
  refine .seq ?_
  refine .region ?_
  refine .step rfl (.assign rfl rfl) ?_
  refine .step rfl (.assign rfl rfl) ?_
  refine .nil ?_
  refine .next ?_
  refine .seq ?_
  refine .region ?_
  refine .step rfl (.assign rfl rfl) ?_
  refine .step rfl (.assign rfl rfl) ?_
  refine .nil ?_
  refine TE.own0 6 1 35 64 rfl rfl ?_
  refine TE.own0 7 2 35 64 rfl rfl ?_
  refine .next ?_
  refine .seq ?_
  refine .seq ?_
  refine .region ?_
  refine .step rfl (.assign rfl rfl) ?_
  refine .nil ?_
  refine TE.setv 8 (.int .i64 ((0 : Nat) : Int)) rfl (congrArg _ (by first | rfl | (dsimp only; first | done | rfl | omega))) ?_
  refine .next ?_
  refine .block ?_
  refine TC.loop (S := Nat) (fun i => i ≤ l.length) (fun i => l.length - i) (fun i => [(0, .d (slT It.dv 64 (l))), (1, .d (.v (.int .i64 ((k : Nat) : Int)))), (6, .ow 1 ((l.take i).filter (bit0 k)).length 64), (7, .ow 2 ((l.take i).filter (fun x => !bit0 k x)).length 64), (8, .d (.v (.int .i64 ((i : Nat) : Int))))]) (fun i => [(1, .row 35 64 (((l.take i).filter (bit0 k)).flatMap It.dv)), (2, .row 35 64 (((l.take i).filter (fun x => !bit0 k x)).flatMap It.dv))]) (0) (Nat.zero_le _) ⟨⟨rfl, rfl⟩, ⟨rfl, rfl⟩, ⟨rfl, rfl⟩, ⟨rfl, rfl⟩, ⟨rfl, rfl⟩, trivial⟩ ⟨.inr rfl, .inr rfl, trivial⟩ (fun i hI => ?_)
  refine .seq ?_
  refine .seq ?_
  refine .region ?_
  refine .step rfl (.move rfl rfl) ?_
  refine .step rfl (.move rfl rfl) ?_
  refine .step rfl (.len rfl rfl ⟨_, _, rfl⟩ is25) ?_
  refine .step rfl (.bin rfl rfl rfl rfl) ?_
  refine .nil ?_
  refine .next ?_
  refine .cond rfl (fun h1 => ?_) (fun h1 => ?_)
  · skip
    have hi : i < l.length := by have q := of_decide_eq_true h1; (try dsimp only at q); omega
    have q1 := filter_take_le (bit0 k) l i
    have q2 := filter_take_le (fun x => !bit0 k x) l i
    refine .skip ?_
    refine .next ?_
    refine .seq ?_
    refine .block ?_
    refine .seq ?_
    refine .region ?_
    refine .step rfl (.move rfl rfl) ?_
    refine .step rfl (.move rfl rfl) ?_
    refine .step rfl (.idx (l[i]) rfl rfl rfl rfl et25 it_len (Int.natCast_nonneg _) (get_nat (hi))) ?_
    refine .step rfl (.fielde rfl rfl rfl fo35_0) ?_
    refine .step rfl (.ldem (ds := hdv l[i].ix) rfl rfl rfl rfl rfl tk24) ?_
    refine .step rfl (.move rfl rfl) ?_
    refine .step rfl (.callf rfl cf25 rfl ⟨trivial, trivial, trivial⟩ (rbit_pf l[i].ix ((k : Nat) : Int))) ?_
    refine .step rfl (.binv (.bool (bit0 k l[i])) rfl rfl rfl rfl (congrArg Value.bool (bit0_dec hk _))) ?_
    refine .nil ?_
    refine .next ?_
    refine .cond rfl (fun h2 => ?_) (fun h2 => ?_)
    · skip
      have hb : bit0 k l[i] = true := h2
      have f1 := filter_snoc (bit0 k) hi
      rw [if_pos hb] at f1
      have f2 := filter_snoc (fun x => !bit0 k x) hi
      rw [if_neg (by rw [hb]; simp)] at f2
      refine .region ?_
      refine .step rfl (.move rfl rfl) ?_
      refine .step rfl (.move rfl rfl) ?_
      refine .step rfl (.move rfl rfl) ?_
      refine .step rfl (.idx (l[i]) rfl rfl rfl rfl et25 it_len (Int.natCast_nonneg _) (get_nat (hi))) ?_
      refine .step rfl (.ldem (ds := l[i].dv) rfl rfl rfl rfl rfl tk35) ?_
      refine .step rfl (.buildsl (ds := l[i].dv) 3 rfl rfl rfl ap25 zc35 rfl rfl rfl) ?_
      refine .step rfl (.append 4 rfl rfl rfl (it_flat _) rfl ap25 rfl rfl (okA_len rfl rfl) (it_one _) (by omega) (by omega)) ?_
      refine .step rfl (.assign rfl rfl) ?_
      refine .nil ?_
      refine TE.blk ?_
      refine .next ?_
      refine .region ?_
      refine .step rfl (.move rfl rfl) ?_
      refine .step rfl (.binv (.int .i64 ((i + 1 : Nat) : Int)) rfl rfl rfl rfl (congrArg _ (by (try dsimp only); rw [IntKind.wrap_i64]; omega))) ?_
      refine .step rfl (.assign rfl rfl) ?_
      refine .nil ?_
      refine TE.set 6 (.ow 4 ((l.take (i + 1)).filter (bit0 k)).length 64) rfl (by rw [f1]; simp) ?_
      refine TE.set 7 (.ow 2 ((l.take (i + 1)).filter (fun x => !bit0 k x)).length 64) rfl (by rw [f2]) ?_
      refine TE.obj 4 (.row 35 64 ((((l.take (i + 1)).filter (bit0 k))).flatMap It.dv)) rfl (by rw [f1, List.flatMap_append]; simp) ?_
      refine TE.obj 2 (.row 35 64 ((((l.take (i + 1)).filter (fun x => !bit0 k x))).flatMap It.dv)) rfl (by rw [f2]) ?_
      refine TE.setv 8 (.int .i64 ((i + 1 : Nat) : Int)) rfl (congrArg _ (by first | rfl | (dsimp only; first | done | rfl | omega))) ?_
      exact TE.round (swp 1 4) (swp_inj 1 4) (i + 1) (by omega) (by omega) ⟨⟨rfl, rfl⟩, ⟨rfl, rfl⟩, ⟨rfl, rfl⟩, ⟨rfl, rfl⟩, ⟨rfl, rfl⟩, trivial⟩ ⟨.inr rfl, .inr rfl, trivial⟩
    · skip
      have hb : bit0 k l[i] = false := h2
      have f1 := filter_snoc (bit0 k) hi
      rw [if_neg (by rw [hb]; simp)] at f1
      have f2 := filter_snoc (fun x => !bit0 k x) hi
      rw [if_pos (by rw [hb]; rfl)] at f2
      refine .region ?_
      refine .step rfl (.move rfl rfl) ?_
      refine .step rfl (.move rfl rfl) ?_
      refine .step rfl (.move rfl rfl) ?_
      refine .step rfl (.idx (l[i]) rfl rfl rfl rfl et25 it_len (Int.natCast_nonneg _) (get_nat (hi))) ?_
      refine .step rfl (.ldem (ds := l[i].dv) rfl rfl rfl rfl rfl tk35) ?_
      refine .step rfl (.buildsl (ds := l[i].dv) 5 rfl rfl rfl ap25 zc35 rfl rfl rfl) ?_
      refine .step rfl (.append 6 rfl rfl rfl (it_flat _) rfl ap25 rfl rfl (okA_len rfl rfl) (it_one _) (by omega) (by omega)) ?_
      refine .step rfl (.assign rfl rfl) ?_
      refine .nil ?_
      refine TE.blk ?_
      refine .next ?_
      refine .region ?_
      refine .step rfl (.move rfl rfl) ?_
      refine .step rfl (.binv (.int .i64 ((i + 1 : Nat) : Int)) rfl rfl rfl rfl (congrArg _ (by (try dsimp only); rw [IntKind.wrap_i64]; omega))) ?_
      refine .step rfl (.assign rfl rfl) ?_
      refine .nil ?_
      refine TE.set 7 (.ow 6 ((l.take (i + 1)).filter (fun x => !bit0 k x)).length 64) rfl (by rw [f2]; simp) ?_
      refine TE.set 6 (.ow 1 ((l.take (i + 1)).filter (bit0 k)).length 64) rfl (by rw [f1]) ?_
      refine TE.obj 6 (.row 35 64 ((((l.take (i + 1)).filter (fun x => !bit0 k x))).flatMap It.dv)) rfl (by rw [f2, List.flatMap_append]; simp) ?_
      refine TE.obj 1 (.row 35 64 ((((l.take (i + 1)).filter (bit0 k))).flatMap It.dv)) rfl (by rw [f1]) ?_
      refine TE.setv 8 (.int .i64 ((i + 1 : Nat) : Int)) rfl (congrArg _ (by first | rfl | (dsimp only; first | done | rfl | omega))) ?_
      exact TE.round (swp 2 6) (swp_inj 2 6) (i + 1) (by omega) (by omega) ⟨⟨rfl, rfl⟩, ⟨rfl, rfl⟩, ⟨rfl, rfl⟩, ⟨rfl, rfl⟩, ⟨rfl, rfl⟩, trivial⟩ ⟨.inr rfl, .inr rfl, trivial⟩
  · skip
    have hi : ¬ (i < l.length) := by have q := of_decide_eq_false h1; (try dsimp only at q); omega
    have ei : i = l.length := by have : i ≤ l.length := hI; omega
    have e : l.take i = l := by rw [ei, List.take_length]
    refine .exit ?_
    refine TE.pass ?_
    refine TE.pass ?_
    refine TE.here ?_
    refine .next ?_
    refine .seq ?_
    refine .region ?_
    refine .step rfl (.move rfl rfl) ?_
    refine .step rfl (.move rfl rfl) ?_
    refine .step rfl (.assign rfl rfl) ?_
    refine .step rfl (.assign rfl rfl) ?_
    refine .nil ?_
    refine TE.frz 4 (slT It.dv 64 (l.filter (bit0 k))) rfl rfl (it_flat _) (by rw [e]) ?_
    refine TE.frz 5 (slT It.dv 64 (l.filter (fun x => !bit0 k x))) rfl rfl (it_flat _) (by rw [e]) ?_
    refine .next ?_
    refine .ret ?_
    exact TE.rettc rfl rfl rfl

set_option maxRecDepth 100000 in
set_option maxHeartbeats 1600000 in
theorem rroot_step (f : Nat) (ih : ∀ g, f = g + 1 → ∀ k l, okT g k l → l.length ≤ 1048576 → k ≤ 256 → PF Try.prog 38 [slT It.dv 64 l, .v (.int .i64 ((k : Nat) : Int))] (.ag (hdv (belowH (g + 1) k l)))) (k : Nat) (l : List It) (ho : okT f k l) (hl : l.length ≤ 1048576) (hk : k ≤ 256) : PF Try.prog 38 [slT It.dv 64 l, .v (.int .i64 ((k : Nat) : Int))] (.ag (hdv (belowH (f + 1) k l))) := by
  refine PF.enter (fn := Try.f38) Try.func38 rfl Try.ntmps38 rfl (fun w0 => ?_)
  refine .seq ?_
  refine .region ?_
  refine .step rfl (.alloc 1 rfl rfl zc24 rfl) ?_
  refine .nil ?_
  refine .next ?_
  refine .seq ?_
  refine .seq ?_
  refine .region ?_
  refine .step rfl (.move rfl rfl) ?_
  refine .step rfl (.len rfl rfl ⟨_, _, rfl⟩ is25) ?_
  refine .step rfl (.bin rfl rfl rfl rfl) ?_
  refine .nil ?_
  refine .next ?_
  refine .cond rfl (fun h1 => ?_) (fun h1 => ?_)
  · skip
    have h0 : l.length = 0 := by have q := of_decide_eq_true h1; (try dsimp only at q); omega
    have el : l = [] := List.eq_nil_of_length_eq_zero h0
    subst el
    refine .seq ?_
    refine .region ?_
    refine .step rfl (.callf rfl cf23 rfl trivial (rempty_pf)) ?_
    refine .step rfl (.store rfl rfl rfl sz24 rfl rfl) ?_
    refine .nil ?_
    refine .next ?_
    refine .ret ?_
    have e : belowH (f + 1) k [] = tagH 122 [] := rfl
    rw [e]
    exact TE.retf rfl rfl rfl (pl_ag (pl_h _))
  · skip
    have h0 : ¬ (l.length = 0) := by have q := of_decide_eq_false h1; (try dsimp only at q); omega
    refine .skip ?_
    refine .next ?_
    refine .seq ?_
    refine .seq ?_
    refine .region ?_
    refine .step rfl (.move rfl rfl) ?_
    refine .step rfl (.len rfl rfl ⟨_, _, rfl⟩ is25) ?_
    refine .step rfl (.bin rfl rfl rfl rfl) ?_
    refine .nil ?_
    refine .next ?_
    refine .cond rfl (fun h2 => ?_) (fun h2 => ?_)
    · skip
      have h1 : l.length = 1 := by have q := of_decide_eq_true h2; (try dsimp only at q); omega
      obtain ⟨x, el⟩ := one_of h1
      subst el
      refine .seq ?_
      refine .region ?_
      refine .step rfl (.move rfl rfl) ?_
      refine .step rfl (.idx (x) rfl rfl rfl rfl et25 it_len (by decide) rfl) ?_
      refine .step rfl (.ldem (ds := x.dv) rfl rfl rfl rfl rfl tk35) ?_
      refine .step rfl (.callf rfl cf19 rfl ⟨trivial, trivial⟩ (rleaf_pf x)) ?_
      refine .step rfl (.store rfl rfl rfl sz24 rfl rfl) ?_
      refine .nil ?_
      refine .next ?_
      refine .ret ?_
      have e : belowH (f + 1) k [x] = tagH 108 [H.l x.ix, H.l x.vl] := rfl
      rw [e]
      exact TE.retf rfl rfl rfl (pl_ag (pl_h _))
    · skip
      have h1 : ¬ (l.length = 1) := by have q := of_decide_eq_false h2; (try dsimp only at q); omega
      have h2 : ¬ l.length < 2 := by omega
      obtain ⟨g, rfl, hk2, hs, ho1, ho2⟩ := okT_two ho h2
      refine .skip ?_
      refine .next ?_
      refine .seq ?_
      have f1 := List.length_filter_le (bit0 k) l
      have f2 := List.length_filter_le (fun x => !bit0 k x) l
      have c1 := ih g rfl (k + 1) (l.filter (bit0 k)) ho1 (by omega) (by omega)
      have c2 := ih g rfl (k + 1) (l.filter (fun x => !bit0 k x)) ho2 (by omega) (by omega)
      refine .region ?_
      refine .step rfl (.move rfl rfl) ?_
      refine .step rfl (.move rfl rfl) ?_
      refine .step rfl (.callc rfl cf47 rfl (sides_pc l k hk2 hl)) ?_
      refine .step rfl (.move rfl rfl) ?_
      refine .step rfl (.extract rfl rfl rfl rfl) ?_
      refine .step rfl (.extract rfl rfl rfl rfl) ?_
      refine .step rfl (.assign rfl rfl) ?_
      refine .step rfl (.assign rfl rfl) ?_
      refine .nil ?_
      refine .next ?_
      refine .seq ?_
      refine .region ?_
      refine .step rfl (.move rfl rfl) ?_
      refine .step rfl (.move rfl rfl) ?_
      refine .step rfl (.binv (.int .i64 ((k + 1 : Nat) : Int)) rfl rfl rfl rfl (congrArg _ (by (try dsimp only); rw [IntKind.wrap_i64]; omega))) ?_
      refine .step rfl (.callf rfl cf38 rfl ⟨trivial, trivial, trivial⟩ (c1)) ?_
      refine .step rfl (.move rfl rfl) ?_
      refine .step rfl (.move rfl rfl) ?_
      refine .step rfl (.binv (.int .i64 ((k + 1 : Nat) : Int)) rfl rfl rfl rfl (congrArg _ (by (try dsimp only); rw [IntKind.wrap_i64]; omega))) ?_
      refine .step rfl (.callf rfl cf38 rfl ⟨trivial, trivial, trivial⟩ (c2)) ?_
      refine .step rfl (.callf rfl cf21 rfl ⟨trivial, trivial, trivial⟩ (rnode_pf _ _)) ?_
      refine .step rfl (.store rfl rfl rfl sz24 rfl rfl) ?_
      refine .nil ?_
      refine .next ?_
      refine .ret ?_
      rw [belowH_two h2]
      exact TE.retf rfl rfl rfl (pl_ag (pl_h _))

theorem rroot_pf : ∀ (f k : Nat) (l : List It), okT f k l → l.length ≤ 1048576 → k ≤ 256 → PF Try.prog 38 [slT It.dv 64 l, .v (.int .i64 ((k : Nat) : Int))] (.ag (hdv (belowH (f + 1) k l)))
  | 0 => rroot_step 0 (fun g e => by omega)
  | f + 1 => rroot_step (f + 1) (fun g e => (show f = g by omega) ▸ rroot_pf f)

end Go.Proofs.Ythbcbfghfhecjaa
