/-
  TreeHalves.
-/
import Derived.Test.YthbcbfghfhecjaaVq
import Derived.Test.YthbcbfghfhecjaaTk
namespace Go.Proofs.Ythbcbfghfhecjaa
set_option linter.unusedVariables false
set_option linter.unusedSimpArgs false
open Go.RowKit Pl

theorem ar45 : arr Try.prog 45 = some (2, 32) := by kernel_rfl
theorem cf26 : cfn Try.prog 26 = true := by kernel_rfl
theorem cf7 : cfn Try.prog 7 = true := by kernel_rfl
theorem cf8 : cfn Try.prog 8 = true := by kernel_rfl
theorem zc45 : zc Try.prog 45 = some [.int .u8 0, .int .u8 0, .int .u8 0, .int .u8 0, .int .u8 0, .int .u8 0, .int .u8 0, .int .u8 0, .int .u8 0, .int .u8 0, .int .u8 0, .int .u8 0, .int .u8 0, .int .u8 0, .int .u8 0, .int .u8 0, .int .u8 0, .int .u8 0, .int .u8 0, .int .u8 0, .int .u8 0, .int .u8 0, .int .u8 0, .int .u8 0, .int .u8 0, .int .u8 0, .int .u8 0, .int .u8 0, .int .u8 0, .int .u8 0, .int .u8 0, .int .u8 0, .int .u8 0, .int .u8 0, .int .u8 0, .int .u8 0, .int .u8 0, .int .u8 0, .int .u8 0, .int .u8 0, .int .u8 0, .int .u8 0, .int .u8 0, .int .u8 0, .int .u8 0, .int .u8 0, .int .u8 0, .int .u8 0, .int .u8 0, .int .u8 0, .int .u8 0, .int .u8 0, .int .u8 0, .int .u8 0, .int .u8 0, .int .u8 0, .int .u8 0, .int .u8 0, .int .u8 0, .int .u8 0, .int .u8 0, .int .u8 0, .int .u8 0, .int .u8 0] := by kernel_rfl

set_option maxRecDepth 100000 in
set_option maxHeartbeats 1600000 in
theorem lbelow_step (f : Nat) (ih : ∀ g, f = g + 1 → ∀ k l, okT g k l → l.length ≤ 1048576 → k ≤ 256 → PF Try.prog 26 [slT It.dv 64 l, .v (.int .i64 ((k : Nat) : Int))] (.ag (hdv (belowH (g + 1) k l)))) (k : Nat) (l : List It) (ho : okT f k l) (hl : l.length ≤ 1048576) (hk : k ≤ 256) : PF Try.prog 26 [slT It.dv 64 l, .v (.int .i64 ((k : Nat) : Int))] (.ag (hdv (belowH (f + 1) k l))) := by
  refine PF.enter (fn := Try.f26) Try.func26 rfl Try.ntmps26 rfl (fun w0 => ?_)
  refine .seq ?_
  refine .region ?_
  refine .step rfl (.alloc 1 rfl rfl zc24 rfl) ?_
  refine .nil ?_
  refine TE.obj 1 (.box 24 (hdv zeroH)) rfl rfl ?_
  refine .next ?_
  refine .seq ?_
  refine .seq ?_
  refine .region ?_
  refine .step rfl (.move rfl rfl) ?_
  refine .step rfl (.len rfl rfl ⟨_, _, rfl⟩ is25) ?_
  refine .step rfl (.bin rfl rfl rfl rfl) ?_
  refine .nil ?_
  refine .next ?_
  refine .cond rfl (fun h1 => ?_) (fun h1 => ?_)
  · skip
    have h0 : l.length = 0 := by have q := of_decide_eq_true h1; (try dsimp only at q); omega
    have el : l = [] := List.eq_nil_of_length_eq_zero h0
    subst el
    refine .seq ?_
    refine .region ?_
    refine .step rfl (.callf rfl cf22 rfl trivial (empty_pf)) ?_
    refine .step rfl (.store rfl rfl rfl sz24 rfl rfl) ?_
    refine .nil ?_
    refine .next ?_
    refine .ret ?_
    have e : belowH (f + 1) k [] = tagH 122 [] := rfl
    rw [e]
    exact TE.retf rfl rfl rfl (pl_ag (pl_h _))
  · skip
    have h0 : ¬ (l.length = 0) := by have q := of_decide_eq_false h1; (try dsimp only at q); omega
    refine .skip ?_
    refine .next ?_
    refine .seq ?_
    refine .seq ?_
    refine .region ?_
    refine .step rfl (.move rfl rfl) ?_
    refine .step rfl (.len rfl rfl ⟨_, _, rfl⟩ is25) ?_
    refine .step rfl (.bin rfl rfl rfl rfl) ?_
    refine .nil ?_
    refine .next ?_
    refine .cond rfl (fun h2 => ?_) (fun h2 => ?_)
    · skip
      have h1 : l.length = 1 := by have q := of_decide_eq_true h2; (try dsimp only at q); omega
      obtain ⟨x, el⟩ := one_of h1
      subst el
      refine .seq ?_
      refine .region ?_
      refine .step rfl (.move rfl rfl) ?_
      refine .step rfl (.idx (x) rfl rfl rfl rfl et25 it_len (by decide) rfl) ?_
      refine .step rfl (.ldem (ds := x.dv) rfl rfl rfl rfl rfl tk35) ?_
      refine .step rfl (.callf rfl cf18 rfl ⟨trivial, trivial⟩ (leaf_pf x)) ?_
      refine .step rfl (.store rfl rfl rfl sz24 rfl rfl) ?_
      refine .nil ?_
      refine .next ?_
      refine .ret ?_
      have e : belowH (f + 1) k [x] = tagH 108 [H.l x.ix, H.l x.vl] := rfl
      rw [e]
      exact TE.retf rfl rfl rfl (pl_ag (pl_h _))
    · skip
      have h1 : ¬ (l.length = 1) := by have q := of_decide_eq_false h2; (try dsimp only at q); omega
      have h2 : ¬ l.length < 2 := by omega
      obtain ⟨g, rfl, hk2, hs, ho1, ho2⟩ := okT_two ho h2
      have c1 := ih g rfl (k + 1) (l.filter (bit0 k)) ho1 (Nat.le_trans (List.length_filter_le _ _) hl) (by omega)
      have c2 := ih g rfl (k + 1) (l.filter (fun x => !bit0 k x)) ho2 (Nat.le_trans (List.length_filter_le _ _) hl) (by omega)
      refine .skip ?_
      refine .next ?_
      refine .seq ?_
      refine .region ?_
      refine .step rfl (.assign rfl rfl) ?_
      refine .step rfl (.assign rfl rfl) ?_
      refine .nil ?_
      refine TE.own0 5 2 35 64 rfl rfl ?_
      refine TE.own0 6 3 35 64 rfl rfl ?_
      refine .next ?_
      refine .seq ?_
      refine .seq ?_
      refine .region ?_
      refine .step rfl (.assign rfl rfl) ?_
      refine .nil ?_
      refine TE.setv 7 (.int .i64 ((0 : Nat) : Int)) rfl (congrArg _ (by first | rfl | (dsimp only; first | done | rfl | omega))) ?_
      refine .next ?_
      refine .block ?_
      refine TC.loop (S := Nat) (fun i => i ≤ l.length) (fun i => l.length - i) (fun i => [(0, .d (slT It.dv 64 (l))), (1, .d (.v (.int .i64 ((k : Nat) : Int)))), (4, .ptr 1 0), (5, .ow 2 ((l.take i).filter (bit0 k)).length 64), (6, .ow 3 ((l.take i).filter (fun x => !bit0 k x)).length 64), (7, .d (.v (.int .i64 ((i : Nat) : Int))))]) (fun i => [(1, .box 24 (hdv zeroH)), (2, .row 35 64 (((l.take i).filter (bit0 k)).flatMap It.dv)), (3, .row 35 64 (((l.take i).filter (fun x => !bit0 k x)).flatMap It.dv))]) (0) (Nat.zero_le _) ⟨⟨rfl, rfl⟩, ⟨rfl, rfl⟩, ⟨rfl, rfl⟩, ⟨rfl, rfl⟩, ⟨rfl, rfl⟩, ⟨rfl, rfl⟩, trivial⟩ ⟨.inr rfl, .inr rfl, .inr rfl, trivial⟩ (fun i hI => ?_)
      refine .seq ?_
      refine .seq ?_
      refine .region ?_
      refine .step rfl (.move rfl rfl) ?_
      refine .step rfl (.move rfl rfl) ?_
      refine .step rfl (.len rfl rfl ⟨_, _, rfl⟩ is25) ?_
      refine .step rfl (.bin rfl rfl rfl rfl) ?_
      refine .nil ?_
      refine .next ?_
      refine .cond rfl (fun h3 => ?_) (fun h3 => ?_)
      · skip
        have hi : i < l.length := by have q := of_decide_eq_true h3; (try dsimp only at q); omega
        have q1 := filter_take_le (bit0 k) l i
        have q2 := filter_take_le (fun x => !bit0 k x) l i
        refine .skip ?_
        refine .next ?_
        refine .seq ?_
        refine .block ?_
        refine .seq ?_
        refine .region ?_
        refine .step rfl (.move rfl rfl) ?_
        refine .step rfl (.move rfl rfl) ?_
        refine .step rfl (.idx (l[i]) rfl rfl rfl rfl et25 it_len (Int.natCast_nonneg _) (get_nat (hi))) ?_
        refine .step rfl (.fielde rfl rfl rfl fo35_0) ?_
        refine .step rfl (.ldem (ds := hdv l[i].ix) rfl rfl rfl rfl rfl tk24) ?_
        refine .step rfl (.move rfl rfl) ?_
        refine .step rfl (.callf rfl cf24 rfl ⟨trivial, trivial, trivial⟩ (bit_pf l[i].ix ((k : Nat) : Int))) ?_
        refine .step rfl (.binv (.bool (bit0 k l[i])) rfl rfl rfl rfl (congrArg Value.bool (bit0_dec hk2 _))) ?_
        refine .nil ?_
        refine .next ?_
        refine .cond rfl (fun h4 => ?_) (fun h4 => ?_)
        · skip
          have hb : bit0 k l[i] = true := h4
          have f1 := filter_snoc (bit0 k) hi
          rw [if_pos hb] at f1
          have f2 := filter_snoc (fun x => !bit0 k x) hi
          rw [if_neg (by rw [hb]; simp)] at f2
          refine .region ?_
          refine .step rfl (.move rfl rfl) ?_
          refine .step rfl (.move rfl rfl) ?_
          refine .step rfl (.move rfl rfl) ?_
          refine .step rfl (.idx (l[i]) rfl rfl rfl rfl et25 it_len (Int.natCast_nonneg _) (get_nat (hi))) ?_
          refine .step rfl (.ldem (ds := l[i].dv) rfl rfl rfl rfl rfl tk35) ?_
          refine .step rfl (.buildsl (ds := l[i].dv) 4 rfl rfl rfl ap25 zc35 rfl rfl rfl) ?_
          refine .step rfl (.append 5 rfl rfl rfl (it_flat _) rfl ap25 rfl rfl (okA_len rfl rfl) (it_one _) (by omega) (by omega)) ?_
          refine .step rfl (.assign rfl rfl) ?_
          refine .nil ?_
          refine TE.blk ?_
          refine .next ?_
          refine .region ?_
          refine .step rfl (.move rfl rfl) ?_
          refine .step rfl (.binv (.int .i64 ((i + 1 : Nat) : Int)) rfl rfl rfl rfl (congrArg _ (by (try dsimp only); rw [IntKind.wrap_i64]; omega))) ?_
          refine .step rfl (.assign rfl rfl) ?_
          refine .nil ?_
          refine TE.set 5 (.ow 5 ((l.take (i + 1)).filter (bit0 k)).length 64) rfl (by rw [f1]; simp) ?_
          refine TE.set 6 (.ow 3 ((l.take (i + 1)).filter (fun x => !bit0 k x)).length 64) rfl (by rw [f2]) ?_
          refine TE.obj 5 (.row 35 64 ((((l.take (i + 1)).filter (bit0 k))).flatMap It.dv)) rfl (by rw [f1, List.flatMap_append]; simp) ?_
          refine TE.obj 3 (.row 35 64 ((((l.take (i + 1)).filter (fun x => !bit0 k x))).flatMap It.dv)) rfl (by rw [f2]) ?_
          refine TE.setv 7 (.int .i64 ((i + 1 : Nat) : Int)) rfl (congrArg _ (by first | rfl | (dsimp only; first | done | rfl | omega))) ?_
          exact TE.round (swp 2 5) (swp_inj 2 5) (i + 1) (by omega) (by omega) ⟨⟨rfl, rfl⟩, ⟨rfl, rfl⟩, ⟨rfl, rfl⟩, ⟨rfl, rfl⟩, ⟨rfl, rfl⟩, ⟨rfl, rfl⟩, trivial⟩ ⟨.inr rfl, .inr rfl, .inr rfl, trivial⟩
        · skip
          have hb : bit0 k l[i] = false := h4
          have f1 := filter_snoc (bit0 k) hi
          rw [if_neg (by rw [hb]; simp)] at f1
          have f2 := filter_snoc (fun x => !bit0 k x) hi
          rw [if_pos (by rw [hb]; rfl)] at f2
          refine .region ?_
          refine .step rfl (.move rfl rfl) ?_
          refine .step rfl (.move rfl rfl) ?_
          refine .step rfl (.move rfl rfl) ?_
          refine .step rfl (.idx (l[i]) rfl rfl rfl rfl et25 it_len (Int.natCast_nonneg _) (get_nat (hi))) ?_
          refine .step rfl (.ldem (ds := l[i].dv) rfl rfl rfl rfl rfl tk35) ?_
          refine .step rfl (.buildsl (ds := l[i].dv) 6 rfl rfl rfl ap25 zc35 rfl rfl rfl) ?_
          refine .step rfl (.append 7 rfl rfl rfl (it_flat _) rfl ap25 rfl rfl (okA_len rfl rfl) (it_one _) (by omega) (by omega)) ?_
          refine .step rfl (.assign rfl rfl) ?_
          refine .nil ?_
          refine TE.blk ?_
          refine .next ?_
          refine .region ?_
          refine .step rfl (.move rfl rfl) ?_
          refine .step rfl (.binv (.int .i64 ((i + 1 : Nat) : Int)) rfl rfl rfl rfl (congrArg _ (by (try dsimp only); rw [IntKind.wrap_i64]; omega))) ?_
          refine .step rfl (.assign rfl rfl) ?_
          refine .nil ?_
          refine TE.set 6 (.ow 7 ((l.take (i + 1)).filter (fun x => !bit0 k x)).length 64) rfl (by rw [f2]; simp) ?_
          refine TE.set 5 (.ow 2 ((l.take (i + 1)).filter (bit0 k)).length 64) rfl (by rw [f1]) ?_
          refine TE.obj 7 (.row 35 64 ((((l.take (i + 1)).filter (fun x => !bit0 k x))).flatMap It.dv)) rfl (by rw [f2, List.flatMap_append]; simp) ?_
          refine TE.obj 2 (.row 35 64 ((((l.take (i + 1)).filter (bit0 k))).flatMap It.dv)) rfl (by rw [f1]) ?_
          refine TE.setv 7 (.int .i64 ((i + 1 : Nat) : Int)) rfl (congrArg _ (by first | rfl | (dsimp only; first | done | rfl | omega))) ?_
          exact TE.round (swp 3 7) (swp_inj 3 7) (i + 1) (by omega) (by omega) ⟨⟨rfl, rfl⟩, ⟨rfl, rfl⟩, ⟨rfl, rfl⟩, ⟨rfl, rfl⟩, ⟨rfl, rfl⟩, ⟨rfl, rfl⟩, trivial⟩ ⟨.inr rfl, .inr rfl, .inr rfl, trivial⟩
      · skip
        have hi : ¬ (i < l.length) := by have q := of_decide_eq_false h3; (try dsimp only at q); omega
        have ei : i = l.length := by have : i ≤ l.length := hI; omega
        have e : l.take i = l := by rw [ei, List.take_length]
        refine .exit ?_
        refine TE.pass ?_
        refine TE.pass ?_
        refine TE.here ?_
        refine .next ?_
        refine .seq ?_
        refine TC.frz 5 (slT It.dv 64 (l.filter (bit0 k))) rfl rfl (it_flat _) (by rw [e]) ?_
        refine TC.frz 6 (slT It.dv 64 (l.filter (fun x => !bit0 k x))) rfl rfl (it_flat _) (by rw [e]) ?_
        refine .region ?_
        refine .step rfl (.move rfl rfl) ?_
        refine .step rfl (.move rfl rfl) ?_
        refine .step rfl (.binv (.int .i64 ((k + 1 : Nat) : Int)) rfl rfl rfl rfl (congrArg _ (by (try dsimp only); rw [IntKind.wrap_i64]; omega))) ?_
        refine .step rfl (.callf rfl cf26 rfl ⟨trivial, trivial, trivial⟩ (c1)) ?_
        refine .step rfl (.move rfl rfl) ?_
        refine .step rfl (.move rfl rfl) ?_
        refine .step rfl (.binv (.int .i64 ((k + 1 : Nat) : Int)) rfl rfl rfl rfl (congrArg _ (by (try dsimp only); rw [IntKind.wrap_i64]; omega))) ?_
        refine .step rfl (.callf rfl cf26 rfl ⟨trivial, trivial, trivial⟩ (c2)) ?_
        refine .step rfl (.callf rfl cf20 rfl ⟨trivial, trivial, trivial⟩ (node_pf _ _)) ?_
        refine .step rfl (.store rfl rfl rfl sz24 rfl rfl) ?_
        refine .nil ?_
        refine .next ?_
        refine .ret ?_
        rw [belowH_two h2]
        exact TE.retf rfl rfl rfl (pl_ag (pl_h _))

theorem lbelow_pf : ∀ (f k : Nat) (l : List It), okT f k l → l.length ≤ 1048576 → k ≤ 256 → PF Try.prog 26 [slT It.dv 64 l, .v (.int .i64 ((k : Nat) : Int))] (.ag (hdv (belowH (f + 1) k l)))
  | 0 => lbelow_step 0 (fun g e => by omega)
  | f + 1 => lbelow_step (f + 1) (fun g e => (show f = g by omega) ▸ lbelow_pf f)

set_option maxRecDepth 100000 in
set_option maxHeartbeats 1600000 in
theorem treeHalves_pf (l : List UInt16) : PF Try.prog 5 [slT wdv 1 l] (.v (.bool true)) := by
  obtain ⟨X, hX⟩ : ∃ X, X = setR (l.map seatI) [] := ⟨_, rfl⟩
  have hs : Str X := by rw [hX]; exact setR_str _ _
  have hXl : X.length ≤ l.length := by rw [hX]; have := setR_len (l.map seatI) []; simpa using this
  have c1 : l.length ≤ 30 → PF Try.prog 11 [slT It.dv 64 (l.map seatI), slT It.dv 64 ([])] (slT It.dv 64 (X)) := fun h => by rw [hX]; exact (rset_po (l.map seatI) [] (by simp; omega)).pf
  refine PF.enter (fn := Try.f5) Try.func5 rfl Try.ntmps5 rfl (fun w0 => ?_)
  refine .seq ?_
  refine .region ?_
  refine .step rfl (.assign rfl rfl) ?_
  refine .nil ?_
  refine .next ?_
  refine .seq ?_
  refine .seq ?_
  refine .region ?_
  refine .step rfl (.callf rfl cf7 rfl trivial (known_pf)) ?_
  refine .step rfl (.un rfl rfl rfl) ?_
  refine .nil ?_
  refine .next ?_
  refine .cond rfl (fun h1 => absurd h1 (by decide)) (fun h1 => ?_)
  refine .skip ?_
  refine .next ?_
  refine .seq ?_
  refine .seq ?_
  refine .region ?_
  refine .step rfl (.move rfl rfl) ?_
  refine .step rfl (.len rfl rfl ⟨_, _, rfl⟩ is26) ?_
  refine .step rfl (.bin rfl rfl rfl rfl) ?_
  refine .nil ?_
  refine .next ?_
  refine .cond rfl (fun h2 => ?_) (fun h2 => ?_)
  · skip
    skip
    refine .seq ?_
    refine .region ?_
    refine .step rfl (.assign rfl rfl) ?_
    refine .nil ?_
    refine .next ?_
    refine .ret ?_
    exact TE.retf rfl rfl rfl trivial
  · skip
    have hl : ¬ (30 < l.length) := by have q := of_decide_eq_false h2; (try dsimp only at q); omega
    have hl30 : l.length ≤ 30 := by omega
    refine .skip ?_
    refine .next ?_
    refine .seq ?_
    refine .region ?_
    refine .step rfl (.move rfl rfl) ?_
    refine .step rfl (.callo 1 rfl rfl cf8 rfl ⟨trivial, trivial⟩ (items_po l (by omega))) ?_
    refine .step rfl (.callf rfl cf11 rfl ⟨okA_len rfl (it_flat _), trivial, trivial⟩ (.nil2 (c1 hl30))) ?_
    refine .step rfl (.assign rfl rfl) ?_
    refine .nil ?_
    refine .next ?_
    refine .seq ?_
    refine .seq ?_
    refine .region ?_
    refine .step rfl (.move rfl rfl) ?_
    refine .step rfl (.len rfl rfl ⟨_, _, rfl⟩ is25) ?_
    refine .step rfl (.bin rfl rfl rfl rfl) ?_
    refine .nil ?_
    refine .next ?_
    refine .cond rfl (fun h3 => ?_) (fun h3 => ?_)
    · skip
      skip
      refine .seq ?_
      refine .region ?_
      refine .step rfl (.callf rfl cf12 rfl ⟨trivial, trivial⟩ (.nil1 (root_pf [] (by decide)))) ?_
      refine .step rfl (.callf rfl cf22 rfl trivial (empty_pf)) ?_
      refine .step rfl (.eqht (a := rootH []) (b := tagH 122 []) (root_nil) rfl rfl rfl qh24) ?_
      refine .step rfl (.assign rfl rfl) ?_
      refine .nil ?_
      refine .next ?_
      refine .ret ?_
      exact TE.retf rfl rfl rfl trivial
    · skip
      have h2 : ¬ (X.length < 2) := by have q := of_decide_eq_false h3; (try dsimp only at q); omega
      refine .skip ?_
      refine .next ?_
      refine .seq ?_
      refine .region ?_
      refine .step rfl (.alloc 2 rfl rfl zc45 rfl) ?_
      refine .nil ?_
      refine TE.obj 2 (.box 45 (It.mk (hvs X 0 0) (hvs X 0 1)).dv) rfl rfl ?_
      refine .next ?_
      refine .seq ?_
      refine .seq ?_
      refine .region ?_
      refine .step rfl (.assign rfl rfl) ?_
      refine .nil ?_
      refine TE.setv 5 (.int .i64 ((0 : Nat) : Int)) rfl (congrArg _ (by first | rfl | (dsimp only; first | done | rfl | omega))) ?_
      refine .next ?_
      refine .block ?_
      refine TC.loop (S := Nat) (fun s => s ≤ 2) (fun s => 2 - s) (fun s => [(0, .d (slT wdv 1 l)), (3, .f (slT It.dv 64 (X))), (4, .ptr 2 0), (5, .d (.v (.int .i64 ((s : Nat) : Int))))]) (fun s => [(1, .dead), (2, .box 45 (It.mk (hvs X s 0) (hvs X s 1)).dv)]) (0) (Nat.zero_le _) ⟨⟨rfl, rfl⟩, ⟨rfl, rfl⟩, ⟨rfl, rfl⟩, ⟨rfl, rfl⟩, trivial⟩ ⟨.inl rfl, .inr rfl, trivial⟩ (fun s hI => ?_)
      refine .seq ?_
      refine .seq ?_
      refine .region ?_
      refine .step rfl (.move rfl rfl) ?_
      refine .step rfl (.bin rfl rfl rfl rfl) ?_
      refine .nil ?_
      refine .next ?_
      refine .cond rfl (fun h4 => ?_) (fun h4 => ?_)
      · skip
        have hs2 : s < 2 := by have q := of_decide_eq_true h4; (try dsimp only at q); omega
        refine .skip ?_
        refine .next ?_
        refine .seq ?_
        refine .block ?_
        refine .seq ?_
        refine .region ?_
        refine .step rfl (.assign rfl rfl) ?_
        refine .nil ?_
        refine TE.own0 6 3 35 64 rfl rfl ?_
        refine .next ?_
        refine .seq ?_
        refine .seq ?_
        refine .region ?_
        refine .step rfl (.assign rfl rfl) ?_
        refine .nil ?_
        refine TE.setv 7 (.int .i64 ((0 : Nat) : Int)) rfl (congrArg _ (by first | rfl | (dsimp only; first | done | rfl | omega))) ?_
        refine .next ?_
        refine .block ?_
        refine TC.loop (S := Nat) (fun i => i ≤ X.length) (fun i => X.length - i) (fun i => [(0, .d (slT wdv 1 l)), (3, .f (slT It.dv 64 (X))), (4, .ptr 2 0), (5, .d (.v (.int .i64 ((s : Nat) : Int)))), (6, .ow 3 ((X.take i).filter (selB s)).length 64), (7, .d (.v (.int .i64 ((i : Nat) : Int))))]) (fun i => [(1, .dead), (2, .box 45 (It.mk (hvs X s 0) (hvs X s 1)).dv), (3, .row 35 64 ((((X.take i).filter (selB s))).flatMap It.dv))]) (0) (Nat.zero_le _) ⟨⟨rfl, rfl⟩, ⟨rfl, rfl⟩, ⟨rfl, rfl⟩, ⟨rfl, rfl⟩, ⟨rfl, rfl⟩, ⟨rfl, rfl⟩, trivial⟩ ⟨.inl rfl, .inr rfl, .inr rfl, trivial⟩ (fun i hI => ?_)
        refine .seq ?_
        refine .seq ?_
        refine .region ?_
        refine .step rfl (.move rfl rfl) ?_
        refine .step rfl (.move rfl rfl) ?_
        refine .step rfl (.len rfl rfl ⟨_, _, rfl⟩ is25) ?_
        refine .step rfl (.bin rfl rfl rfl rfl) ?_
        refine .nil ?_
        refine .next ?_
        refine .cond rfl (fun h5 => ?_) (fun h5 => ?_)
        · skip
          have hi : i < X.length := by have q := of_decide_eq_true h5; (try dsimp only at q); omega
          have q1 := filter_take_le (selB s) X i
          refine .skip ?_
          refine .next ?_
          refine .seq ?_
          refine .block ?_
          refine .seq ?_
          refine .region ?_
          refine .step rfl (.move rfl rfl) ?_
          refine .step rfl (.move rfl rfl) ?_
          refine .step rfl (.idx (X[i]) rfl rfl rfl rfl et25 it_len (Int.natCast_nonneg _) (get_nat (hi))) ?_
          refine .step rfl (.fielde rfl rfl rfl fo35_0) ?_
          refine .step rfl (.ldem (ds := hdv X[i].ix) rfl rfl rfl rfl rfl tk24) ?_
          refine .step rfl (.callf rfl cf24 rfl ⟨trivial, trivial, trivial⟩ (bit_pf X[i].ix 0)) ?_
          refine .step rfl (.move rfl rfl) ?_
          refine .step rfl (.binv (.bool (selB s X[i])) rfl rfl rfl rfl (congrArg Value.bool (selB_dec s _))) ?_
          refine .nil ?_
          refine .next ?_
          refine .cond rfl (fun h6 => ?_) (fun h6 => ?_)
          · skip
            have hb : selB s X[i] = true := h6
            have f1 := filter_snoc (selB s) hi
            rw [if_pos hb] at f1
            refine .region ?_
            refine .step rfl (.move rfl rfl) ?_
            refine .step rfl (.move rfl rfl) ?_
            refine .step rfl (.move rfl rfl) ?_
            refine .step rfl (.idx (X[i]) rfl rfl rfl rfl et25 it_len (Int.natCast_nonneg _) (get_nat (hi))) ?_
            refine .step rfl (.ldem (ds := X[i].dv) rfl rfl rfl rfl rfl tk35) ?_
            refine .step rfl (.buildsl (ds := X[i].dv) 4 rfl rfl rfl ap25 zc35 rfl rfl rfl) ?_
            refine .step rfl (.append 5 rfl rfl rfl (it_flat _) rfl ap25 rfl rfl (okA_len rfl rfl) (it_one _) (by omega) (by omega)) ?_
            refine .step rfl (.assign rfl rfl) ?_
            refine .nil ?_
            refine TE.blk ?_
            refine .next ?_
            refine .region ?_
            refine .step rfl (.move rfl rfl) ?_
            refine .step rfl (.binv (.int .i64 ((i + 1 : Nat) : Int)) rfl rfl rfl rfl (congrArg _ (by (try dsimp only); rw [IntKind.wrap_i64]; omega))) ?_
            refine .step rfl (.assign rfl rfl) ?_
            refine .nil ?_
            refine TE.set 6 (.ow 5 ((X.take (i + 1)).filter (selB s)).length 64) rfl (by rw [f1]; simp) ?_
            refine TE.obj 5 (.row 35 64 ((((X.take (i + 1)).filter (selB s))).flatMap It.dv)) rfl (by rw [f1]; simp [List.flatMap_append]) ?_
            refine TE.setv 7 (.int .i64 ((i + 1 : Nat) : Int)) rfl (congrArg _ (by first | rfl | (dsimp only; first | done | rfl | omega))) ?_
            exact TE.round (swp 3 5) (swp_inj 3 5) (i + 1) (by omega) (by omega) ⟨⟨rfl, rfl⟩, ⟨rfl, rfl⟩, ⟨rfl, rfl⟩, ⟨rfl, rfl⟩, ⟨rfl, rfl⟩, ⟨rfl, rfl⟩, trivial⟩ ⟨.inl rfl, .inr rfl, .inr rfl, trivial⟩
          · skip
            have hb : selB s X[i] = false := h6
            have f1 := filter_snoc (selB s) hi
            rw [if_neg (by rw [hb]; simp)] at f1
            refine .skip ?_
            refine TE.blk ?_
            refine .next ?_
            refine .region ?_
            refine .step rfl (.move rfl rfl) ?_
            refine .step rfl (.binv (.int .i64 ((i + 1 : Nat) : Int)) rfl rfl rfl rfl (congrArg _ (by (try dsimp only); rw [IntKind.wrap_i64]; omega))) ?_
            refine .step rfl (.assign rfl rfl) ?_
            refine .nil ?_
            refine TE.set 6 (.ow 3 ((X.take (i + 1)).filter (selB s)).length 64) rfl (by rw [f1]) ?_
            refine TE.obj 3 (.row 35 64 ((((X.take (i + 1)).filter (selB s))).flatMap It.dv)) rfl (by rw [f1]) ?_
            refine TE.setv 7 (.int .i64 ((i + 1 : Nat) : Int)) rfl (congrArg _ (by first | rfl | (dsimp only; first | done | rfl | omega))) ?_
            exact TE.round id (fun _ _ e => e) (i + 1) (by omega) (by omega) ⟨⟨rfl, rfl⟩, ⟨rfl, rfl⟩, ⟨rfl, rfl⟩, ⟨rfl, rfl⟩, ⟨rfl, rfl⟩, ⟨rfl, rfl⟩, trivial⟩ ⟨.inl rfl, .inr rfl, .inr rfl, trivial⟩
        · skip
          have hi : ¬ (i < X.length) := by have q := of_decide_eq_false h5; (try dsimp only at q); omega
          have e : X.take i = X := by rw [show i = X.length by have : i ≤ X.length := hI; omega, List.take_length]
          refine .exit ?_
          refine TE.pass ?_
          refine TE.pass ?_
          refine TE.here ?_
          refine .next ?_
          refine TC.frz 6 (slT It.dv 64 (X.filter (selB s))) rfl rfl (it_flat _) (by rw [e]) ?_
          refine .region ?_
          refine .step rfl (.move rfl rfl) ?_
          refine .step rfl (.move rfl rfl) ?_
          refine .step rfl (.callf rfl cf26 rfl ⟨trivial, trivial, trivial⟩ (lbelow_pf 255 1 (X.filter (selB s)) (okT_half hs h2 hs2) (by have := List.length_filter_le (selB s) X; omega) (by decide))) ?_
          refine .step rfl (.idxp rfl rfl rfl rfl rfl ar45 (Int.natCast_nonneg _) (by omega)) ?_
          refine .step rfl (.storeg rfl rfl rfl rfl sz24 rfl (by rw [Nat.zero_add, Int.toNat_natCast]; show s * 32 + 32 ≤ 64; omega)) ?_
          refine .nil ?_
          refine TE.obj 2 (.box 45 (It.mk (hvs X (s + 1) 0) (hvs X (s + 1) 1)).dv) rfl (by rw [Nat.zero_add, Int.toNat_natCast]; exact congrArg (AO.box _) (pair_set X hs2)) ?_
          refine TE.blk ?_
          refine .next ?_
          refine .region ?_
          refine .step rfl (.move rfl rfl) ?_
          refine .step rfl (.binv (.int .i64 ((s + 1 : Nat) : Int)) rfl rfl rfl rfl (congrArg _ (by (try dsimp only); rw [IntKind.wrap_i64]; omega))) ?_
          refine .step rfl (.assign rfl rfl) ?_
          refine .nil ?_
          refine TE.setv 5 (.int .i64 ((s + 1 : Nat) : Int)) rfl (congrArg _ (by first | rfl | (dsimp only; first | done | rfl | omega))) ?_
          exact TE.round id (fun _ _ e => e) (s + 1) (by omega) (by omega) ⟨⟨rfl, rfl⟩, ⟨rfl, rfl⟩, ⟨rfl, rfl⟩, ⟨rfl, rfl⟩, trivial⟩ ⟨.inl rfl, .inr rfl, trivial⟩
      · skip
        have hs2 : ¬ (s < 2) := by have q := of_decide_eq_false h4; (try dsimp only at q); omega
        have es : s = 2 := by have : s ≤ 2 := hI; omega
        subst es
        refine .exit ?_
        refine TE.pass ?_
        refine TE.pass ?_
        refine TE.here ?_
        refine .next ?_
        refine .seq ?_
        refine .draw mixed [Ro.mk _ (Eff.mk (some (51, _)) []) [], Ro.mk _ (Eff.mk (some (52, _)) []) [], Ro.mk _ (Eff.mk (some (53, _)) []) [2], Ro.mk _ (Eff.mk (some (54, _)) []) [2], Ro.mk _ (Eff.mk (some (55, _)) []) [2], Ro.mk _ (Eff.mk (some (56, _)) []) [2], Ro.mk _ (Eff.mk (some (57, _)) []) [], Ro.mk _ (Eff.mk (some (58, _)) []) [], Ro.mk _ (Eff.mk (some (2, _)) []) []] rfl ⟨(fun _ _ => .move rfl rfl), (fun _ _ => .callf rfl cf12 rfl ⟨trivial, trivial⟩ (root_pf X (by omega))), (fun _ _ => .idxp rfl rfl rfl rfl rfl ar45 (by decide) (by decide)), (fun _ _ => .ldpm rfl rfl rfl rfl (show _ = hdv (hvs X 2 0) from rfl) (h_len _) tk24), (fun _ _ => .idxp rfl rfl rfl rfl rfl ar45 (by decide) (by decide)), (fun _ _ => .ldpm rfl rfl rfl rfl (show _ = hdv (hvs X 2 1) from rfl) (h_len _) tk24), (fun _ _ => .callf rfl cf20 rfl ⟨trivial, trivial, trivial⟩ (node_pf _ _)), (fun _ _ => .eqht (a := rootH X) (b := tagH 110 [H.l (hvs X 2 0), H.l (hvs X 2 1)]) (root_two hs h2) rfl rfl rfl qh24), (fun _ _ => .assign rfl rfl), trivial⟩ (by kernel_rfl) ?_
        refine .next ?_
        refine .ret ?_
        exact TE.retf rfl rfl rfl trivial

end Go.Proofs.Ythbcbfghfhecjaa
