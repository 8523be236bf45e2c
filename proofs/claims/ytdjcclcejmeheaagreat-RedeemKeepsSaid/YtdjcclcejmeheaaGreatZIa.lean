import Derived.Test.YtdjcclcejmeheaaGreatZVm
import Derived.Test.YtdjcclcejmeheaaGreatZQ3
import Derived.Test.YtdjcclcejmeheaaGreatZEv
import Derived.Test.YtdjcclcejmeheaaGreatZQ4
/-
  The reference's sides and root. Entries' hashes: both sides.
-/
namespace Go.Proofs.YtdjcclcejmeheaaGreat
set_option linter.unusedVariables false
set_option linter.unusedSimpArgs false
open Go.RowKit Pl
set_option maxRecDepth 100000
set_option maxHeartbeats 3200000
theorem sides_pc (l : List It) (k : Nat) (hk : k < 256) (hl : l.length ≤ 1048576) : PC Tryz.prog 97 [slT It.dv 64 (l), .v (.int .i64 ((k : Nat) : Int))] (.tp [slT It.dv 64 (l.filter (bit0 k)), slT It.dv 64 (l.filter (fun x => !bit0 k x))]) := by
 refine PC.enter (fn := Tryz.f97) Tryz.func97 rfl Tryz.ntmps97 rfl (fun w0 K0 => .w ?_)
 refine .g 4 1 rfl ?_
 refine TE.own0 6 1 79 64 rfl rfl ?_
 refine TE.own0 7 2 79 64 rfl rfl ?_
 refine .g 1 3 rfl ?_
 refine TE.setv 8 (.int .i64 ((0 : Nat) : Int)) rfl (congrArg _ (by first | rfl | (dsimp only; first | done | rfl | omega))) ?_
 refine .lo (T := Nat) 0 3 rfl (fun i => i ≤ l.length) (fun i => l.length - i) [0, 1] [] (fun i => [(6, .ow 1 ((l.take i).filter (bit0 k)).length 64), (7, .ow 2 ((l.take i).filter (fun x => !bit0 k x)).length 64), (8, .d (.v (.int .i64 ((i : Nat) : Int))))]) (fun i => [(1, .row 79 64 (((l.take i).filter (bit0 k)).flatMap It.dv)), (2, .row 79 64 (((l.take i).filter (fun x => !bit0 k x)).flatMap It.dv))]) (0) rfl rfl (Nat.zero_le _) rfl rfl rfl (fun i hI => ?_)
 refine .q 4 3 rfl rfl (fun h1 => ?_) (fun h1 => ?_)
 ·skip
  have hi : i < l.length := by have q := of_decide_eq_true h1; (try dsimp only at q); omega
  have q1 := filter_take_le (bit0 k) l i
  have q2 := filter_take_le (fun x => !bit0 k x) l i
  refine .t 2 3 rfl rfl (.idx (l[i]) rfl rfl rfl rfl et100 it_len (Int.natCast_nonneg _) (get_nat (hi))) ?_
  refine .t 1 3 rfl rfl (.lm (hdv l[i].ix) rfl) ?_
  refine .t 1 3 rfl rfl (.cf (rbit_pf l[i].ix ((k : Nat) : Int)) rfl) ?_
  refine .t 0 3 rfl rfl (.bv (.bool (bit0 k l[i])) rfl (congrArg Value.bool (bit0_dec hk _))) ?_
  refine .q 0 3 rfl rfl (fun h2 => ?_) (fun h2 => ?_)
  ·skip
   have hb : bit0 k l[i] = true := h2
   have f1 := filter_snoc (bit0 k) hi
   rw [if_pos hb] at f1
   have f2 := filter_snoc (fun x => !bit0 k x) hi
   rw [if_neg (by rw [hb]; simp)] at f2
   refine .t 3 3 rfl rfl (.idx (l[i]) rfl rfl rfl rfl et100 it_len (Int.natCast_nonneg _) (get_nat (hi))) ?_
   refine .t 0 3 rfl rfl (.lm (l[i].dv) rfl) ?_
   refine .t 0 3 rfl rfl (.bb (l[i].dv) 3 rfl) ?_
   refine .t 0 4 rfl rfl (.ap 4 rfl (it_flat _) (it_one _) (by omega) (by omega)) ?_
   refine .t 2 5 rfl rfl (.bv (.int .i64 ((i + 1 : Nat) : Int)) rfl (congrArg _ (by (try dsimp only); rw [IntKind.wrap_i64]; omega))) ?_
   refine .g 1 5 rfl ?_
   refine TE.set 6 (.ow 4 ((l.take (i + 1)).filter (bit0 k)).length 64) rfl (by rw [f1]; simp) ?_
   refine TE.set 7 (.ow 2 ((l.take (i + 1)).filter (fun x => !bit0 k x)).length 64) rfl (by rw [f2]) ?_
   refine TE.obj 4 (.row 79 64 ((((l.take (i + 1)).filter (bit0 k))).flatMap It.dv)) rfl (by rw [f1, List.flatMap_append]; simp) ?_
   refine TE.obj 2 (.row 79 64 ((((l.take (i + 1)).filter (fun x => !bit0 k x))).flatMap It.dv)) rfl (by rw [f2]) ?_
   refine TE.setv 8 (.int .i64 ((i + 1 : Nat) : Int)) rfl (congrArg _ (by first | rfl | (dsimp only; first | done | rfl | omega))) ?_
   exact .rd 0 5 (swp 1 4) (swp_inj 1 4) rfl (i + 1) (by omega) (by omega) rfl rfl rfl
  ·skip
   have hb : bit0 k l[i] = false := h2
   have f1 := filter_snoc (bit0 k) hi
   rw [if_neg (by rw [hb]; simp)] at f1
   have f2 := filter_snoc (fun x => !bit0 k x) hi
   rw [if_pos (by rw [hb]; rfl)] at f2
   refine .t 3 5 rfl rfl (.idx (l[i]) rfl rfl rfl rfl et100 it_len (Int.natCast_nonneg _) (get_nat (hi))) ?_
   refine .t 0 5 rfl rfl (.lm (l[i].dv) rfl) ?_
   refine .t 0 5 rfl rfl (.bb (l[i].dv) 5 rfl) ?_
   refine .t 0 6 rfl rfl (.ap 6 rfl (it_flat _) (it_one _) (by omega) (by omega)) ?_
   refine .t 2 7 rfl rfl (.bv (.int .i64 ((i + 1 : Nat) : Int)) rfl (congrArg _ (by (try dsimp only); rw [IntKind.wrap_i64]; omega))) ?_
   refine .g 1 7 rfl ?_
   refine TE.set 7 (.ow 6 ((l.take (i + 1)).filter (fun x => !bit0 k x)).length 64) rfl (by rw [f2]; simp) ?_
   refine TE.set 6 (.ow 1 ((l.take (i + 1)).filter (bit0 k)).length 64) rfl (by rw [f1]) ?_
   refine TE.obj 6 (.row 79 64 ((((l.take (i + 1)).filter (fun x => !bit0 k x))).flatMap It.dv)) rfl (by rw [f2, List.flatMap_append]; simp) ?_
   refine TE.obj 1 (.row 79 64 ((((l.take (i + 1)).filter (bit0 k))).flatMap It.dv)) rfl (by rw [f1]) ?_
   refine TE.setv 8 (.int .i64 ((i + 1 : Nat) : Int)) rfl (congrArg _ (by first | rfl | (dsimp only; first | done | rfl | omega))) ?_
   exact .rd 0 7 (swp 2 6) (swp_inj 2 6) rfl (i + 1) (by omega) (by omega) rfl rfl rfl
 ·skip
  have hi : ¬ (i < l.length) := by have q := of_decide_eq_false h1; (try dsimp only at q); omega
  have ei : i = l.length := by have : i ≤ l.length := hI; omega
  have e : l.take i = l := by rw [ei, List.take_length]
  refine .g 4 7 rfl ?_
  refine TE.frz 4 (slT It.dv 64 (l.filter (bit0 k))) rfl rfl (it_flat _) (by rw [e]) ?_
  refine TE.frz 5 (slT It.dv 64 (l.filter (fun x => !bit0 k x))) rfl rfl (it_flat _) (by rw [e]) ?_
  exact .z 0 7 rfl (TE.rettc rfl rfl rfl)
theorem rroot_step (f : Nat) (ih : ∀ g, f = g + 1 → ∀ k l, okT g k l → l.length ≤ 1048576 → k ≤ 256 → PF Tryz.prog 99 [slT It.dv 64 l, .v (.int .i64 ((k : Nat) : Int))] (.ag (hdv (belowH (g + 1) k l)))) (k : Nat) (l : List It) (ho : okT f k l) (hl : l.length ≤ 1048576) (hk : k ≤ 256) : PF Tryz.prog 99 [slT It.dv 64 l, .v (.int .i64 ((k : Nat) : Int))] (.ag (hdv (belowH (f + 1) k l))) := by
 refine PF.enter (fn := Tryz.f99) Tryz.func99 rfl Tryz.ntmps99 rfl (fun w0 => .w ?_)
 refine .q 4 1 rfl rfl (fun h1 => ?_) (fun h1 => ?_)
 ·skip
  have h0 : l.length = 0 := by have q := of_decide_eq_true h1; (try dsimp only at q); omega
  have el : l = [] := List.eq_nil_of_length_eq_zero h0
  subst el
  refine .t 0 2 rfl rfl (.cf (rempty_pf) rfl) ?_
  have e : belowH (f + 1) k [] = tagH 122 [] := rfl
  rw [e]
  exact .z 1 2 rfl (TE.retf rfl rfl rfl (pl_ag (pl_h _)))
 ·skip
  have h0 : ¬ (l.length = 0) := by have q := of_decide_eq_false h1; (try dsimp only at q); omega
  refine .q 3 2 rfl rfl (fun h2 => ?_) (fun h2 => ?_)
  ·skip
   have h1 : l.length = 1 := by have q := of_decide_eq_true h2; (try dsimp only at q); omega
   obtain ⟨x, el⟩ := one_of h1
   subst el
   refine .t 1 2 rfl rfl (.idx (x) rfl rfl rfl rfl et100 it_len (by decide) rfl) ?_
   refine .t 0 2 rfl rfl (.lm (x.dv) rfl) ?_
   refine .t 0 2 rfl rfl (.cf (rleaf_pf x) rfl) ?_
   have e : belowH (f + 1) k [x] = tagH 108 [H.l x.ix, H.l x.vl] := rfl
   rw [e]
   exact .z 1 2 rfl (TE.retf rfl rfl rfl (pl_ag (pl_h _)))
  ·skip
   have h1 : ¬ (l.length = 1) := by have q := of_decide_eq_false h2; (try dsimp only at q); omega
   have h2 : ¬ l.length < 2 := by omega
   obtain ⟨g, rfl, hk2, hs, ho1, ho2⟩ := okT_two ho h2
   have f1 := List.length_filter_le (bit0 k) l
   have f2 := List.length_filter_le (fun x => !bit0 k x) l
   have c1 := ih g rfl (k + 1) (l.filter (bit0 k)) ho1 (by omega) (by omega)
   have c2 := ih g rfl (k + 1) (l.filter (fun x => !bit0 k x)) ho2 (by omega) (by omega)
   refine .t 2 2 rfl rfl (.cc (sides_pc l k hk2 hl) rfl) ?_
   refine .t 7 2 rfl rfl (.bv (.int .i64 ((k + 1 : Nat) : Int)) rfl (congrArg _ (by (try dsimp only); rw [IntKind.wrap_i64]; omega))) ?_
   refine .t 0 2 rfl rfl (.cf (c1) rfl) ?_
   refine .t 2 2 rfl rfl (.bv (.int .i64 ((k + 1 : Nat) : Int)) rfl (congrArg _ (by (try dsimp only); rw [IntKind.wrap_i64]; omega))) ?_
   refine .t 0 2 rfl rfl (.cf (c2) rfl) ?_
   refine .t 0 2 rfl rfl (.cf (rnode_pf _ _) rfl) ?_
   rw [belowH_two h2]
   exact .z 1 2 rfl (TE.retf rfl rfl rfl (pl_ag (pl_h _)))
theorem rroot_pf : ∀ (f k : Nat) (l : List It), okT f k l → l.length ≤ 1048576 → k ≤ 256 → PF Tryz.prog 99 [slT It.dv 64 l, .v (.int .i64 ((k : Nat) : Int))] (.ag (hdv (belowH (f + 1) k l)))
  | 0 => rroot_step 0 (fun g e => by omega)
  | f + 1 => rroot_step (f + 1) (fun g e => (show f = g by omega) ▸ rroot_pf f)
theorem index_pf (nm : List UInt8) (hn : nm.length ≤ 1048576) : PF Tryz.prog 31 [.v (.string ⟨⟨nm⟩⟩)] (.ag (hdv (indexH nm))) := by
 refine PF.enter (fn := Tryz.f31) Tryz.func31 rfl Tryz.ntmps31 rfl (fun w0 => .w ?_)
 refine .t 2 1 rfl rfl (.convsb rfl rfl us9 u822 (by omega)) ?_
 refine .t 0 2 rfl rfl (.bb ([slT bdv 1 nm]) 2 rfl) ?_
 refine .t 0 3 rfl rfl (.cf (tag_pf 105 [nm] (by decide) (by decide) (by simp [textLen, totalLen]; omega)) rfl) ?_
 exact .z 1 3 rfl (TE.retf rfl rfl rfl (pl_ag (pl_h _)))
theorem value_pf (ver key : Int) (h0 : 0 ≤ key) (h1 : key < 18446744073709551616) : PF Tryz.prog 32 [.v (.int .i64 ver), .v (.int .u64 key)] (.ag (hdv (valueH ver key))) := by
 refine PF.enter (fn := Tryz.f32) Tryz.func32 rfl Tryz.ntmps32 rfl (fun w0 => .w ?_)
 refine .t 2 1 rfl rfl (.cv (u64w ver) rfl (IntKind.wrap_u64 _)) ?_
 refine .t 0 2 rfl rfl (.cf (num_pf (u64w ver) (u64w_bd ver).1 (u64w_bd ver).2) rfl) ?_
 refine .t 1 2 rfl rfl (.cf (num_pf key h0 h1) rfl) ?_
 refine .t 0 2 rfl rfl (.bb ([slT bdv 1 (numB (u64w ver)), slT bdv 1 (numB key)]) 2 rfl) ?_
 refine .t 0 3 rfl rfl (.cf (tag_pf 118 [numB (u64w ver), numB key] (by decide) (by decide) (by simp [textLen, totalLen, numB_len])) rfl) ?_
 exact .z 1 3 rfl (TE.retf rfl rfl rfl (pl_ag (pl_h _)))
theorem rindex_pf (nm : List UInt8) (hn : nm.length ≤ 1048576) : PF Tryz.prog 39 [.v (.string ⟨⟨nm⟩⟩)] (.ag (hdv (indexH nm))) := by
 refine PF.enter (fn := Tryz.f39) Tryz.func39 rfl Tryz.ntmps39 rfl (fun w0 => .w ?_)
 refine .t 2 1 rfl rfl (.convsb rfl rfl us9 u822 (by omega)) ?_
 refine .t 0 2 rfl rfl (.bb ([slT bdv 1 nm]) 2 rfl) ?_
 refine .t 0 3 rfl rfl (.cf (rtag_pf 105 [nm] (by decide) (by decide) (by simp [textLen, totalLen]; omega)) rfl) ?_
 exact .z 1 3 rfl (TE.retf rfl rfl rfl (pl_ag (pl_h _)))
theorem rvalue_pf (ver key : Int) (h0 : 0 ≤ key) (h1 : key < 18446744073709551616) : PF Tryz.prog 40 [.v (.int .i64 ver), .v (.int .u64 key)] (.ag (hdv (valueH ver key))) := by
 refine PF.enter (fn := Tryz.f40) Tryz.func40 rfl Tryz.ntmps40 rfl (fun w0 => .w ?_)
 refine .t 2 1 rfl rfl (.cv (u64w ver) rfl (IntKind.wrap_u64 _)) ?_
 refine .t 0 2 rfl rfl (.cf (rnum_pf (u64w ver) (u64w_bd ver).1 (u64w_bd ver).2) rfl) ?_
 refine .t 1 2 rfl rfl (.cf (rnum_pf key h0 h1) rfl) ?_
 refine .t 0 2 rfl rfl (.bb ([slT bdv 1 (numB (u64w ver)), slT bdv 1 (numB key)]) 2 rfl) ?_
 refine .t 0 3 rfl rfl (.cf (rtag_pf 118 [numB (u64w ver), numB key] (by decide) (by decide) (by simp [textLen, totalLen, numB_len])) rfl) ?_
 exact .z 1 3 rfl (TE.retf rfl rfl rfl (pl_ag (pl_h _)))
theorem ritem_pf (nm : List UInt8) (ver key : Int) (hn : nm.length ≤ 1048576) (h0 : 0 ≤ key) (h1 : key < 18446744073709551616) : PF Tryz.prog 100 [.ag (entD nm ver key)] (.ag (itemI nm ver key).dv) := by
 refine PF.enter (fn := Tryz.f100) Tryz.func100 rfl Tryz.ntmps100 rfl (fun w0 => .w ?_)
 refine .g 2 1 rfl ?_
 refine TE.frzb 1 rfl rfl rfl rfl ?_
 refine .d 0 3 rfl ?_
 refine .v 2 3 [] rfl rfl (fun _ _ => .cf (rindex_pf nm hn) rfl) ?_
 refine .v 4 3 [] rfl rfl (fun _ _ => .cf (rvalue_pf ver key h0 h1) rfl) ?_
 refine .v 0 3 [] rfl rfl (fun _ _ => .bd ((itemI nm ver key).dv) rfl) ?_
 refine .y 1 3 rfl (by kernel_rfl) ?_
 exact .z 0 3 rfl (TE.retf rfl rfl rfl (pl_ag (pl_it _)))
end Go.Proofs.YtdjcclcejmeheaaGreat
/-
  slices.Insert of one value: a row given away.
-/
namespace Go.Proofs.YtdjcclcejmeheaaGreat
set_option linter.unusedVariables false
set_option linter.unusedSimpArgs false
open Go.RowKit Pl
set_option maxRecDepth 100000
set_option maxHeartbeats 3200000
end Go.Proofs.YtdjcclcejmeheaaGreat

