/-
  The reference's sides and root. Entries' hashes: both sides.
-/
import Derived.Test.YtejhgijjegnmnaaZVm
import Derived.Test.YtejhgijjegnmnaaZQ3
namespace Go.Proofs.Ytejhgijjegnmnaa
set_option linter.unusedVariables false
set_option linter.unusedSimpArgs false
open Go.RowKit Pl
theorem cf31 : cfn Try.prog 31 = true := by kernel_rfl
theorem cf32 : cfn Try.prog 32 = true := by kernel_rfl
theorem cf38 : cfn Try.prog 38 = true := by kernel_rfl
theorem cf39 : cfn Try.prog 39 = true := by kernel_rfl
theorem cf40 : cfn Try.prog 40 = true := by kernel_rfl
theorem cf74 : cfn Try.prog 74 = true := by kernel_rfl
set_option maxRecDepth 100000 in
set_option maxHeartbeats 1600000 in
theorem sides_pc (l : List It) (k : Nat) (hk : k < 256) (hl : l.length ≤ 1048576) : PC Try.prog 38 [slT It.dv 64 (l), .v (.int .i64 ((k : Nat) : Int))] (.tp [slT It.dv 64 (l.filter (bit0 k)), slT It.dv 64 (l.filter (fun x => !bit0 k x))]) := by
  refine PC.enter (fn := Try.f38) Try.func38 rfl Try.ntmps38 rfl (fun w0 K0 => ?_)
  refine .seq ?_
  refine .region ?_
  refine .step rfl (.assign rfl rfl) ?_
  refine .step rfl (.assign rfl rfl) ?_
  refine .nil ?_
  refine .next ?_
  refine .seq ?_
  refine .region ?_
  refine .step rfl (.assign rfl rfl) ?_
  refine .step rfl (.assign rfl rfl) ?_
  refine .nil ?_
  refine TE.own0 6 1 28 64 rfl rfl ?_
  refine TE.own0 7 2 28 64 rfl rfl ?_
  refine .next ?_
  refine .seq ?_
  refine .seq ?_
  refine .region ?_
  refine .step rfl (.assign rfl rfl) ?_
  refine .nil ?_
  refine TE.setv 8 (.int .i64 ((0 : Nat) : Int)) rfl (congrArg _ (by first | rfl | (dsimp only; first | done | rfl | omega))) ?_
  refine .next ?_
  refine .block ?_
  refine TC.loop (S := Nat) (fun i => i ≤ l.length) (fun i => l.length - i) (fun i => [(0, .d (slT It.dv 64 (l))), (1, .d (.v (.int .i64 ((k : Nat) : Int)))), (6, .ow 1 ((l.take i).filter (bit0 k)).length 64), (7, .ow 2 ((l.take i).filter (fun x => !bit0 k x)).length 64), (8, .d (.v (.int .i64 ((i : Nat) : Int))))]) (fun i => [(1, .row 28 64 (((l.take i).filter (bit0 k)).flatMap It.dv)), (2, .row 28 64 (((l.take i).filter (fun x => !bit0 k x)).flatMap It.dv))]) (0) (Nat.zero_le _) ⟨⟨rfl, rfl⟩, ⟨rfl, rfl⟩, ⟨rfl, rfl⟩, ⟨rfl, rfl⟩, ⟨rfl, rfl⟩, trivial⟩ ⟨.inr rfl, .inr rfl, trivial⟩ (fun i hI => ?_)
  refine .seq ?_
  refine .seq ?_
  refine .region ?_
  refine .step rfl (.move rfl rfl) ?_
  refine .step rfl (.move rfl rfl) ?_
  refine .step rfl (.len rfl rfl ⟨_, _, rfl⟩ is32) ?_
  refine .step rfl (.bin rfl rfl rfl rfl) ?_
  refine .nil ?_
  refine .next ?_
  refine .cond rfl (fun h1 => ?_) (fun h1 => ?_)
  · skip
    have hi : i < l.length := by have q := of_decide_eq_true h1; (try dsimp only at q); omega
    have q1 := filter_take_le (bit0 k) l i
    have q2 := filter_take_le (fun x => !bit0 k x) l i
    refine .skip ?_
    refine .next ?_
    refine .seq ?_
    refine .block ?_
    refine .seq ?_
    refine .region ?_
    refine .step rfl (.move rfl rfl) ?_
    refine .step rfl (.move rfl rfl) ?_
    refine .step rfl (.idx (l[i]) rfl rfl rfl rfl et32 it_len (Int.natCast_nonneg _) (get_nat (hi))) ?_
    refine .step rfl (.fielde rfl rfl rfl fo28_0) ?_
    refine .step rfl (.ldem (ds := hdv l[i].ix) rfl rfl rfl rfl rfl tk25) ?_
    refine .step rfl (.move rfl rfl) ?_
    refine .step rfl (.callf rfl cf39 rfl ⟨trivial, trivial, trivial⟩ (rbit_pf l[i].ix ((k : Nat) : Int))) ?_
    refine .step rfl (.binv (.bool (bit0 k l[i])) rfl rfl rfl rfl (congrArg Value.bool (bit0_dec hk _))) ?_
    refine .nil ?_
    refine .next ?_
    refine .cond rfl (fun h2 => ?_) (fun h2 => ?_)
    · skip
      have hb : bit0 k l[i] = true := h2
      have f1 := filter_snoc (bit0 k) hi
      rw [if_pos hb] at f1
      have f2 := filter_snoc (fun x => !bit0 k x) hi
      rw [if_neg (by rw [hb]; simp)] at f2
      refine .region ?_
      refine .step rfl (.move rfl rfl) ?_
      refine .step rfl (.move rfl rfl) ?_
      refine .step rfl (.move rfl rfl) ?_
      refine .step rfl (.idx (l[i]) rfl rfl rfl rfl et32 it_len (Int.natCast_nonneg _) (get_nat (hi))) ?_
      refine .step rfl (.ldem (ds := l[i].dv) rfl rfl rfl rfl rfl tk28) ?_
      refine .step rfl (.buildsl (ds := l[i].dv) 3 rfl rfl rfl ap32 zc28 rfl rfl rfl) ?_
      refine .step rfl (.append 4 rfl rfl rfl (it_flat _) rfl ap32 rfl rfl (okA_len rfl rfl) (it_one _) (by omega) (by omega)) ?_
      refine .step rfl (.assign rfl rfl) ?_
      refine .nil ?_
      refine TE.blk ?_
      refine .next ?_
      refine .region ?_
      refine .step rfl (.move rfl rfl) ?_
      refine .step rfl (.binv (.int .i64 ((i + 1 : Nat) : Int)) rfl rfl rfl rfl (congrArg _ (by (try dsimp only); rw [IntKind.wrap_i64]; omega))) ?_
      refine .step rfl (.assign rfl rfl) ?_
      refine .nil ?_
      refine TE.set 6 (.ow 4 ((l.take (i + 1)).filter (bit0 k)).length 64) rfl (by rw [f1]; simp) ?_
      refine TE.set 7 (.ow 2 ((l.take (i + 1)).filter (fun x => !bit0 k x)).length 64) rfl (by rw [f2]) ?_
      refine TE.obj 4 (.row 28 64 ((((l.take (i + 1)).filter (bit0 k))).flatMap It.dv)) rfl (by rw [f1, List.flatMap_append]; simp) ?_
      refine TE.obj 2 (.row 28 64 ((((l.take (i + 1)).filter (fun x => !bit0 k x))).flatMap It.dv)) rfl (by rw [f2]) ?_
      refine TE.setv 8 (.int .i64 ((i + 1 : Nat) : Int)) rfl (congrArg _ (by first | rfl | (dsimp only; first | done | rfl | omega))) ?_
      exact TE.round (swp 1 4) (swp_inj 1 4) (i + 1) (by omega) (by omega) ⟨⟨rfl, rfl⟩, ⟨rfl, rfl⟩, ⟨rfl, rfl⟩, ⟨rfl, rfl⟩, ⟨rfl, rfl⟩, trivial⟩ ⟨.inr rfl, .inr rfl, trivial⟩
    · skip
      have hb : bit0 k l[i] = false := h2
      have f1 := filter_snoc (bit0 k) hi
      rw [if_neg (by rw [hb]; simp)] at f1
      have f2 := filter_snoc (fun x => !bit0 k x) hi
      rw [if_pos (by rw [hb]; rfl)] at f2
      refine .region ?_
      refine .step rfl (.move rfl rfl) ?_
      refine .step rfl (.move rfl rfl) ?_
      refine .step rfl (.move rfl rfl) ?_
      refine .step rfl (.idx (l[i]) rfl rfl rfl rfl et32 it_len (Int.natCast_nonneg _) (get_nat (hi))) ?_
      refine .step rfl (.ldem (ds := l[i].dv) rfl rfl rfl rfl rfl tk28) ?_
      refine .step rfl (.buildsl (ds := l[i].dv) 5 rfl rfl rfl ap32 zc28 rfl rfl rfl) ?_
      refine .step rfl (.append 6 rfl rfl rfl (it_flat _) rfl ap32 rfl rfl (okA_len rfl rfl) (it_one _) (by omega) (by omega)) ?_
      refine .step rfl (.assign rfl rfl) ?_
      refine .nil ?_
      refine TE.blk ?_
      refine .next ?_
      refine .region ?_
      refine .step rfl (.move rfl rfl) ?_
      refine .step rfl (.binv (.int .i64 ((i + 1 : Nat) : Int)) rfl rfl rfl rfl (congrArg _ (by (try dsimp only); rw [IntKind.wrap_i64]; omega))) ?_
      refine .step rfl (.assign rfl rfl) ?_
      refine .nil ?_
      refine TE.set 7 (.ow 6 ((l.take (i + 1)).filter (fun x => !bit0 k x)).length 64) rfl (by rw [f2]; simp) ?_
      refine TE.set 6 (.ow 1 ((l.take (i + 1)).filter (bit0 k)).length 64) rfl (by rw [f1]) ?_
      refine TE.obj 6 (.row 28 64 ((((l.take (i + 1)).filter (fun x => !bit0 k x))).flatMap It.dv)) rfl (by rw [f2, List.flatMap_append]; simp) ?_
      refine TE.obj 1 (.row 28 64 ((((l.take (i + 1)).filter (bit0 k))).flatMap It.dv)) rfl (by rw [f1]) ?_
      refine TE.setv 8 (.int .i64 ((i + 1 : Nat) : Int)) rfl (congrArg _ (by first | rfl | (dsimp only; first | done | rfl | omega))) ?_
      exact TE.round (swp 2 6) (swp_inj 2 6) (i + 1) (by omega) (by omega) ⟨⟨rfl, rfl⟩, ⟨rfl, rfl⟩, ⟨rfl, rfl⟩, ⟨rfl, rfl⟩, ⟨rfl, rfl⟩, trivial⟩ ⟨.inr rfl, .inr rfl, trivial⟩
  · skip
    have hi : ¬ (i < l.length) := by have q := of_decide_eq_false h1; (try dsimp only at q); omega
    have ei : i = l.length := by have : i ≤ l.length := hI; omega
    have e : l.take i = l := by rw [ei, List.take_length]
    refine .exit ?_
    refine TE.pass ?_
    refine TE.pass ?_
    refine TE.here ?_
    refine .next ?_
    refine .seq ?_
    refine .region ?_
    refine .step rfl (.move rfl rfl) ?_
    refine .step rfl (.move rfl rfl) ?_
    refine .step rfl (.assign rfl rfl) ?_
    refine .step rfl (.assign rfl rfl) ?_
    refine .nil ?_
    refine TE.frz 4 (slT It.dv 64 (l.filter (bit0 k))) rfl rfl (it_flat _) (by rw [e]) ?_
    refine TE.frz 5 (slT It.dv 64 (l.filter (fun x => !bit0 k x))) rfl rfl (it_flat _) (by rw [e]) ?_
    refine .next ?_
    refine .ret ?_
    exact TE.rettc rfl rfl rfl
set_option maxRecDepth 100000 in
set_option maxHeartbeats 1600000 in
theorem rroot_step (f : Nat) (ih : ∀ g, f = g + 1 → ∀ k l, okT g k l → l.length ≤ 1048576 → k ≤ 256 → PF Try.prog 40 [slT It.dv 64 l, .v (.int .i64 ((k : Nat) : Int))] (.ag (hdv (belowH (g + 1) k l)))) (k : Nat) (l : List It) (ho : okT f k l) (hl : l.length ≤ 1048576) (hk : k ≤ 256) : PF Try.prog 40 [slT It.dv 64 l, .v (.int .i64 ((k : Nat) : Int))] (.ag (hdv (belowH (f + 1) k l))) := by
  refine PF.enter (fn := Try.f40) Try.func40 rfl Try.ntmps40 rfl (fun w0 => ?_)
  refine .seq ?_
  refine .region ?_
  refine .step rfl (.alloc 1 rfl rfl zc25 rfl) ?_
  refine .nil ?_
  refine .next ?_
  refine .seq ?_
  refine .seq ?_
  refine .region ?_
  refine .step rfl (.move rfl rfl) ?_
  refine .step rfl (.len rfl rfl ⟨_, _, rfl⟩ is32) ?_
  refine .step rfl (.bin rfl rfl rfl rfl) ?_
  refine .nil ?_
  refine .next ?_
  refine .cond rfl (fun h1 => ?_) (fun h1 => ?_)
  · skip
    have h0 : l.length = 0 := by have q := of_decide_eq_true h1; (try dsimp only at q); omega
    have el : l = [] := List.eq_nil_of_length_eq_zero h0
    subst el
    refine .seq ?_
    refine .region ?_
    refine .step rfl (.callf rfl cf32 rfl trivial (rempty_pf)) ?_
    refine .step rfl (.store rfl rfl rfl sz25 rfl rfl) ?_
    refine .nil ?_
    refine .next ?_
    refine .ret ?_
    have e : belowH (f + 1) k [] = tagH 122 [] := rfl
    rw [e]
    exact TE.retf rfl rfl rfl (pl_ag (pl_h _))
  · skip
    have h0 : ¬ (l.length = 0) := by have q := of_decide_eq_false h1; (try dsimp only at q); omega
    refine .skip ?_
    refine .next ?_
    refine .seq ?_
    refine .seq ?_
    refine .region ?_
    refine .step rfl (.move rfl rfl) ?_
    refine .step rfl (.len rfl rfl ⟨_, _, rfl⟩ is32) ?_
    refine .step rfl (.bin rfl rfl rfl rfl) ?_
    refine .nil ?_
    refine .next ?_
    refine .cond rfl (fun h2 => ?_) (fun h2 => ?_)
    · skip
      have h1 : l.length = 1 := by have q := of_decide_eq_true h2; (try dsimp only at q); omega
      obtain ⟨x, el⟩ := one_of h1
      subst el
      refine .seq ?_
      refine .region ?_
      refine .step rfl (.move rfl rfl) ?_
      refine .step rfl (.idx (x) rfl rfl rfl rfl et32 it_len (by decide) rfl) ?_
      refine .step rfl (.ldem (ds := x.dv) rfl rfl rfl rfl rfl tk28) ?_
      refine .step rfl (.callf rfl cf31 rfl ⟨trivial, trivial⟩ (rleaf_pf x)) ?_
      refine .step rfl (.store rfl rfl rfl sz25 rfl rfl) ?_
      refine .nil ?_
      refine .next ?_
      refine .ret ?_
      have e : belowH (f + 1) k [x] = tagH 108 [H.l x.ix, H.l x.vl] := rfl
      rw [e]
      exact TE.retf rfl rfl rfl (pl_ag (pl_h _))
    · skip
      have h1 : ¬ (l.length = 1) := by have q := of_decide_eq_false h2; (try dsimp only at q); omega
      have h2 : ¬ l.length < 2 := by omega
      obtain ⟨g, rfl, hk2, hs, ho1, ho2⟩ := okT_two ho h2
      refine .skip ?_
      refine .next ?_
      refine .seq ?_
      have f1 := List.length_filter_le (bit0 k) l
      have f2 := List.length_filter_le (fun x => !bit0 k x) l
      have c1 := ih g rfl (k + 1) (l.filter (bit0 k)) ho1 (by omega) (by omega)
      have c2 := ih g rfl (k + 1) (l.filter (fun x => !bit0 k x)) ho2 (by omega) (by omega)
      refine .region ?_
      refine .step rfl (.move rfl rfl) ?_
      refine .step rfl (.move rfl rfl) ?_
      refine .step rfl (.callc rfl cf38 rfl (sides_pc l k hk2 hl)) ?_
      refine .step rfl (.move rfl rfl) ?_
      refine .step rfl (.extract rfl rfl rfl rfl) ?_
      refine .step rfl (.extract rfl rfl rfl rfl) ?_
      refine .step rfl (.assign rfl rfl) ?_
      refine .step rfl (.assign rfl rfl) ?_
      refine .nil ?_
      refine .next ?_
      refine .seq ?_
      refine .region ?_
      refine .step rfl (.move rfl rfl) ?_
      refine .step rfl (.move rfl rfl) ?_
      refine .step rfl (.binv (.int .i64 ((k + 1 : Nat) : Int)) rfl rfl rfl rfl (congrArg _ (by (try dsimp only); rw [IntKind.wrap_i64]; omega))) ?_
      refine .step rfl (.callf rfl cf40 rfl ⟨trivial, trivial, trivial⟩ (c1)) ?_
      refine .step rfl (.move rfl rfl) ?_
      refine .step rfl (.move rfl rfl) ?_
      refine .step rfl (.binv (.int .i64 ((k + 1 : Nat) : Int)) rfl rfl rfl rfl (congrArg _ (by (try dsimp only); rw [IntKind.wrap_i64]; omega))) ?_
      refine .step rfl (.callf rfl cf40 rfl ⟨trivial, trivial, trivial⟩ (c2)) ?_
      refine .step rfl (.callf rfl cf74 rfl ⟨trivial, trivial, trivial⟩ (rnode_pf _ _)) ?_
      refine .step rfl (.store rfl rfl rfl sz25 rfl rfl) ?_
      refine .nil ?_
      refine .next ?_
      refine .ret ?_
      rw [belowH_two h2]
      exact TE.retf rfl rfl rfl (pl_ag (pl_h _))
theorem rroot_pf : ∀ (f k : Nat) (l : List It), okT f k l → l.length ≤ 1048576 → k ≤ 256 → PF Try.prog 40 [slT It.dv 64 l, .v (.int .i64 ((k : Nat) : Int))] (.ag (hdv (belowH (f + 1) k l)))
  | 0 => rroot_step 0 (fun g e => by omega)
  | f + 1 => rroot_step (f + 1) (fun g e => (show f = g by omega) ▸ rroot_pf f)
theorem cf23 : cfn Try.prog 23 = true := by kernel_rfl
theorem cf57 : cfn Try.prog 57 = true := by kernel_rfl
theorem cf58 : cfn Try.prog 58 = true := by kernel_rfl
theorem fo67_0 : fo Try.prog 67 0 = some 0 := by kernel_rfl
theorem fo67_1 : fo Try.prog 67 1 = some 1 := by kernel_rfl
theorem fo67_2 : fo Try.prog 67 2 = some 2 := by kernel_rfl
theorem tk47 : tyk Try.prog 47 = some none := by kernel_rfl
theorem tk9 : tyk Try.prog 9 = some none := by kernel_rfl
theorem uk47 : ukd Try.prog 47 = some .u64 := by kernel_rfl
set_option maxRecDepth 100000 in
set_option maxHeartbeats 1600000 in
theorem rindex_pf (nm : List UInt8) (hn : nm.length ≤ 1048576) : PF Try.prog 57 [.v (.string ⟨⟨nm⟩⟩)] (.ag (hdv (indexH nm))) := by
  refine PF.enter (fn := Try.f57) Try.func57 rfl Try.ntmps57 rfl (fun w0 => ?_)
  refine .seq ?_
  refine .region ?_
  refine .step rfl (.alloc 1 rfl rfl zc25 rfl) ?_
  refine .nil ?_
  refine .next ?_
  refine .seq ?_
  refine .region ?_
  refine .step rfl (.move rfl rfl) ?_
  refine .step rfl (.convsb rfl rfl us9 u844 (by omega)) ?_
  refine .step rfl (.buildsl (ds := [slT bdv 1 nm]) 2 rfl rfl rfl ap48 zc44 rfl rfl rfl) ?_
  refine .step rfl (.callf rfl cf59 rfl ⟨trivial, okA_len rfl rfl, trivial⟩ (rtag_pf 105 [nm] (by decide) (by decide) (by simp [textLen, totalLen]; omega))) ?_
  refine .step rfl (.store rfl rfl rfl sz25 rfl rfl) ?_
  refine .nil ?_
  refine .next ?_
  refine .ret ?_
  exact TE.retf rfl rfl rfl (pl_ag (pl_h _))
set_option maxRecDepth 100000 in
set_option maxHeartbeats 1600000 in
theorem rvalue_pf (ver key : Int) (h0 : 0 ≤ key) (h1 : key < 18446744073709551616) : PF Try.prog 58 [.v (.int .i64 ver), .v (.int .u64 key)] (.ag (hdv (valueH ver key))) := by
  refine PF.enter (fn := Try.f58) Try.func58 rfl Try.ntmps58 rfl (fun w0 => ?_)
  refine .seq ?_
  refine .region ?_
  refine .step rfl (.alloc 1 rfl rfl zc25 rfl) ?_
  refine .nil ?_
  refine .next ?_
  refine .seq ?_
  refine .region ?_
  refine .step rfl (.move rfl rfl) ?_
  refine .step rfl (.conviv (u64w ver) rfl rfl uk3 uk47 (IntKind.wrap_u64 _)) ?_
  refine .step rfl (.callf rfl cf23 rfl ⟨trivial, trivial⟩ (rnum_pf (u64w ver) (u64w_bd ver).1 (u64w_bd ver).2)) ?_
  refine .step rfl (.move rfl rfl) ?_
  refine .step rfl (.callf rfl cf23 rfl ⟨trivial, trivial⟩ (rnum_pf key h0 h1)) ?_
  refine .step rfl (.buildsl (ds := [slT bdv 1 (numB (u64w ver)), slT bdv 1 (numB key)]) 2 rfl rfl rfl ap48 zc44 rfl rfl rfl) ?_
  refine .step rfl (.callf rfl cf59 rfl ⟨trivial, okA_len rfl rfl, trivial⟩ (rtag_pf 118 [numB (u64w ver), numB key] (by decide) (by decide) (by simp [textLen, totalLen, numB_len]))) ?_
  refine .step rfl (.store rfl rfl rfl sz25 rfl rfl) ?_
  refine .nil ?_
  refine .next ?_
  refine .ret ?_
  exact TE.retf rfl rfl rfl (pl_ag (pl_h _))
set_option maxRecDepth 100000 in
set_option maxHeartbeats 1600000 in
theorem ritem_pf (nm : List UInt8) (ver key : Int) (hn : nm.length ≤ 1048576) (h0 : 0 ≤ key) (h1 : key < 18446744073709551616) : PF Try.prog 30 [.ag (entD nm ver key)] (.ag (itemI nm ver key).dv) := by
  refine PF.enter (fn := Try.f30) Try.func30 rfl Try.ntmps30 rfl (fun w0 => ?_)
  refine .seq ?_
  refine .region ?_
  refine .step rfl (.box 1 rfl rfl rfl rfl) ?_
  refine .step rfl (.alloc 2 rfl rfl zc28 rfl) ?_
  refine .nil ?_
  refine TE.frzb 1 rfl rfl rfl rfl ?_
  refine .next ?_
  refine .seq ?_
  refine .draw mixed [Ro.mk _ (Eff.mk (some (3, _)) []) [], Ro.mk _ (Eff.mk (some (4, _)) []) [], Ro.mk _ (Eff.mk (some (5, _)) []) [], Ro.mk _ (Eff.mk (some (6, _)) []) [], Ro.mk _ (Eff.mk (some (7, _)) []) [], Ro.mk _ (Eff.mk (some (8, _)) []) [], Ro.mk _ (Eff.mk (some (9, _)) []) [], Ro.mk _ (Eff.mk (some (10, _)) []) [], Ro.mk _ (Eff.mk (some (11, _)) []) [], Ro.mk _ (Eff.mk none [(2, _)]) [2]] rfl ⟨(fun _ _ => .fielde rfl rfl rfl fo67_0), (fun _ _ => .lde rfl rfl rfl rfl tk9), (fun _ _ => .callf rfl cf57 rfl ⟨trivial, trivial⟩ (rindex_pf nm hn)), (fun _ _ => .fielde rfl rfl rfl fo67_1), (fun _ _ => .lde rfl rfl rfl rfl tk3), (fun _ _ => .fielde rfl rfl rfl fo67_2), (fun _ _ => .lde rfl rfl rfl rfl tk47), (fun _ _ => .callf rfl cf58 rfl ⟨trivial, trivial, trivial⟩ (rvalue_pf ver key h0 h1)), (fun _ _ => .build (ds := (itemI nm ver key).dv) rfl rfl sp28 rfl rfl), (fun _ _ => .store rfl rfl rfl sz28 rfl rfl), trivial⟩ (by kernel_rfl) ?_
  refine .next ?_
  refine .ret ?_
  exact TE.retf rfl rfl rfl (pl_ag (pl_it _))
end Go.Proofs.Ytejhgijjegnmnaa

