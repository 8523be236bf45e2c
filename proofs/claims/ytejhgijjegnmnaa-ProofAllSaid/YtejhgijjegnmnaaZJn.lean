/-
  ProofAll.
-/
import Derived.Test.YtejhgijjegnmnaaZJl
import Derived.Test.YtejhgijjegnmnaaZFo
namespace Go.Proofs.Ytejhgijjegnmnaa
set_option linter.unusedVariables false
set_option linter.unusedSimpArgs false
open Go.RowKit Pl
theorem cf10 : cfn Try.prog 10 = true := by kernel_rfl
theorem cf15 : cfn Try.prog 15 = true := by kernel_rfl
theorem cf9 : cfn Try.prog 9 = true := by kernel_rfl
set_option maxRecDepth 100000 in
set_option maxHeartbeats 1600000 in
theorem proofAll_pf (l : List UInt16) (bit : UInt8) : PF Try.prog 5 [slT wdv 1 l, .v (.int .u8 bit.toNat)] (.v (.bool true)) := by
  refine PF.enter (fn := Try.f5) Try.func5 rfl Try.ntmps5 rfl (fun w0 => ?_)
  refine .seq ?_
  refine .region ?_
  refine .step rfl (.assign rfl rfl) ?_
  refine .nil ?_
  refine .next ?_
  refine .seq ?_
  refine .seq ?_
  refine .region ?_
  refine .step rfl (.callf rfl cf9 rfl trivial (known_pf)) ?_
  refine .step rfl (.un rfl rfl rfl) ?_
  refine .nil ?_
  refine .next ?_
  refine .cond rfl (fun h1 => absurd h1 (by decide)) (fun h1 => ?_)
  refine .skip ?_
  refine .next ?_
  refine .seq ?_
  refine .seq ?_
  refine .region ?_
  refine .step rfl (.move rfl rfl) ?_
  refine .step rfl (.len rfl rfl ⟨_, _, rfl⟩ is22) ?_
  refine .step rfl (.bin rfl rfl rfl rfl) ?_
  refine .nil ?_
  refine .next ?_
  refine .cond rfl (fun h2 => ?_) (fun h2 => ?_)
  ·skip
   skip
   refine .seq ?_
   refine .region ?_
   refine .step rfl (.assign rfl rfl) ?_
   refine .nil ?_
   refine .next ?_
   refine .ret ?_
   exact TE.retf rfl rfl rfl trivial
  ·skip
   have h16 : ¬ (16 < l.length) := by have q := of_decide_eq_false h2; (try dsimp only at q); omega
   refine .skip ?_
   refine .next ?_
   refine .seq ?_
   refine .region ?_
   refine .step rfl (.move rfl rfl) ?_
   refine .step rfl (.callo 1 rfl rfl cf10 rfl ⟨trivial, trivial⟩ (items_po l (by omega))) ?_
   refine .step rfl (.callf rfl cf26 rfl ⟨okA_len rfl (it_flat _), trivial, trivial⟩ (.nil2 (rset_po (l.map seatI) [] (by simp; omega)).pf)) ?_
   refine .step rfl (.assign rfl rfl) ?_
   refine .nil ?_
   obtain ⟨X, hX⟩ : ∃ X, X = setR (l.map seatI) [] := ⟨_, rfl⟩
   have hs : Str X := by rw [hX]; exact setR_str _ _
   have hXl : X.length ≤ l.length := by rw [hX]; have := setR_len (l.map seatI) []; simpa using this
   refine TE.set 5 (.f (slT It.dv 64 (X))) rfl (by rw [hX]) ?_
   refine .next ?_
   refine .seq ?_
   refine .region ?_
   refine .step rfl (.move rfl rfl) ?_
   refine .step rfl (.callf rfl cf15 rfl ⟨trivial, trivial⟩ (rroot_all X (by omega))) ?_
   refine .step rfl (.alloc 2 rfl rfl zc25 rfl) ?_
   refine .step rfl (.store rfl rfl rfl sz25 rfl rfl) ?_
   refine .nil ?_
   refine TE.obj 2 (.box 25 (hdv (rootH X))) rfl rfl ?_
   refine .next ?_
   refine .seq ?_
   refine .seq ?_
   refine .region ?_
   refine .step rfl (.assign rfl rfl) ?_
   refine .nil ?_
   refine TE.setv 7 (.int .i64 ((0 : Nat) : Int)) rfl (congrArg _ (by first | rfl | (dsimp only; first | done | rfl | omega))) ?_
   refine .next ?_
   refine .block ?_
   refine TC.loop (S := Nat) (fun i => i ≤ X.length) (fun i => X.length - i) (fun i => [(1, .d (.v (.int .u8 bit.toNat))), (5, .f (slT It.dv 64 (X))), (6, .ptr 2 0), (7, .d (.v (.int .i64 ((i : Nat) : Int))))]) (fun i => [(1, .dead), (2, .box 25 (hdv (rootH X)))]) (0) (Nat.zero_le _) ⟨⟨rfl, rfl⟩, ⟨rfl, rfl⟩, ⟨rfl, rfl⟩, ⟨rfl, rfl⟩, trivial⟩ ⟨.inl rfl, .inr rfl, trivial⟩ (fun i hI => ?_)
   refine .seq ?_
   refine .seq ?_
   refine .region ?_
   refine .step rfl (.move rfl rfl) ?_
   refine .step rfl (.move rfl rfl) ?_
   refine .step rfl (.len rfl rfl ⟨_, _, rfl⟩ is32) ?_
   refine .step rfl (.bin rfl rfl rfl rfl) ?_
   refine .nil ?_
   refine .next ?_
   refine .cond rfl (fun h3 => ?_) (fun h3 => ?_)
   ·skip
    have hi : i < X.length := by have q := of_decide_eq_true h3; (try dsimp only at q); omega
    obtain ⟨x, hx⟩ : ∃ x, X[i] = x := ⟨_, rfl⟩
    have hm : x ∈ X := hx ▸ List.getElem_mem hi
    have cM : PC Try.prog 12 [slT It.dv 64 (X), .ag (hdv (x.ix))] (.ag (Pf.dv (mkP x.ix X))) := by have q := make_pc X x.ix (by omega); rwa [setR_self hs] at q
    have cC : PC Try.prog 17 [.ag (hdv (rootH X)), .ag (hdv (x.ix)), .ag (Pf.dv ((mkP x.ix X)))] (.tp [.ag (hdv (x.vl)), .v (.bool true), .v (.bool true)]) := by have q := check_pc (rootH X) x.ix (mkP x.ix X); rwa [check_mine hs hm] at q
    refine .skip ?_
    refine .next ?_
    refine .seq ?_
    refine .block ?_
    refine .seq ?_
    refine .draw mixed [Ro.mk _ (Eff.mk (some (34, _)) []) [2], Ro.mk _ (Eff.mk (some (35, _)) []) [], Ro.mk _ (Eff.mk (some (36, _)) []) [], Ro.mk _ (Eff.mk (some (37, _)) []) [], Ro.mk _ (Eff.mk (some (38, _)) []) [], Ro.mk _ (Eff.mk (some (39, _)) []) [], Ro.mk _ (Eff.mk (some (40, _)) []) [], Ro.mk _ (Eff.mk (some (41, _)) []) [], Ro.mk _ (Eff.mk (some (42, _)) []) [], Ro.mk _ (Eff.mk (some (43, _)) []) [], Ro.mk _ (Eff.mk (some (44, _)) []) [], Ro.mk _ (Eff.mk (some (45, _)) []) [], Ro.mk _ (Eff.mk (some (46, _)) []) [], Ro.mk _ (Eff.mk (some (47, _)) []) [], Ro.mk _ (Eff.mk (some (33, _)) []) [], Ro.mk _ (Eff.mk (some (48, _)) []) [], Ro.mk _ (Eff.mk (some (49, _)) []) [], Ro.mk _ (Eff.mk (some (50, _)) []) [], Ro.mk _ (Eff.mk (some (8, _)) [(3, _)]) [3], Ro.mk _ (Eff.mk none [(3, _)]) [3], Ro.mk _ (Eff.mk (some (9, _)) []) [], Ro.mk _ (Eff.mk (some (10, _)) []) []] rfl ⟨(fun _ _ => .ldpm (ds := hdv (rootH X)) rfl rfl rfl rfl rfl rfl tk25), (fun _ _ => .move rfl rfl), (fun _ _ => .move rfl rfl), (fun _ _ => .idx (x) rfl rfl rfl rfl et32 it_len (Int.natCast_nonneg _) (hx ▸ get_nat hi)), (fun _ _ => .fielde rfl rfl rfl fo28_0), (fun _ _ => .ldem (ds := hdv x.ix) rfl rfl rfl rfl rfl tk25), (fun _ _ => .move rfl rfl), (fun _ _ => .move rfl rfl), (fun _ _ => .move rfl rfl), (fun _ _ => .idx (x) rfl rfl rfl rfl et32 it_len (Int.natCast_nonneg _) (hx ▸ get_nat hi)), (fun _ _ => .fielde rfl rfl rfl fo28_0), (fun _ _ => .ldem (ds := hdv x.ix) rfl rfl rfl rfl rfl tk25), (fun _ _ => .callc rfl cf12 rfl (cM)), (fun _ _ => .callc rfl cf17 rfl (cC)), (fun _ _ => .move rfl rfl), (fun _ _ => .extract rfl rfl rfl rfl), (fun _ _ => .extract rfl rfl rfl rfl), (fun _ _ => .extract rfl rfl rfl rfl), (fun _ _ => .alloc 3 rfl rfl zc25 rfl), (fun _ _ => .store rfl rfl rfl sz25 rfl rfl), (fun _ _ => .assign rfl rfl), (fun _ _ => .assign rfl rfl), trivial⟩ (by kernel_rfl) ?_
    refine TE.obj 3 (.box 25 (hdv x.vl)) rfl rfl ?_
    refine .next ?_
    refine .seq ?_
    refine .seq ?_
    refine .draw mixed [Ro.mk _ (Eff.mk (some (51, _)) []) [], Ro.mk _ (Eff.mk (some (52, _)) []) [], Ro.mk _ (Eff.mk (some (53, _)) []) [], Ro.mk _ (Eff.mk (some (54, _)) []) [], Ro.mk _ (Eff.mk (some (55, _)) []) [], Ro.mk _ (Eff.mk (some (56, _)) []) [], Ro.mk _ (Eff.mk (some (57, _)) []) [], Ro.mk _ (Eff.mk (some (58, _)) []) [3], Ro.mk _ (Eff.mk (some (59, _)) []) [], Ro.mk _ (Eff.mk (some (60, _)) []) [], Ro.mk _ (Eff.mk (some (61, _)) []) [], Ro.mk _ (Eff.mk (some (62, _)) []) [], Ro.mk _ (Eff.mk (some (63, _)) []) [], Ro.mk _ (Eff.mk (some (64, _)) []) [], Ro.mk _ (Eff.mk (some (65, _)) []) []] rfl ⟨(fun _ _ => .move rfl rfl), (fun _ _ => .un rfl rfl rfl), (fun _ _ => .move rfl rfl), (.inr ⟨53, _, rfl, rfl, rfl, rfl, fun _ _ => .move rfl rfl⟩), (.inr ⟨53, _, rfl, rfl, rfl, rfl, fun _ _ => .un rfl rfl rfl⟩), (fun _ _ => .pick rfl rfl rfl), (fun _ _ => .move rfl rfl), (.inr ⟨57, _, rfl, rfl, rfl, rfl, fun _ _ => .ldpm (ds := hdv x.vl) rfl rfl rfl rfl rfl rfl tk25⟩), (.inr ⟨57, _, rfl, rfl, rfl, rfl, fun _ _ => .move rfl rfl⟩), (.inr ⟨57, _, rfl, rfl, rfl, rfl, fun _ _ => .move rfl rfl⟩), (.inr ⟨57, _, rfl, rfl, rfl, rfl, fun _ _ => .idx (x) rfl rfl rfl rfl et32 it_len (Int.natCast_nonneg _) (hx ▸ get_nat hi)⟩), (.inr ⟨57, _, rfl, rfl, rfl, rfl, fun _ _ => .fielde rfl rfl rfl fo28_1⟩), (.inr ⟨57, _, rfl, rfl, rfl, rfl, fun _ _ => .ldem (ds := hdv x.vl) rfl rfl rfl rfl rfl tk25⟩), (.inr ⟨57, _, rfl, rfl, rfl, rfl, fun _ _ => .nehf (a := x.vl) (b := x.vl) (rfl) rfl rfl rfl qh25⟩), (fun _ _ => .pick rfl rfl rfl), trivial⟩ (by kernel_rfl) ?_
    refine .next ?_
    refine .cond rfl (fun h4 => absurd h4 (by decide)) (fun h4 => ?_)
    refine .skip ?_
    refine .next ?_
    refine .seq ?_
    refine .region ?_
    refine .step rfl (.move rfl rfl) ?_
    refine .step rfl (.move rfl rfl) ?_
    refine .step rfl (.idx (x) rfl rfl rfl rfl et32 it_len (Int.natCast_nonneg _) (hx ▸ get_nat hi)) ?_
    refine .step rfl (.fielde rfl rfl rfl fo28_0) ?_
    refine .step rfl (.ldem (ds := hdv x.ix) rfl rfl rfl rfl rfl tk25) ?_
    refine .step rfl (.alloc 4 rfl rfl zc25 rfl) ?_
    refine .step rfl (.store rfl rfl rfl sz25 rfl rfl) ?_
    refine .nil ?_
    refine TE.obj 4 (.box 25 (hdv x.ix)) rfl rfl ?_
    refine .next ?_
    refine .seq ?_
    have hb8 : bit.toNat / 8 < 32 := by have := bit.toNat_lt; omega
    refine .region ?_
    refine .step rfl (.move rfl rfl) ?_
    refine .step rfl (.quo (((bit.toNat / 8 : Nat) : Int)) rfl rfl rfl (by decide) (by have := bit.toNat_lt; rw [show ((8 : Int)) = ((8 : Nat) : Int) from rfl, ediv_nat, IntKind.wrap_u8]; omega)) ?_
    refine .step rfl (.idxp rfl rfl rfl rfl rfl ar25 (Int.natCast_nonneg _) (by omega)) ?_
    refine .step rfl (.ldp rfl rfl rfl rfl (by (first | rw [Nat.mul_one, Nat.zero_add, Int.toNat_natCast] | skip); exact hB_at x.ix (k := bit.toNat / 8) hb8) tk5) ?_
    refine .step rfl (.move rfl rfl) ?_
    refine .step rfl (.rem (((bit.toNat % 8 : Nat) : Int)) rfl rfl rfl (by decide) (emod_nat)) ?_
    refine .step rfl (.shr ((((mB bit).toNat : Nat) : Int)) rfl rfl rfl (Int.natCast_nonneg _) (mB_shr bit)) ?_
    refine .step rfl (.bits ((((hB x.ix (bit.toNat / 8) ^^^ mB bit : UInt8).toNat : Nat) : Int)) rfl rfl rfl rfl (u8_xor _ _)) ?_
    refine .step rfl (.idxp rfl rfl rfl rfl rfl ar25 (Int.natCast_nonneg _) (by omega)) ?_
    refine .step rfl (.storeg rfl rfl rfl rfl sz5 rfl (by rw [h_len, Nat.mul_one, Nat.zero_add, Int.toNat_natCast]; show _ + 1 ≤ 32; omega)) ?_
    refine .nil ?_
    refine TE.obj 4 (.box 25 (hdv (xorAt x.ix (bit.toNat / 8) (mB bit)))) rfl (by (first | rw [Nat.mul_one, Nat.zero_add, Int.toNat_natCast] | skip); exact congrArg (AO.box _) (xor_set x.ix (k := bit.toNat / 8) hb8 (mB bit))) ?_
    generalize xorAt x.ix (bit.toNat / 8) (mB bit) = n
    refine .next ?_
    refine .seq ?_
    refine .region ?_
    refine .step rfl (.assign rfl rfl) ?_
    refine .nil ?_
    refine TE.setv 12 (.bool (thereB n (X.take 0))) rfl rfl ?_
    refine .next ?_
    refine .seq ?_
    refine .seq ?_
    refine .region ?_
    refine .step rfl (.assign rfl rfl) ?_
    refine .nil ?_
    refine TE.setv 13 (.int .i64 ((0 : Nat) : Int)) rfl (congrArg _ (by first | rfl | (dsimp only; first | done | rfl | omega))) ?_
    refine .next ?_
    refine .block ?_
    refine TC.loop (S := Nat) (fun j => j ≤ X.length) (fun j => X.length - j) (fun j => [(1, .d (.v (.int .u8 bit.toNat))), (5, .f (slT It.dv 64 (X))), (6, .ptr 2 0), (7, .d (.v (.int .i64 ((i : Nat) : Int)))), (11, .ptr 4 0), (12, .d (.v (.bool (thereB n (X.take j))))), (13, .d (.v (.int .i64 ((j : Nat) : Int))))]) (fun j => [(1, .dead), (2, .box 25 (hdv (rootH X))), (3, .dead), (4, .box 25 (hdv (n)))]) (0) (Nat.zero_le _) ⟨⟨rfl, rfl⟩, ⟨rfl, rfl⟩, ⟨rfl, rfl⟩, ⟨rfl, rfl⟩, ⟨rfl, rfl⟩, ⟨rfl, rfl⟩, ⟨rfl, rfl⟩, trivial⟩ ⟨.inl rfl, .inr rfl, .inl rfl, .inr rfl, trivial⟩ (fun j hI => ?_)
    refine .seq ?_
    refine .seq ?_
    refine .region ?_
    refine .step rfl (.move rfl rfl) ?_
    refine .step rfl (.move rfl rfl) ?_
    refine .step rfl (.len rfl rfl ⟨_, _, rfl⟩ is32) ?_
    refine .step rfl (.bin rfl rfl rfl rfl) ?_
    refine .nil ?_
    refine .next ?_
    refine .cond rfl (fun h5 => ?_) (fun h5 => ?_)
    ·skip
     have hj : j < X.length := by have q := of_decide_eq_true h5; (try dsimp only at q); omega
     generalize hb : thereB n (X.take j) = b
     refine .skip ?_
     refine .next ?_
     refine .seq ?_
     refine .block ?_
     cases b with
     | true =>
      refine .draw mixed [Ro.mk _ (Eff.mk (some (86, _)) []) [], Ro.mk _ (Eff.mk (some (87, _)) []) [], Ro.mk _ (Eff.mk (some (88, _)) []) [], Ro.mk _ (Eff.mk (some (89, _)) []) [], Ro.mk _ (Eff.mk (some (90, _)) []) [], Ro.mk _ (Eff.mk (some (91, _)) []) [], Ro.mk _ (Eff.mk (some (92, _)) []) [], Ro.mk _ (Eff.mk (some (93, _)) []) [], Ro.mk _ (Eff.mk (some (94, _)) []) [], Ro.mk _ (Eff.mk (some (95, _)) []) [], Ro.mk _ (Eff.mk (some (12, _)) []) []] rfl ⟨(fun _ _ => .move rfl rfl), (fun _ _ => .move rfl rfl), (.inr ⟨87, _, rfl, rfl, rfl, rfl, 88, rfl, rfl, rfl⟩), (.inr ⟨87, _, rfl, rfl, rfl, rfl, 89, rfl, rfl, rfl⟩), (.inr ⟨87, _, rfl, rfl, rfl, rfl, 90, rfl, rfl, rfl⟩), (.inr ⟨87, _, rfl, rfl, rfl, rfl, 91, rfl, rfl, rfl⟩), (.inr ⟨87, _, rfl, rfl, rfl, rfl, 92, rfl, rfl, rfl⟩), (.inr ⟨87, _, rfl, rfl, rfl, rfl, 93, rfl, rfl, rfl⟩), (.inr ⟨87, _, rfl, rfl, rfl, rfl, 94, rfl, rfl, rfl⟩), (fun _ _ => .pick rfl rfl rfl), (fun _ _ => .assign rfl rfl), trivial⟩ (by kernel_rfl) ?_
      refine TE.setv 12 (.bool (thereB n (X.take (j + 1)))) rfl (by rw [there_snoc hj, hb]; rfl) ?_
      refine TE.blk ?_
      refine .next ?_
      refine .region ?_
      refine .step rfl (.move rfl rfl) ?_
      refine .step rfl (.binv (.int .i64 ((j + 1 : Nat) : Int)) rfl rfl rfl rfl (congrArg _ (by (try dsimp only); rw [IntKind.wrap_i64]; omega))) ?_
      refine .step rfl (.assign rfl rfl) ?_
      refine .nil ?_
      refine TE.setv 13 (.int .i64 ((j + 1 : Nat) : Int)) rfl (congrArg _ (by first | rfl | (dsimp only; first | done | rfl | omega))) ?_
      exact TE.round id (fun _ _ e => e) (j + 1) (by omega) (by omega) ⟨⟨rfl, rfl⟩, ⟨rfl, rfl⟩, ⟨rfl, rfl⟩, ⟨rfl, rfl⟩, ⟨rfl, rfl⟩, ⟨rfl, rfl⟩, ⟨rfl, rfl⟩, trivial⟩ ⟨.inl rfl, .inr rfl, .inl rfl, .inr rfl, trivial⟩
     | false =>
      refine .draw mixed [Ro.mk _ (Eff.mk (some (86, _)) []) [], Ro.mk _ (Eff.mk (some (87, _)) []) [], Ro.mk _ (Eff.mk (some (88, _)) []) [], Ro.mk _ (Eff.mk (some (89, _)) []) [], Ro.mk _ (Eff.mk (some (90, _)) []) [], Ro.mk _ (Eff.mk (some (91, _)) []) [], Ro.mk _ (Eff.mk (some (92, _)) []) [], Ro.mk _ (Eff.mk (some (93, _)) []) [4], Ro.mk _ (Eff.mk (some (94, _)) []) [], Ro.mk _ (Eff.mk (some (95, _)) []) [], Ro.mk _ (Eff.mk (some (12, _)) []) []] rfl ⟨(fun _ _ => .move rfl rfl), (fun _ _ => .move rfl rfl), (.inr ⟨87, _, rfl, rfl, rfl, rfl, fun _ _ => .move rfl rfl⟩), (.inr ⟨87, _, rfl, rfl, rfl, rfl, fun _ _ => .move rfl rfl⟩), (.inr ⟨87, _, rfl, rfl, rfl, rfl, fun _ _ => .idx (X[j]) rfl rfl rfl rfl et32 it_len (Int.natCast_nonneg _) (get_nat hj)⟩), (.inr ⟨87, _, rfl, rfl, rfl, rfl, fun _ _ => .fielde rfl rfl rfl fo28_0⟩), (.inr ⟨87, _, rfl, rfl, rfl, rfl, fun _ _ => .ldem (ds := hdv X[j].ix) rfl rfl rfl rfl rfl tk25⟩), (.inr ⟨87, _, rfl, rfl, rfl, rfl, fun _ _ => .ldpm (ds := hdv n) rfl rfl rfl rfl rfl rfl tk25⟩), (.inr ⟨87, _, rfl, rfl, rfl, rfl, fun _ _ => .eqh (a := X[j].ix) (b := n) rfl rfl rfl qh25⟩), (fun _ _ => .pick rfl rfl rfl), (fun _ _ => .assign rfl rfl), trivial⟩ (by kernel_rfl) ?_
      refine TE.setv 12 (.bool (thereB n (X.take (j + 1)))) rfl (by rw [there_snoc hj, hb]; rfl) ?_
      refine TE.blk ?_
      refine .next ?_
      refine .region ?_
      refine .step rfl (.move rfl rfl) ?_
      refine .step rfl (.binv (.int .i64 ((j + 1 : Nat) : Int)) rfl rfl rfl rfl (congrArg _ (by (try dsimp only); rw [IntKind.wrap_i64]; omega))) ?_
      refine .step rfl (.assign rfl rfl) ?_
      refine .nil ?_
      refine TE.setv 13 (.int .i64 ((j + 1 : Nat) : Int)) rfl (congrArg _ (by first | rfl | (dsimp only; first | done | rfl | omega))) ?_
      exact TE.round id (fun _ _ e => e) (j + 1) (by omega) (by omega) ⟨⟨rfl, rfl⟩, ⟨rfl, rfl⟩, ⟨rfl, rfl⟩, ⟨rfl, rfl⟩, ⟨rfl, rfl⟩, ⟨rfl, rfl⟩, ⟨rfl, rfl⟩, trivial⟩ ⟨.inl rfl, .inr rfl, .inl rfl, .inr rfl, trivial⟩
    ·skip
     have hj : ¬ (j < X.length) := by have q := of_decide_eq_false h5; (try dsimp only at q); omega
     have e : j = X.length := by have : j ≤ X.length := hI; omega
     subst e
     rw [List.take_length]
     refine .exit ?_
     refine TE.pass ?_
     refine TE.pass ?_
     refine TE.here ?_
     refine .next ?_
     refine .seq ?_
     have cN : PC Try.prog 12 [slT It.dv 64 (X), .ag (hdv (n))] (.ag (Pf.dv (mkP n X))) := by have q := make_pc X n (by omega); rwa [setR_self hs] at q
     obtain ⟨v, hck⟩ := check_any hs n
     have cD : PC Try.prog 17 [.ag (hdv (rootH X)), .ag (hdv (n)), .ag (Pf.dv ((mkP n X)))] (.tp [.ag (hdv (v)), .v (.bool (thereB n X)), .v (.bool true)]) := by have q := check_pc (rootH X) n (mkP n X); rwa [hck] at q
     refine .draw mixed [Ro.mk _ (Eff.mk (some (97, _)) []) [2], Ro.mk _ (Eff.mk (some (98, _)) []) [4], Ro.mk _ (Eff.mk (some (99, _)) []) [], Ro.mk _ (Eff.mk (some (100, _)) []) [4], Ro.mk _ (Eff.mk (some (101, _)) []) [], Ro.mk _ (Eff.mk (some (102, _)) []) [], Ro.mk _ (Eff.mk (some (96, _)) []) [], Ro.mk _ (Eff.mk (some (103, _)) []) [], Ro.mk _ (Eff.mk (some (104, _)) []) [], Ro.mk _ (Eff.mk (some (105, _)) []) [], Ro.mk _ (Eff.mk (some (14, _)) [(5, _)]) [5], Ro.mk _ (Eff.mk none [(5, _)]) [5], Ro.mk _ (Eff.mk (some (15, _)) []) [], Ro.mk _ (Eff.mk (some (16, _)) []) []] rfl ⟨(fun _ _ => .ldpm (ds := hdv (rootH X)) rfl rfl rfl rfl rfl rfl tk25), (fun _ _ => .ldpm (ds := hdv n) rfl rfl rfl rfl rfl rfl tk25), (fun _ _ => .move rfl rfl), (fun _ _ => .ldpm (ds := hdv n) rfl rfl rfl rfl rfl rfl tk25), (fun _ _ => .callc rfl cf12 rfl (cN)), (fun _ _ => .callc rfl cf17 rfl (cD)), (fun _ _ => .move rfl rfl), (fun _ _ => .extract rfl rfl rfl rfl), (fun _ _ => .extract rfl rfl rfl rfl), (fun _ _ => .extract rfl rfl rfl rfl), (fun _ _ => .alloc 5 rfl rfl zc25 rfl), (fun _ _ => .store rfl rfl rfl sz25 rfl rfl), (fun _ _ => .assign rfl rfl), (fun _ _ => .assign rfl rfl), trivial⟩ (by kernel_rfl) ?_
     refine .next ?_
     refine .seq ?_
     refine .region ?_
     refine .step rfl (.move rfl rfl) ?_
     refine .step rfl (.un rfl rfl rfl) ?_
     refine .step rfl (.move rfl rfl) ?_
     refine .go 108 rfl rfl rfl rfl (.move rfl rfl) ?_
     refine .go 108 rfl rfl rfl rfl (.move rfl rfl) ?_
     refine .go 108 rfl rfl rfl rfl (.neb false rfl rfl rfl ub4 (by simp)) ?_
     refine .step rfl (.pick rfl rfl rfl) ?_
     refine .nil ?_
     refine .next ?_
     refine .cond rfl (fun h7 => absurd h7 (by decide)) (fun h7 => ?_)
     refine .skip ?_
     refine TE.blk ?_
     refine .next ?_
     refine .region ?_
     refine .step rfl (.move rfl rfl) ?_
     refine .step rfl (.binv (.int .i64 ((i + 1 : Nat) : Int)) rfl rfl rfl rfl (congrArg _ (by (try dsimp only); rw [IntKind.wrap_i64]; omega))) ?_
     refine .step rfl (.assign rfl rfl) ?_
     refine .nil ?_
     refine TE.setv 7 (.int .i64 ((i + 1 : Nat) : Int)) rfl (congrArg _ (by first | rfl | (dsimp only; first | done | rfl | omega))) ?_
     exact TE.round id (fun _ _ e => e) (i + 1) (by omega) (by omega) ⟨⟨rfl, rfl⟩, ⟨rfl, rfl⟩, ⟨rfl, rfl⟩, ⟨rfl, rfl⟩, trivial⟩ ⟨.inl rfl, .inr rfl, trivial⟩
   ·skip
    skip
    refine .exit ?_
    refine TE.pass ?_
    refine TE.pass ?_
    refine TE.here ?_
    refine .next ?_
    refine .seq ?_
    refine .region ?_
    refine .step rfl (.assign rfl rfl) ?_
    refine .nil ?_
    refine .next ?_
    refine .ret ?_
    exact TE.retf rfl rfl rfl trivial
end Go.Proofs.Ytejhgijjegnmnaa

