/-
  ProofOne.
-/
import Derived.Test.YtejhgijjegnmnaaZJl
import Derived.Test.YtejhgijjegnmnaaZFo
namespace Go.Proofs.Ytejhgijjegnmnaa
set_option linter.unusedVariables false
set_option linter.unusedSimpArgs false
open Go.RowKit Pl
theorem cf10 : cfn Try.prog 10 = true := by kernel_rfl
theorem cf15 : cfn Try.prog 15 = true := by kernel_rfl
theorem cf18 : cfn Try.prog 18 = true := by kernel_rfl
theorem cf9 : cfn Try.prog 9 = true := by kernel_rfl
set_option maxRecDepth 100000 in
set_option maxHeartbeats 1600000 in
theorem proofOne_pf (l : List UInt16) (k : UInt16) (value : H) : PF Try.prog 7 [slT wdv 1 l, .v (.int .u16 k.toNat), .ag (hdv (value))] (.v (.bool true)) := by
  refine PF.enter (fn := Try.f7) Try.func7 rfl Try.ntmps7 rfl (fun w0 => ?_)
  refine .seq ?_
  refine .region ?_
  refine .step rfl (.box 1 rfl rfl rfl rfl) ?_
  refine .step rfl (.assign rfl rfl) ?_
  refine .nil ?_
  refine TE.frzb 5 rfl rfl rfl rfl ?_
  refine .next ?_
  refine .seq ?_
  refine .seq ?_
  refine .region ?_
  refine .step rfl (.callf rfl cf9 rfl trivial (known_pf)) ?_
  refine .step rfl (.un rfl rfl rfl) ?_
  refine .nil ?_
  refine .next ?_
  refine .cond rfl (fun h1 => absurd h1 (by decide)) (fun h1 => ?_)
  refine .skip ?_
  refine .next ?_
  refine .seq ?_
  refine .seq ?_
  refine .region ?_
  refine .step rfl (.move rfl rfl) ?_
  refine .step rfl (.len rfl rfl ⟨_, _, rfl⟩ is22) ?_
  refine .step rfl (.bin rfl rfl rfl rfl) ?_
  refine .step rfl (.move rfl rfl) ?_
  refine .case 22 rfl (fun h2 => ?_) (fun h2 => ?_)
  ·skip
   have h20 : 20 < l.length := by have q := of_decide_eq_true h2; (try dsimp only at q); omega
   refine .no 22 rfl rfl rfl rfl rfl rfl rfl ?_
   refine .no 22 rfl rfl rfl rfl rfl rfl rfl ?_
   refine .no 22 rfl rfl rfl rfl rfl rfl rfl ?_
   refine .step rfl (.pick rfl rfl rfl) ?_
   refine .nil ?_
   refine .next ?_
   refine .cond rfl (fun h3 => ?_) (fun h3 => absurd h3 (by decide))
   refine .seq ?_
   refine .region ?_
   refine .step rfl (.assign rfl rfl) ?_
   refine .nil ?_
   refine .next ?_
   refine .ret ?_
   exact TE.retf rfl rfl rfl (by first | trivial | exact pl_v _)
  ·skip
   have h20 : ¬ (20 < l.length) := by have q := of_decide_eq_false h2; (try dsimp only at q); omega
   refine .go 22 rfl rfl rfl rfl (.move rfl rfl) ?_
   refine .go 22 rfl rfl rfl rfl (.len rfl rfl ⟨_, _, rfl⟩ is22) ?_
   refine .go 22 rfl rfl rfl rfl (.bin rfl rfl rfl rfl) ?_
   refine .step rfl (.pick rfl rfl rfl) ?_
   refine .nil ?_
   refine .next ?_
   refine .cond rfl (fun h4 => ?_) (fun h4 => ?_)
   ·skip
    skip
    refine .seq ?_
    refine .region ?_
    refine .step rfl (.assign rfl rfl) ?_
    refine .nil ?_
    refine .next ?_
    refine .ret ?_
    exact TE.retf rfl rfl rfl (by first | trivial | exact pl_v _)
   ·skip
    have h0 : ¬ (l.length = 0) := by have q := of_decide_eq_false h4; (try dsimp only at q); omega
    have h0' : ¬ (l.map seatI).length = 0 := by rw [List.length_map]; exact h0
    refine .skip ?_
    refine .next ?_
    refine .seq ?_
    refine .region ?_
    refine .step rfl (.move rfl rfl) ?_
    refine .step rfl (.callo 2 rfl rfl cf10 rfl ⟨trivial, trivial⟩ (items_po l (by omega))) ?_
    refine .step rfl (.callf rfl cf26 rfl ⟨okA_len rfl (it_flat _), trivial, trivial⟩ (.nil2 (rset_po (l.map seatI) [] (by simp; omega)).pf)) ?_
    refine .step rfl (.assign rfl rfl) ?_
    refine .nil ?_
    obtain ⟨X, hX⟩ : ∃ X, X = setR (l.map seatI) [] := ⟨_, rfl⟩
    have hs : Str X := by rw [hX]; exact setR_str _ _
    have hXl : X.length ≤ l.length := by rw [hX]; have := setR_len (l.map seatI) []; simpa using this
    refine TE.set 7 (.f (slT It.dv 64 (X))) rfl (by rw [hX]) ?_
    have hXp : 0 < X.length := by rw [hX]; exact set_ne h0'
    have hq : k.toNat % X.length < X.length := Nat.mod_lt _ hXp
    obtain ⟨x, hx⟩ : ∃ x, X[k.toNat % X.length] = x := ⟨_, rfl⟩
    have hm : x ∈ X := hx ▸ List.getElem_mem hq
    have cM : PC Try.prog 12 [slT It.dv 64 (X), .ag (hdv (x.ix))] (.ag (Pf.dv (mkP x.ix X))) := by have q := make_pc X x.ix (by omega); rwa [setR_self hs] at q
    refine .next ?_
    refine .seq ?_
    refine .region ?_
    refine .step rfl (.move rfl rfl) ?_
    refine .step rfl (.conviv (((k.toNat : Nat) : Int)) rfl rfl uk23 uk3 (by rw [IntKind.wrap_i64]; have := k.toNat_lt; omega)) ?_
    refine .step rfl (.move rfl rfl) ?_
    refine .step rfl (.len rfl rfl ⟨_, _, rfl⟩ is32) ?_
    refine .step rfl (.rem (((k.toNat % X.length : Nat) : Int)) rfl rfl rfl (by omega) (emod_nat)) ?_
    refine .step rfl (.assign rfl rfl) ?_
    refine .nil ?_
    refine .next ?_
    refine .seq ?_
    refine .region ?_
    refine .step rfl (.move rfl rfl) ?_
    refine .step rfl (.move rfl rfl) ?_
    refine .step rfl (.move rfl rfl) ?_
    refine .step rfl (.idx (x) rfl rfl rfl rfl et32 it_len (Int.natCast_nonneg _) (hx ▸ get_nat hq)) ?_
    refine .step rfl (.fielde rfl rfl rfl fo28_0) ?_
    refine .step rfl (.ldem (ds := hdv x.ix) rfl rfl rfl rfl rfl tk25) ?_
    refine .step rfl (.callc rfl cf12 rfl (cM)) ?_
    refine .step rfl (.alloc 3 rfl rfl zc30 rfl) ?_
    refine .step rfl (.store rfl rfl rfl sz30 rfl rfl) ?_
    refine .nil ?_
    refine TE.obj 3 (.box 30 (Pf.dv (mkP x.ix X))) rfl rfl ?_
    refine .next ?_
    refine .seq ?_
    refine .region ?_
    refine .step rfl (.move rfl rfl) ?_
    refine .step rfl (.callf rfl cf15 rfl ⟨trivial, trivial⟩ (rroot_all X (by omega))) ?_
    refine .step rfl (.alloc 4 rfl rfl zc25 rfl) ?_
    refine .step rfl (.store rfl rfl rfl sz25 rfl rfl) ?_
    refine .nil ?_
    refine TE.obj 4 (.box 25 (hdv (rootH X))) rfl rfl ?_
    refine .next ?_
    refine .seq ?_
    by_cases hv : value = x.vl
    ·skip
     have ep : (revP (mkP x.ix X) value) = mkP x.ix X := by rw [hv]; exact rev_own hs hm
     have cC : PC Try.prog 17 [.ag (hdv (rootH X)), .ag (hdv (x.ix)), .ag (Pf.dv (revP (mkP x.ix X) value))] (.tp [.ag (hdv (x.vl)), .v (.bool true), .v (.bool true)]) := by have q := check_pc (rootH X) x.ix (revP (mkP x.ix X) value); rw [ep, check_mine hs hm] at q; rw [ep]; exact q
     have cD : PC Try.prog 18 [.ag (hdv (rootH X)), .ag (hdv (x.ix)), .ag (Pf.dv (revP (mkP x.ix X) value))] (.tp [.ag (hdv (x.vl)), .v (.bool true), .v (.bool true)]) := by have q := rcheck_pc (rootH X) x.ix (revP (mkP x.ix X) value); rw [ep, check_mine hs hm] at q; rw [ep]; exact q
     refine .region ?_
     refine .step rfl (.ldem (ds := hdv value) rfl rfl rfl rfl rfl tk25) ?_
     refine .step rfl (.fieldp rfl rfl rfl rfl fo30_2) ?_
     refine .step rfl (.fieldp rfl rfl rfl rfl fo28_1) ?_
     refine .step rfl (.store rfl rfl rfl sz25 rfl rfl) ?_
     refine .nil ?_
     refine TE.obj 3 (.box 30 (Pf.dv (revP (mkP x.ix X) value))) rfl rfl ?_
     refine .next ?_
     refine .seq ?_
     refine .draw mixed [Ro.mk _ (Eff.mk (some (48, _)) []) [4], Ro.mk _ (Eff.mk (some (49, _)) []) [], Ro.mk _ (Eff.mk (some (50, _)) []) [], Ro.mk _ (Eff.mk (some (51, _)) []) [], Ro.mk _ (Eff.mk (some (52, _)) []) [], Ro.mk _ (Eff.mk (some (53, _)) []) [], Ro.mk _ (Eff.mk (some (54, _)) []) [3], Ro.mk _ (Eff.mk (some (55, _)) []) [], Ro.mk _ (Eff.mk (some (47, _)) []) [], Ro.mk _ (Eff.mk (some (56, _)) []) [], Ro.mk _ (Eff.mk (some (57, _)) []) [], Ro.mk _ (Eff.mk (some (58, _)) []) [], Ro.mk _ (Eff.mk (some (11, _)) [(5, _)]) [5], Ro.mk _ (Eff.mk none [(5, _)]) [5], Ro.mk _ (Eff.mk (some (12, _)) []) [], Ro.mk _ (Eff.mk (some (13, _)) []) []] rfl ⟨(fun _ _ => .ldpm (ds := hdv (rootH X)) rfl rfl rfl rfl rfl rfl tk25), (fun _ _ => .move rfl rfl), (fun _ _ => .move rfl rfl), (fun _ _ => .idx (x) rfl rfl rfl rfl et32 it_len (Int.natCast_nonneg _) (hx ▸ get_nat hq)), (fun _ _ => .fielde rfl rfl rfl fo28_0), (fun _ _ => .ldem (ds := hdv x.ix) rfl rfl rfl rfl rfl tk25), (fun _ _ => .ldpm (ds := Pf.dv (revP (mkP x.ix X) value)) rfl rfl rfl rfl rfl rfl tk30), (fun _ _ => .callc rfl cf17 rfl (cC)), (fun _ _ => .move rfl rfl), (fun _ _ => .extract rfl rfl rfl rfl), (fun _ _ => .extract rfl rfl rfl rfl), (fun _ _ => .extract rfl rfl rfl rfl), (fun _ _ => .alloc 5 rfl rfl zc25 rfl), (fun _ _ => .store rfl rfl rfl sz25 rfl rfl), (fun _ _ => .assign rfl rfl), (fun _ _ => .assign rfl rfl), trivial⟩ (by kernel_rfl) ?_
     refine TE.obj 5 (.box 25 (hdv x.vl)) rfl rfl ?_
     refine .next ?_
     refine .seq ?_
     refine .draw mixed [Ro.mk _ (Eff.mk (some (60, _)) []) [4], Ro.mk _ (Eff.mk (some (61, _)) []) [], Ro.mk _ (Eff.mk (some (62, _)) []) [], Ro.mk _ (Eff.mk (some (63, _)) []) [], Ro.mk _ (Eff.mk (some (64, _)) []) [], Ro.mk _ (Eff.mk (some (65, _)) []) [], Ro.mk _ (Eff.mk (some (66, _)) []) [3], Ro.mk _ (Eff.mk (some (67, _)) []) [], Ro.mk _ (Eff.mk (some (59, _)) []) [], Ro.mk _ (Eff.mk (some (68, _)) []) [], Ro.mk _ (Eff.mk (some (69, _)) []) [], Ro.mk _ (Eff.mk (some (70, _)) []) [], Ro.mk _ (Eff.mk (some (14, _)) [(6, _)]) [6], Ro.mk _ (Eff.mk none [(6, _)]) [6], Ro.mk _ (Eff.mk (some (15, _)) []) [], Ro.mk _ (Eff.mk (some (16, _)) []) []] rfl ⟨(fun _ _ => .ldpm (ds := hdv (rootH X)) rfl rfl rfl rfl rfl rfl tk25), (fun _ _ => .move rfl rfl), (fun _ _ => .move rfl rfl), (fun _ _ => .idx (x) rfl rfl rfl rfl et32 it_len (Int.natCast_nonneg _) (hx ▸ get_nat hq)), (fun _ _ => .fielde rfl rfl rfl fo28_0), (fun _ _ => .ldem (ds := hdv x.ix) rfl rfl rfl rfl rfl tk25), (fun _ _ => .ldpm (ds := Pf.dv (revP (mkP x.ix X) value)) rfl rfl rfl rfl rfl rfl tk30), (fun _ _ => .callc rfl cf18 rfl (cD)), (fun _ _ => .move rfl rfl), (fun _ _ => .extract rfl rfl rfl rfl), (fun _ _ => .extract rfl rfl rfl rfl), (fun _ _ => .extract rfl rfl rfl rfl), (fun _ _ => .alloc 6 rfl rfl zc25 rfl), (fun _ _ => .store rfl rfl rfl sz25 rfl rfl), (fun _ _ => .assign rfl rfl), (fun _ _ => .assign rfl rfl), trivial⟩ (by kernel_rfl) ?_
     refine TE.obj 6 (.box 25 (hdv x.vl)) rfl rfl ?_
     refine .next ?_
     refine .seq ?_
     refine .draw mixed [Ro.mk _ (Eff.mk (some (71, _)) []) [5], Ro.mk _ (Eff.mk (some (72, _)) []) [6], Ro.mk _ (Eff.mk (some (73, _)) []) [], Ro.mk _ (Eff.mk (some (74, _)) []) [], Ro.mk _ (Eff.mk (some (75, _)) []) [], Ro.mk _ (Eff.mk (some (76, _)) []) [], Ro.mk _ (Eff.mk (some (77, _)) []) [], Ro.mk _ (Eff.mk (some (78, _)) []) [], Ro.mk _ (Eff.mk (some (79, _)) []) [], Ro.mk _ (Eff.mk (some (80, _)) []) [], Ro.mk _ (Eff.mk (some (81, _)) []) [], Ro.mk _ (Eff.mk (some (82, _)) []) [], Ro.mk _ (Eff.mk (some (83, _)) []) [], Ro.mk _ (Eff.mk (some (84, _)) []) [], Ro.mk _ (Eff.mk (some (85, _)) []) [], Ro.mk _ (Eff.mk (some (86, _)) []) [], Ro.mk _ (Eff.mk (some (87, _)) []) [], Ro.mk _ (Eff.mk (some (88, _)) []) [], Ro.mk _ (Eff.mk (some (89, _)) []) [], Ro.mk _ (Eff.mk (some (90, _)) []) [], Ro.mk _ (Eff.mk (some (91, _)) []) [], Ro.mk _ (Eff.mk (some (92, _)) []) [], Ro.mk _ (Eff.mk (some (93, _)) []) [], Ro.mk _ (Eff.mk (some (94, _)) []) [], Ro.mk _ (Eff.mk (some (95, _)) []) [], Ro.mk _ (Eff.mk (some (96, _)) []) [], Ro.mk _ (Eff.mk (some (97, _)) []) [], Ro.mk _ (Eff.mk (some (98, _)) []) [], Ro.mk _ (Eff.mk (some (6, _)) []) []] rfl ⟨(fun _ _ => .ldpm (ds := hdv x.vl) rfl rfl rfl rfl rfl rfl tk25), (fun _ _ => .ldpm (ds := hdv x.vl) rfl rfl rfl rfl rfl rfl tk25), (fun _ _ => .eqht (a := x.vl) (b := x.vl) (rfl) rfl rfl rfl qh25), (fun _ _ => .move rfl rfl), (.inr ⟨74, _, rfl, rfl, rfl, rfl, fun _ _ => .move rfl rfl⟩), (.inr ⟨74, _, rfl, rfl, rfl, rfl, fun _ _ => .move rfl rfl⟩), (.inr ⟨74, _, rfl, rfl, rfl, rfl, fun _ _ => .eqb true rfl rfl rfl ub4 (by simp)⟩), (fun _ _ => .pick rfl rfl rfl), (fun _ _ => .move rfl rfl), (.inr ⟨79, _, rfl, rfl, rfl, rfl, fun _ _ => .move rfl rfl⟩), (.inr ⟨79, _, rfl, rfl, rfl, rfl, fun _ _ => .move rfl rfl⟩), (.inr ⟨79, _, rfl, rfl, rfl, rfl, fun _ _ => .eqb true rfl rfl rfl ub4 (by simp)⟩), (fun _ _ => .pick rfl rfl rfl), (fun _ _ => .move rfl rfl), (.inr ⟨84, _, rfl, rfl, rfl, rfl, fun _ _ => .ldem (ds := hdv value) rfl rfl rfl rfl rfl tk25⟩), (.inr ⟨84, _, rfl, rfl, rfl, rfl, fun _ _ => .move rfl rfl⟩), (.inr ⟨84, _, rfl, rfl, rfl, rfl, fun _ _ => .move rfl rfl⟩), (.inr ⟨84, _, rfl, rfl, rfl, rfl, fun _ _ => .idx (x) rfl rfl rfl rfl et32 it_len (Int.natCast_nonneg _) (hx ▸ get_nat hq)⟩), (.inr ⟨84, _, rfl, rfl, rfl, rfl, fun _ _ => .fielde rfl rfl rfl fo28_1⟩), (.inr ⟨84, _, rfl, rfl, rfl, rfl, fun _ _ => .ldem (ds := hdv x.vl) rfl rfl rfl rfl rfl tk25⟩), (.inr ⟨84, _, rfl, rfl, rfl, rfl, fun _ _ => .nehf (a := value) (b := x.vl) (by rw [hv]) rfl rfl rfl qh25⟩), (.inr ⟨84, _, rfl, rfl, rfl, rfl, fun _ _ => .move rfl rfl⟩), (.inr ⟨92, _, rfl, rfl, rfl, rfl, fun _ _ => .move rfl rfl⟩), (.inr ⟨92, _, rfl, rfl, rfl, rfl, fun _ _ => .move rfl rfl⟩), (.inr ⟨94, _, rfl, rfl, rfl, rfl, fun _ _ => .move rfl rfl⟩), (.inr ⟨92, _, rfl, rfl, rfl, rfl, fun _ _ => .pick rfl rfl rfl⟩), (.inr ⟨84, _, rfl, rfl, rfl, rfl, fun _ _ => .pick rfl rfl rfl⟩), (fun _ _ => .pick rfl rfl rfl), (fun _ _ => .assign rfl rfl), trivial⟩ (by kernel_rfl) ?_
     refine .next ?_
     refine .ret ?_
     exact TE.retf rfl rfl rfl (by first | trivial | exact pl_v _)
    ·skip
     obtain ⟨⟨v, b1, b2⟩, hc⟩ : ∃ c : H × Bool × Bool, checkV (rootH X) x.ix (revP (mkP x.ix X) value) = c := ⟨_, rfl⟩
     have cC : PC Try.prog 17 [.ag (hdv (rootH X)), .ag (hdv (x.ix)), .ag (Pf.dv ((revP (mkP x.ix X) value)))] (.tp [.ag (hdv (v)), .v (.bool b1), .v (.bool b2)]) := by have q := check_pc (rootH X) x.ix (revP (mkP x.ix X) value); rwa [hc] at q
     have cD : PC Try.prog 18 [.ag (hdv (rootH X)), .ag (hdv (x.ix)), .ag (Pf.dv ((revP (mkP x.ix X) value)))] (.tp [.ag (hdv (v)), .v (.bool b1), .v (.bool b2)]) := by have q := rcheck_pc (rootH X) x.ix (revP (mkP x.ix X) value); rwa [hc] at q
     refine .region ?_
     refine .step rfl (.ldem (ds := hdv value) rfl rfl rfl rfl rfl tk25) ?_
     refine .step rfl (.fieldp rfl rfl rfl rfl fo30_2) ?_
     refine .step rfl (.fieldp rfl rfl rfl rfl fo28_1) ?_
     refine .step rfl (.store rfl rfl rfl sz25 rfl rfl) ?_
     refine .nil ?_
     refine TE.obj 3 (.box 30 (Pf.dv (revP (mkP x.ix X) value))) rfl rfl ?_
     refine .next ?_
     refine .seq ?_
     refine .draw mixed [Ro.mk _ (Eff.mk (some (48, _)) []) [4], Ro.mk _ (Eff.mk (some (49, _)) []) [], Ro.mk _ (Eff.mk (some (50, _)) []) [], Ro.mk _ (Eff.mk (some (51, _)) []) [], Ro.mk _ (Eff.mk (some (52, _)) []) [], Ro.mk _ (Eff.mk (some (53, _)) []) [], Ro.mk _ (Eff.mk (some (54, _)) []) [3], Ro.mk _ (Eff.mk (some (55, _)) []) [], Ro.mk _ (Eff.mk (some (47, _)) []) [], Ro.mk _ (Eff.mk (some (56, _)) []) [], Ro.mk _ (Eff.mk (some (57, _)) []) [], Ro.mk _ (Eff.mk (some (58, _)) []) [], Ro.mk _ (Eff.mk (some (11, _)) [(7, _)]) [7], Ro.mk _ (Eff.mk none [(7, _)]) [7], Ro.mk _ (Eff.mk (some (12, _)) []) [], Ro.mk _ (Eff.mk (some (13, _)) []) []] rfl ⟨(fun _ _ => .ldpm (ds := hdv (rootH X)) rfl rfl rfl rfl rfl rfl tk25), (fun _ _ => .move rfl rfl), (fun _ _ => .move rfl rfl), (fun _ _ => .idx (x) rfl rfl rfl rfl et32 it_len (Int.natCast_nonneg _) (hx ▸ get_nat hq)), (fun _ _ => .fielde rfl rfl rfl fo28_0), (fun _ _ => .ldem (ds := hdv x.ix) rfl rfl rfl rfl rfl tk25), (fun _ _ => .ldpm (ds := Pf.dv (revP (mkP x.ix X) value)) rfl rfl rfl rfl rfl rfl tk30), (fun _ _ => .callc rfl cf17 rfl (cC)), (fun _ _ => .move rfl rfl), (fun _ _ => .extract rfl rfl rfl rfl), (fun _ _ => .extract rfl rfl rfl rfl), (fun _ _ => .extract rfl rfl rfl rfl), (fun _ _ => .alloc 7 rfl rfl zc25 rfl), (fun _ _ => .store rfl rfl rfl sz25 rfl rfl), (fun _ _ => .assign rfl rfl), (fun _ _ => .assign rfl rfl), trivial⟩ (by kernel_rfl) ?_
     refine TE.obj 7 (.box 25 (hdv v)) rfl rfl ?_
     refine .next ?_
     refine .seq ?_
     refine .draw mixed [Ro.mk _ (Eff.mk (some (60, _)) []) [4], Ro.mk _ (Eff.mk (some (61, _)) []) [], Ro.mk _ (Eff.mk (some (62, _)) []) [], Ro.mk _ (Eff.mk (some (63, _)) []) [], Ro.mk _ (Eff.mk (some (64, _)) []) [], Ro.mk _ (Eff.mk (some (65, _)) []) [], Ro.mk _ (Eff.mk (some (66, _)) []) [3], Ro.mk _ (Eff.mk (some (67, _)) []) [], Ro.mk _ (Eff.mk (some (59, _)) []) [], Ro.mk _ (Eff.mk (some (68, _)) []) [], Ro.mk _ (Eff.mk (some (69, _)) []) [], Ro.mk _ (Eff.mk (some (70, _)) []) [], Ro.mk _ (Eff.mk (some (14, _)) [(8, _)]) [8], Ro.mk _ (Eff.mk none [(8, _)]) [8], Ro.mk _ (Eff.mk (some (15, _)) []) [], Ro.mk _ (Eff.mk (some (16, _)) []) []] rfl ⟨(fun _ _ => .ldpm (ds := hdv (rootH X)) rfl rfl rfl rfl rfl rfl tk25), (fun _ _ => .move rfl rfl), (fun _ _ => .move rfl rfl), (fun _ _ => .idx (x) rfl rfl rfl rfl et32 it_len (Int.natCast_nonneg _) (hx ▸ get_nat hq)), (fun _ _ => .fielde rfl rfl rfl fo28_0), (fun _ _ => .ldem (ds := hdv x.ix) rfl rfl rfl rfl rfl tk25), (fun _ _ => .ldpm (ds := Pf.dv (revP (mkP x.ix X) value)) rfl rfl rfl rfl rfl rfl tk30), (fun _ _ => .callc rfl cf18 rfl (cD)), (fun _ _ => .move rfl rfl), (fun _ _ => .extract rfl rfl rfl rfl), (fun _ _ => .extract rfl rfl rfl rfl), (fun _ _ => .extract rfl rfl rfl rfl), (fun _ _ => .alloc 8 rfl rfl zc25 rfl), (fun _ _ => .store rfl rfl rfl sz25 rfl rfl), (fun _ _ => .assign rfl rfl), (fun _ _ => .assign rfl rfl), trivial⟩ (by kernel_rfl) ?_
     refine TE.obj 8 (.box 25 (hdv v)) rfl rfl ?_
     refine .next ?_
     refine .seq ?_
     refine .draw mixed [Ro.mk _ (Eff.mk (some (71, _)) []) [7], Ro.mk _ (Eff.mk (some (72, _)) []) [8], Ro.mk _ (Eff.mk (some (73, _)) []) [], Ro.mk _ (Eff.mk (some (74, _)) []) [], Ro.mk _ (Eff.mk (some (75, _)) []) [], Ro.mk _ (Eff.mk (some (76, _)) []) [], Ro.mk _ (Eff.mk (some (77, _)) []) [], Ro.mk _ (Eff.mk (some (78, _)) []) [], Ro.mk _ (Eff.mk (some (79, _)) []) [], Ro.mk _ (Eff.mk (some (80, _)) []) [], Ro.mk _ (Eff.mk (some (81, _)) []) [], Ro.mk _ (Eff.mk (some (82, _)) []) [], Ro.mk _ (Eff.mk (some (83, _)) []) [], Ro.mk _ (Eff.mk (some (84, _)) []) [], Ro.mk _ (Eff.mk (some (85, _)) []) [], Ro.mk _ (Eff.mk (some (86, _)) []) [], Ro.mk _ (Eff.mk (some (87, _)) []) [], Ro.mk _ (Eff.mk (some (88, _)) []) [], Ro.mk _ (Eff.mk (some (89, _)) []) [], Ro.mk _ (Eff.mk (some (90, _)) []) [], Ro.mk _ (Eff.mk (some (91, _)) []) [], Ro.mk _ (Eff.mk (some (92, _)) []) [], Ro.mk _ (Eff.mk (some (93, _)) []) [], Ro.mk _ (Eff.mk (some (94, _)) []) [], Ro.mk _ (Eff.mk (some (95, _)) []) [], Ro.mk _ (Eff.mk (some (96, _)) []) [], Ro.mk _ (Eff.mk (some (97, _)) []) [], Ro.mk _ (Eff.mk (some (98, _)) []) [], Ro.mk _ (Eff.mk (some (6, _)) []) []] rfl ⟨(fun _ _ => .ldpm (ds := hdv v) rfl rfl rfl rfl rfl rfl tk25), (fun _ _ => .ldpm (ds := hdv v) rfl rfl rfl rfl rfl rfl tk25), (fun _ _ => .eqht (a := v) (b := v) (rfl) rfl rfl rfl qh25), (fun _ _ => .move rfl rfl), (.inr ⟨74, _, rfl, rfl, rfl, rfl, fun _ _ => .move rfl rfl⟩), (.inr ⟨74, _, rfl, rfl, rfl, rfl, fun _ _ => .move rfl rfl⟩), (.inr ⟨74, _, rfl, rfl, rfl, rfl, fun _ _ => .eqb true rfl rfl rfl ub4 (by simp)⟩), (fun _ _ => .pick rfl rfl rfl), (fun _ _ => .move rfl rfl), (.inr ⟨79, _, rfl, rfl, rfl, rfl, fun _ _ => .move rfl rfl⟩), (.inr ⟨79, _, rfl, rfl, rfl, rfl, fun _ _ => .move rfl rfl⟩), (.inr ⟨79, _, rfl, rfl, rfl, rfl, fun _ _ => .eqb true rfl rfl rfl ub4 (by simp)⟩), (fun _ _ => .pick rfl rfl rfl), (fun _ _ => .move rfl rfl), (.inr ⟨84, _, rfl, rfl, rfl, rfl, fun _ _ => .ldem (ds := hdv value) rfl rfl rfl rfl rfl tk25⟩), (.inr ⟨84, _, rfl, rfl, rfl, rfl, fun _ _ => .move rfl rfl⟩), (.inr ⟨84, _, rfl, rfl, rfl, rfl, fun _ _ => .move rfl rfl⟩), (.inr ⟨84, _, rfl, rfl, rfl, rfl, fun _ _ => .idx (x) rfl rfl rfl rfl et32 it_len (Int.natCast_nonneg _) (hx ▸ get_nat hq)⟩), (.inr ⟨84, _, rfl, rfl, rfl, rfl, fun _ _ => .fielde rfl rfl rfl fo28_1⟩), (.inr ⟨84, _, rfl, rfl, rfl, rfl, fun _ _ => .ldem (ds := hdv x.vl) rfl rfl rfl rfl rfl tk25⟩), (.inr ⟨84, _, rfl, rfl, rfl, rfl, fun _ _ => .neht (a := value) (b := x.vl) (fun e => hv (H.l_inj e)) rfl rfl rfl qh25⟩), (.inr ⟨84, _, rfl, rfl, rfl, rfl, fun _ _ => .move rfl rfl⟩), (.inr ⟨92, _, rfl, rfl, rfl, rfl, 93, rfl, rfl, rfl⟩), (.inr ⟨92, _, rfl, rfl, rfl, rfl, 94, rfl, rfl, rfl⟩), (.inl ⟨94, _, rfl, rfl, rfl, rfl, rfl, rfl⟩), (.inr ⟨92, _, rfl, rfl, rfl, rfl, 96, rfl, rfl, rfl⟩), (.inr ⟨84, _, rfl, rfl, rfl, rfl, fun _ _ => .pick rfl rfl rfl⟩), (fun _ _ => .pick rfl rfl rfl), (fun _ _ => .assign rfl rfl), trivial⟩ (by kernel_rfl) ?_
     refine .next ?_
     refine .ret ?_
     exact TE.retf rfl rfl rfl (by first | trivial | exact pl_v _)
end Go.Proofs.Ytejhgijjegnmnaa

