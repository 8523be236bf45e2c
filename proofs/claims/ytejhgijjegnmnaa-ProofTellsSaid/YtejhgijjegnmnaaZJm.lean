/-
  ProofTells.
-/
import Derived.Test.YtejhgijjegnmnaaZJl
import Derived.Test.YtejhgijjegnmnaaZFn
namespace Go.Proofs.Ytejhgijjegnmnaa
set_option linter.unusedVariables false
set_option linter.unusedSimpArgs false
open Go.RowKit Pl
theorem ap39 : apt Try.prog 39 = some (30, 66, 96) := by kernel_rfl
theorem cf10 : cfn Try.prog 10 = true := by kernel_rfl
theorem cf11 : cfn Try.prog 11 = true := by kernel_rfl
theorem cf14 : cfn Try.prog 14 = true := by kernel_rfl
theorem cf15 : cfn Try.prog 15 = true := by kernel_rfl
theorem cf16 : cfn Try.prog 16 = true := by kernel_rfl
theorem cf18 : cfn Try.prog 18 = true := by kernel_rfl
theorem cf9 : cfn Try.prog 9 = true := by kernel_rfl
theorem et39 : elt Try.prog 39 = some (30, 66) := by kernel_rfl
theorem is39 : isSl Try.prog 39 = some true := by kernel_rfl
set_option maxRecDepth 100000 in
set_option maxHeartbeats 1600000 in
theorem proofTells_pf (l : List UInt16) (k : UInt16) (raw root : H) (p : Pf) (what a : UInt8) (w4 : -9223372036854775808 ≤ p.en ∧ p.en < 9223372036854775808) : PF Try.prog 3 [slT wdv 1 l, .v (.int .u16 k.toNat), .ag (hdv (raw)), .ag (hdv (root)), .ag p.dv, .v (.int .u8 what.toNat), .v (.int .u8 a.toNat)] (.v (.bool true)) := by
  refine PF.enter (fn := Try.f3) Try.func3 rfl Try.ntmps3 rfl (fun w0 => ?_)
  refine .seq ?_
  refine .region ?_
  refine .step rfl (.box 1 rfl rfl rfl rfl) ?_
  refine .step rfl (.box 2 rfl rfl rfl rfl) ?_
  refine .step rfl (.box 3 rfl rfl rfl rfl) ?_
  refine .step rfl (.assign rfl rfl) ?_
  refine .nil ?_
  refine TE.frzb 9 rfl rfl rfl rfl ?_
  refine TE.frzb 10 rfl rfl rfl rfl ?_
  refine TE.frzb 11 rfl rfl rfl rfl ?_
  refine .next ?_
  refine .seq ?_
  refine .seq ?_
  refine .region ?_
  refine .step rfl (.callf rfl cf9 rfl trivial (known_pf)) ?_
  refine .step rfl (.un rfl rfl rfl) ?_
  refine .nil ?_
  refine .next ?_
  refine .cond rfl (fun h1 => absurd h1 (by decide)) (fun h1 => ?_)
  refine .skip ?_
  refine .next ?_
  refine .seq ?_
  refine .seq ?_
  refine .region ?_
  refine .step rfl (.move rfl rfl) ?_
  refine .step rfl (.len rfl rfl ⟨_, _, rfl⟩ is22) ?_
  refine .step rfl (.bin rfl rfl rfl rfl) ?_
  refine .step rfl (.move rfl rfl) ?_
  refine .case 39 rfl (fun h2 => ?_) (fun h2 => ?_)
  ·skip
   have h30 : 30 < l.length := by have q := of_decide_eq_true h2; (try dsimp only at q); omega
   refine .no 39 rfl rfl rfl rfl rfl rfl rfl ?_
   refine .no 39 rfl rfl rfl rfl rfl rfl rfl ?_
   refine .no 39 rfl rfl rfl rfl rfl rfl rfl ?_
   refine .no 39 rfl rfl rfl rfl rfl rfl rfl ?_
   refine .step rfl (.pick rfl rfl rfl) ?_
   refine .nil ?_
   refine .next ?_
   refine .cond rfl (fun h3 => ?_) (fun h3 => absurd h3 (by decide))
   refine .seq ?_
   refine .region ?_
   refine .step rfl (.assign rfl rfl) ?_
   refine .nil ?_
   refine .next ?_
   refine .ret ?_
   exact TE.retf rfl rfl rfl trivial
  ·skip
   have h30 : ¬ (30 < l.length) := by have q := of_decide_eq_false h2; (try dsimp only at q); omega
   refine .go 39 rfl rfl rfl rfl (.fielde rfl rfl rfl fo30_0) ?_
   refine .go 39 rfl rfl rfl rfl (.lde rfl rfl rfl rfl tk26) ?_
   refine .go 39 rfl rfl rfl rfl (.len rfl rfl ⟨_, _, rfl⟩ is26) ?_
   refine .go 39 rfl rfl rfl rfl (.bin rfl rfl rfl rfl) ?_
   refine .step rfl (.pick rfl rfl rfl) ?_
   refine .nil ?_
   refine .next ?_
   refine .cond rfl (fun h4 => ?_) (fun h4 => ?_)
   ·skip
    skip
    refine .seq ?_
    refine .region ?_
    refine .step rfl (.assign rfl rfl) ?_
    refine .nil ?_
    refine .next ?_
    refine .ret ?_
    exact TE.retf rfl rfl rfl trivial
   ·skip
    have h20 : ¬ (20 < p.path.length) := by have q := of_decide_eq_false h4; (try dsimp only at q); omega
    refine .skip ?_
    refine .next ?_
    refine .seq ?_
    refine .region ?_
    refine .step rfl (.move rfl rfl) ?_
    refine .step rfl (.callo 4 rfl rfl cf10 rfl ⟨trivial, trivial⟩ (items_po l (by omega))) ?_
    refine .step rfl (.assign rfl rfl) ?_
    refine .nil ?_
    refine TE.frz 15 (slT It.dv 64 (l.map seatI)) rfl rfl (it_flat _) rfl ?_
    obtain ⟨x, hx⟩ : ∃ x, x = l.map seatI := ⟨_, rfl⟩
    rw [← hx]
    have hxl : x.length = l.length := by rw [hx, List.length_map]
    refine .next ?_
    refine .seq ?_
    refine .region ?_
    refine .step rfl (.move rfl rfl) ?_
    refine .step rfl (.move rfl rfl) ?_
    refine .step rfl (.ldem (ds := hdv raw) rfl rfl rfl rfl rfl tk25) ?_
    refine .step rfl (.callf rfl cf11 rfl ⟨trivial, trivial, trivial, trivial⟩ (index_pf x k raw (by omega))) ?_
    refine .step rfl (.alloc 5 rfl rfl zc25 rfl) ?_
    refine .step rfl (.store rfl rfl rfl sz25 rfl rfl) ?_
    refine .nil ?_
    refine TE.obj 5 (.box 25 (hdv (indexV x k raw))) rfl rfl ?_
    obtain ⟨ix, hix⟩ : ∃ ix, ix = indexV x k raw := ⟨_, rfl⟩
    rw [← hix]
    refine .next ?_
    refine .seq ?_
    refine .region ?_
    refine .step rfl (.move rfl rfl) ?_
    refine .step rfl (.ldpm (ds := hdv ix) rfl rfl rfl rfl rfl rfl tk25) ?_
    refine .step rfl (.callc rfl cf12 rfl (make_pc x ix (by omega))) ?_
    refine .step rfl (.alloc 6 rfl rfl zc30 rfl) ?_
    refine .step rfl (.store rfl rfl rfl sz30 rfl rfl) ?_
    refine .nil ?_
    refine TE.obj 6 (.box 30 (Pf.dv (mkP ix (setR x [])))) rfl rfl ?_
    have hms := mkP_short ix x
    have cRM : PC Try.prog 14 [slT It.dv 64 (x), .ag (hdv (ix))] (.ag (Pf.dv (mkP ix (setR x [])))) := rmake_pc x ix (by omega)
    obtain ⟨v, hck, hv0⟩ := check_made' ix x
    generalize mkP ix (setR x []) = m at *
    refine .next ?_
    refine .seq ?_
    refine .seq ?_
    refine .draw mixed [Ro.mk _ (Eff.mk (some (54, _)) []) [6], Ro.mk _ (Eff.mk (some (55, _)) []) [], Ro.mk _ (Eff.mk (some (56, _)) []) [5], Ro.mk _ (Eff.mk (some (57, _)) []) [], Ro.mk _ (Eff.mk (some (58, _)) []) [], Ro.mk _ (Eff.mk (some (59, _)) []) []] rfl ⟨(fun _ _ => .ldpm (ds := Pf.dv m) rfl rfl rfl rfl rfl rfl tk30), (fun _ _ => .move rfl rfl), (fun _ _ => .ldpm (ds := hdv ix) rfl rfl rfl rfl rfl rfl tk25), (fun _ _ => .callc rfl cf14 rfl (cRM)), (fun _ _ => .callf rfl cf13 rfl ⟨trivial, trivial, trivial⟩ (samep_pf m (by omega))), (fun _ _ => .un rfl rfl rfl), trivial⟩ (by kernel_rfl) ?_
    refine .next ?_
    refine .cond rfl (fun h5 => absurd h5 (by decide)) (fun h5 => ?_)
    refine .skip ?_
    refine .next ?_
    refine .seq ?_
    refine .region ?_
    refine .step rfl (.move rfl rfl) ?_
    refine .step rfl (.callf rfl cf15 rfl ⟨trivial, trivial⟩ (rroot_all x (by omega))) ?_
    refine .step rfl (.alloc 7 rfl rfl zc25 rfl) ?_
    refine .step rfl (.store rfl rfl rfl sz25 rfl rfl) ?_
    refine .nil ?_
    refine TE.obj 7 (.box 25 (hdv (rootH x))) rfl rfl ?_
    refine .next ?_
    refine .seq ?_
    refine .seq ?_
    refine .draw mixed [Ro.mk _ (Eff.mk (some (62, _)) []) [6], Ro.mk _ (Eff.mk (some (63, _)) []) [], Ro.mk _ (Eff.mk (some (64, _)) []) [6], Ro.mk _ (Eff.mk (some (65, _)) []) [], Ro.mk _ (Eff.mk (some (66, _)) []) [], Ro.mk _ (Eff.mk (some (67, _)) []) [], Ro.mk _ (Eff.mk (some (68, _)) []) [], Ro.mk _ (Eff.mk (some (69, _)) [(8, _)]) [8], Ro.mk _ (Eff.mk (some (70, _)) []) [8], Ro.mk _ (Eff.mk (some (71, _)) []) []] rfl ⟨(fun _ _ => .ldpm (ds := Pf.dv m) rfl rfl rfl rfl rfl rfl tk30), (fun _ _ => .ldem (ds := p.dv) rfl rfl rfl rfl rfl tk30), (fun _ _ => .ldpm (ds := Pf.dv m) rfl rfl rfl rfl rfl rfl tk30), (fun _ _ => .move rfl rfl), (fun _ _ => .move rfl rfl), (fun _ _ => .ldem (ds := hdv raw) rfl rfl rfl rfl rfl tk25), (fun _ _ => .callc rfl cf16 rfl (bent_pc m what a raw (by omega))), (fun _ _ => .buildsl 8 rfl rfl rfl ap39 zc30 rfl rfl rfl), (fun _ _ => .leno rfl rfl rfl is39), (fun _ _ => .move rfl rfl), trivial⟩ (by kernel_rfl) ?_
    refine TE.frz 69 (slT Pf.dv 66 [m, p, bentV m what a raw]) rfl rfl rfl rfl ?_
    obtain ⟨Q, hQ⟩ : ∃ Q, Q = [m, p, bentV m what a raw] := ⟨_, rfl⟩
    rw [← hQ]
    have hQl : Q.length = 3 := by rw [hQ]; rfl
    refine TE.setv 70 (.int .i64 ((Q.length : Nat) : Int)) rfl (by rw [hQl]) ?_
    refine TE.setv 71 (.int .i64 ((0 : Nat) : Int)) rfl (congrArg _ (by first | rfl | (dsimp only; first | done | rfl | omega))) ?_
    refine .next ?_
    refine .block ?_
    refine TC.loop (S := Nat) (fun j => j ≤ Q.length) (fun j => Q.length - j) (fun j => [(10, .d (.el (hdv root))), (15, .d (slT It.dv 64 (x))), (16, .ptr 5 0), (17, .ptr 6 0), (18, .ptr 7 0), (69, .d (slT Pf.dv 66 Q)), (70, .d (.v (.int .i64 ((Q.length : Nat) : Int)))), (71, .d (.v (.int .i64 ((j : Nat) : Int))))]) (fun j => [(1, .dead), (2, .dead), (3, .dead), (4, .dead), (5, .box 25 (hdv (ix))), (6, .box 30 (Pf.dv m)), (7, .box 25 (hdv (rootH x))), (8, .dead)]) (0) (Nat.zero_le _) ⟨⟨rfl, rfl⟩, ⟨rfl, rfl⟩, ⟨rfl, rfl⟩, ⟨rfl, rfl⟩, ⟨rfl, rfl⟩, ⟨rfl, rfl⟩, ⟨rfl, rfl⟩, ⟨rfl, rfl⟩, trivial⟩ ⟨.inl rfl, .inl rfl, .inl rfl, .inl rfl, .inr rfl, .inr rfl, .inr rfl, .inl rfl, trivial⟩ (fun j hI => ?_)
    refine .seq ?_
    refine .region ?_
    refine .step rfl (.bin rfl rfl rfl rfl) ?_
    refine .nil ?_
    refine .next ?_
    refine .seq ?_
    refine .cond rfl (fun h6 => ?_) (fun h6 => ?_)
    ·skip
     have hj : j < Q.length := by have q := of_decide_eq_true h6; (try dsimp only at q); omega
     obtain ⟨q, hq⟩ : ∃ q, Q[j] = q := ⟨_, rfl⟩
     refine .skip ?_
     refine .next ?_
     refine .seq ?_
     refine .block ?_
     refine .seq ?_
     refine .region ?_
     refine .step rfl (.idx (q) rfl rfl rfl rfl et39 (fun _ => rfl) (Int.natCast_nonneg _) (hq ▸ get_nat hj)) ?_
     refine .step rfl (.ldem (ds := q.dv) rfl rfl rfl rfl rfl tk30) ?_
     refine .step rfl (.alloc 9 rfl rfl zc30 rfl) ?_
     refine .step rfl (.store rfl rfl rfl sz30 rfl rfl) ?_
     refine .nil ?_
     refine TE.obj 9 (.box 30 (Pf.dv q)) rfl rfl ?_
     refine .next ?_
     refine .seq ?_
     refine .seq ?_
     refine .region ?_
     refine .step rfl (.ldpm (ds := hdv (rootH x)) rfl rfl rfl rfl rfl rfl tk25) ?_
     refine .step rfl (.ldem (ds := hdv root) rfl rfl rfl rfl rfl tk25) ?_
     refine .step rfl (.buildsl 10 rfl rfl rfl ap26 zc25 rfl rfl rfl) ?_
     refine .step rfl (.leno rfl rfl rfl is26) ?_
     refine .step rfl (.move rfl rfl) ?_
     refine .nil ?_
     refine TE.frz 77 (slT hdv 32 [rootH x, root]) rfl rfl rfl rfl ?_
     obtain ⟨R, hR⟩ : ∃ R, R = [rootH x, root] := ⟨_, rfl⟩
     rw [← hR]
     have hRl : R.length = 2 := by rw [hR]; rfl
     refine TE.setv 78 (.int .i64 ((R.length : Nat) : Int)) rfl (by rw [hRl]) ?_
     refine TE.setv 79 (.int .i64 ((0 : Nat) : Int)) rfl (congrArg _ (by first | rfl | (dsimp only; first | done | rfl | omega))) ?_
     refine .next ?_
     refine .block ?_
     refine TC.loop (S := Nat) (fun h => h ≤ R.length) (fun h => R.length - h) (fun h => [(10, .d (.el (hdv root))), (15, .d (slT It.dv 64 (x))), (16, .ptr 5 0), (17, .ptr 6 0), (18, .ptr 7 0), (20, .ptr 9 0), (69, .d (slT Pf.dv 66 Q)), (70, .d (.v (.int .i64 ((Q.length : Nat) : Int)))), (71, .d (.v (.int .i64 ((j : Nat) : Int)))), (77, .d (slT hdv 32 R)), (78, .d (.v (.int .i64 ((R.length : Nat) : Int)))), (79, .d (.v (.int .i64 ((h : Nat) : Int))))]) (fun h => [(1, .dead), (2, .dead), (3, .dead), (4, .dead), (5, .box 25 (hdv (ix))), (6, .box 30 (Pf.dv m)), (7, .box 25 (hdv (rootH x))), (8, .dead), (9, .box 30 (Pf.dv q)), (10, .dead)]) (0) (Nat.zero_le _) ⟨⟨rfl, rfl⟩, ⟨rfl, rfl⟩, ⟨rfl, rfl⟩, ⟨rfl, rfl⟩, ⟨rfl, rfl⟩, ⟨rfl, rfl⟩, ⟨rfl, rfl⟩, ⟨rfl, rfl⟩, ⟨rfl, rfl⟩, ⟨rfl, rfl⟩, ⟨rfl, rfl⟩, ⟨rfl, rfl⟩, trivial⟩ ⟨.inl rfl, .inl rfl, .inl rfl, .inl rfl, .inr rfl, .inr rfl, .inr rfl, .inl rfl, .inr rfl, .inl rfl, trivial⟩ (fun h hI => ?_)
     refine .seq ?_
     refine .region ?_
     refine .step rfl (.bin rfl rfl rfl rfl) ?_
     refine .nil ?_
     refine .next ?_
     refine .seq ?_
     refine .cond rfl (fun h7 => ?_) (fun h7 => ?_)
     ·skip
      have hh : h < R.length := by have q := of_decide_eq_true h7; (try dsimp only at q); omega
      obtain ⟨y, hy⟩ : ∃ y, R[h] = y := ⟨_, rfl⟩
      refine .skip ?_
      refine .next ?_
      refine .seq ?_
      refine .block ?_
      refine .seq ?_
      refine .region ?_
      refine .step rfl (.idx (y) rfl rfl rfl rfl et26 (fun _ => rfl) (Int.natCast_nonneg _) (hy ▸ get_nat hh)) ?_
      refine .step rfl (.ldem (ds := hdv y) rfl rfl rfl rfl rfl tk25) ?_
      refine .step rfl (.alloc 11 rfl rfl zc25 rfl) ?_
      refine .step rfl (.store rfl rfl rfl sz25 rfl rfl) ?_
      refine .nil ?_
      refine TE.obj 11 (.box 25 (hdv y)) rfl rfl ?_
      refine .next ?_
      refine .seq ?_
      refine .region ?_
      refine .step rfl (.ldpm (ds := hdv y) rfl rfl rfl rfl rfl rfl tk25) ?_
      refine .step rfl (.ldpm (ds := hdv ix) rfl rfl rfl rfl rfl rfl tk25) ?_
      refine .step rfl (.ldpm (ds := Pf.dv q) rfl rfl rfl rfl rfl rfl tk30) ?_
      refine .step rfl (.callc rfl cf17 rfl (check_pc y ix q)) ?_
      refine .step rfl (.move rfl rfl) ?_
      refine .step rfl (.extract rfl rfl rfl rfl) ?_
      refine .step rfl (.extract rfl rfl rfl rfl) ?_
      refine .step rfl (.extract rfl rfl rfl rfl) ?_
      refine .step rfl (.alloc 12 rfl rfl zc25 rfl) ?_
      refine .step rfl (.store rfl rfl rfl sz25 rfl rfl) ?_
      refine .step rfl (.assign rfl rfl) ?_
      refine .step rfl (.assign rfl rfl) ?_
      refine .nil ?_
      refine TE.obj 12 (.box 25 (hdv (checkV y ix q).1)) rfl rfl ?_
      refine .next ?_
      refine .seq ?_
      refine .region ?_
      refine .step rfl (.ldpm (ds := hdv y) rfl rfl rfl rfl rfl rfl tk25) ?_
      refine .step rfl (.ldpm (ds := hdv ix) rfl rfl rfl rfl rfl rfl tk25) ?_
      refine .step rfl (.ldpm (ds := Pf.dv q) rfl rfl rfl rfl rfl rfl tk30) ?_
      refine .step rfl (.callc rfl cf18 rfl (rcheck_pc y ix q)) ?_
      refine .step rfl (.move rfl rfl) ?_
      refine .step rfl (.extract rfl rfl rfl rfl) ?_
      refine .step rfl (.extract rfl rfl rfl rfl) ?_
      refine .step rfl (.extract rfl rfl rfl rfl) ?_
      refine .step rfl (.alloc 13 rfl rfl zc25 rfl) ?_
      refine .step rfl (.store rfl rfl rfl sz25 rfl rfl) ?_
      refine .step rfl (.assign rfl rfl) ?_
      refine .step rfl (.assign rfl rfl) ?_
      refine .nil ?_
      refine TE.obj 13 (.box 25 (hdv (checkV y ix q).1)) rfl rfl ?_
      refine .next ?_
      refine .seq ?_
      refine .region ?_
      refine .step rfl (.ldpm (ds := hdv (checkV y ix q).1) rfl rfl rfl rfl rfl rfl tk25) ?_
      refine .step rfl (.ldpm (ds := hdv (checkV y ix q).1) rfl rfl rfl rfl rfl rfl tk25) ?_
      refine .step rfl (.nehf (a := (checkV y ix q).1) (b := (checkV y ix q).1) (rfl) rfl rfl rfl qh25) ?_
      refine .step rfl (.move rfl rfl) ?_
      refine .go 102 rfl rfl rfl rfl (.move rfl rfl) ?_
      refine .go 102 rfl rfl rfl rfl (.move rfl rfl) ?_
      refine .go 102 rfl rfl rfl rfl (.neb false rfl rfl rfl ub4 (by simp)) ?_
      refine .step rfl (.pick rfl rfl rfl) ?_
      refine .step rfl (.move rfl rfl) ?_
      refine .go 107 rfl rfl rfl rfl (.move rfl rfl) ?_
      refine .go 107 rfl rfl rfl rfl (.move rfl rfl) ?_
      refine .go 107 rfl rfl rfl rfl (.neb false rfl rfl rfl ub4 (by simp)) ?_
      refine .step rfl (.pick rfl rfl rfl) ?_
      refine .nil ?_
      refine .next ?_
      refine .cond rfl (fun h8 => absurd h8 (by decide)) (fun h8 => ?_)
      refine .skip ?_
      refine TE.blk ?_
      refine .next ?_
      refine .region ?_
      refine .step rfl (.binv (.int .i64 ((h + 1 : Nat) : Int)) rfl rfl rfl rfl (congrArg _ (by (try dsimp only); rw [IntKind.wrap_i64]; omega))) ?_
      refine .step rfl (.move rfl rfl) ?_
      refine .nil ?_
      refine TE.setv 79 (.int .i64 ((h + 1 : Nat) : Int)) rfl (congrArg _ (by first | rfl | (dsimp only; first | done | rfl | omega))) ?_
      exact TE.round id (fun _ _ e => e) (h + 1) (by omega) (by omega) ⟨⟨rfl, rfl⟩, ⟨rfl, rfl⟩, ⟨rfl, rfl⟩, ⟨rfl, rfl⟩, ⟨rfl, rfl⟩, ⟨rfl, rfl⟩, ⟨rfl, rfl⟩, ⟨rfl, rfl⟩, ⟨rfl, rfl⟩, ⟨rfl, rfl⟩, ⟨rfl, rfl⟩, ⟨rfl, rfl⟩, trivial⟩ ⟨.inl rfl, .inl rfl, .inl rfl, .inl rfl, .inr rfl, .inr rfl, .inr rfl, .inl rfl, .inr rfl, .inl rfl, trivial⟩
     ·skip
      skip
      refine .exit ?_
      refine TE.pass ?_
      refine TE.pass ?_
      refine TE.here ?_
      refine .next ?_
      refine .seq ?_
      refine .draw mixed [Ro.mk _ (Eff.mk (some (113, _)) []) [5], Ro.mk _ (Eff.mk (some (114, _)) []) [9], Ro.mk _ (Eff.mk (some (115, _)) []) [], Ro.mk _ (Eff.mk (some (116, _)) []) [5], Ro.mk _ (Eff.mk (some (117, _)) []) [9], Ro.mk _ (Eff.mk (some (118, _)) []) [], Ro.mk _ (Eff.mk (some (119, _)) []) []] rfl ⟨(fun _ _ => .ldpm (ds := hdv ix) rfl rfl rfl rfl rfl rfl tk25), (fun _ _ => .ldpm (ds := Pf.dv q) rfl rfl rfl rfl rfl rfl tk30), (fun _ _ => .callf rfl cf19 rfl ⟨trivial, trivial, trivial⟩ (pfright_pf ix q)), (fun _ _ => .ldpm (ds := hdv ix) rfl rfl rfl rfl rfl rfl tk25), (fun _ _ => .ldpm (ds := Pf.dv q) rfl rfl rfl rfl rfl rfl tk30), (fun _ _ => .callf rfl cf20 rfl ⟨trivial, trivial, trivial⟩ (pfrright_pf ix q)), (fun _ _ => .neb false rfl rfl rfl ub4 (by simp)), trivial⟩ (by kernel_rfl) ?_
      refine .next ?_
      refine .cond rfl (fun h9 => absurd h9 (by decide)) (fun h9 => ?_)
      refine .skip ?_
      refine TE.blk ?_
      refine .next ?_
      refine .region ?_
      refine .step rfl (.binv (.int .i64 ((j + 1 : Nat) : Int)) rfl rfl rfl rfl (congrArg _ (by (try dsimp only); rw [IntKind.wrap_i64]; omega))) ?_
      refine .step rfl (.move rfl rfl) ?_
      refine .nil ?_
      refine TE.setv 71 (.int .i64 ((j + 1 : Nat) : Int)) rfl (congrArg _ (by first | rfl | (dsimp only; first | done | rfl | omega))) ?_
      exact TE.round id (fun _ _ e => e) (j + 1) (by omega) (by omega) ⟨⟨rfl, rfl⟩, ⟨rfl, rfl⟩, ⟨rfl, rfl⟩, ⟨rfl, rfl⟩, ⟨rfl, rfl⟩, ⟨rfl, rfl⟩, ⟨rfl, rfl⟩, ⟨rfl, rfl⟩, trivial⟩ ⟨.inl rfl, .inl rfl, .inl rfl, .inl rfl, .inr rfl, .inr rfl, .inr rfl, .inl rfl, trivial⟩
    ·skip
     skip
     refine .exit ?_
     refine TE.pass ?_
     refine TE.pass ?_
     refine TE.here ?_
     refine .next ?_
     refine .seq ?_
     have cF : PC Try.prog 17 [.ag (hdv (rootH x)), .ag (hdv (ix)), .ag m.dv] (.tp [.ag (hdv (v)), .v (.bool (thereB ix x)), .v (.bool true)]) := by have q := check_pc (rootH x) ix m; rwa [hck] at q
     refine .region ?_
     refine .step rfl (.ldpm (ds := hdv (rootH x)) rfl rfl rfl rfl rfl rfl tk25) ?_
     refine .step rfl (.ldpm (ds := hdv ix) rfl rfl rfl rfl rfl rfl tk25) ?_
     refine .step rfl (.ldpm (ds := Pf.dv m) rfl rfl rfl rfl rfl rfl tk30) ?_
     refine .step rfl (.callc rfl cf17 rfl (cF)) ?_
     refine .step rfl (.move rfl rfl) ?_
     refine .step rfl (.extract rfl rfl rfl rfl) ?_
     refine .step rfl (.extract rfl rfl rfl rfl) ?_
     refine .step rfl (.extract rfl rfl rfl rfl) ?_
     refine .step rfl (.alloc 14 rfl rfl zc25 rfl) ?_
     refine .step rfl (.store rfl rfl rfl sz25 rfl rfl) ?_
     refine .step rfl (.assign rfl rfl) ?_
     refine .step rfl (.assign rfl rfl) ?_
     refine .nil ?_
     refine TE.obj 14 (.box 25 (hdv v)) rfl rfl ?_
     refine TE.setv 30 (.bool (thereB ix x)) rfl rfl ?_
     refine TE.setv 31 (.bool true) rfl rfl ?_
     refine .next ?_
     refine .seq ?_
     refine .region ?_
     refine .step rfl (.assign rfl rfl) ?_
     refine .nil ?_
     refine TE.setv 32 (.bool (thereB ix (x.take 0))) rfl rfl ?_
     refine .next ?_
     refine .seq ?_
     refine .seq ?_
     refine .region ?_
     refine .step rfl (.assign rfl rfl) ?_
     refine .nil ?_
     refine TE.setv 33 (.int .i64 ((0 : Nat) : Int)) rfl (congrArg _ (by first | rfl | (dsimp only; first | done | rfl | omega))) ?_
     refine .next ?_
     refine .block ?_
     refine TC.loop (S := Nat) (fun j => j ≤ x.length) (fun j => x.length - j) (fun j => [(15, .d (slT It.dv 64 (x))), (16, .ptr 5 0), (29, .ptr 14 0), (30, .d (.v (.bool (thereB ix x)))), (31, .d (.v (.bool true))), (32, .d (.v (.bool (thereB ix (x.take j))))), (33, .d (.v (.int .i64 ((j : Nat) : Int))))]) (fun j => [(1, .dead), (2, .dead), (3, .dead), (4, .dead), (5, .box 25 (hdv (ix))), (6, .dead), (7, .dead), (8, .dead), (14, .box 25 (hdv (v)))]) (0) (Nat.zero_le _) ⟨⟨rfl, rfl⟩, ⟨rfl, rfl⟩, ⟨rfl, rfl⟩, ⟨rfl, rfl⟩, ⟨rfl, rfl⟩, ⟨rfl, rfl⟩, ⟨rfl, rfl⟩, trivial⟩ ⟨.inl rfl, .inl rfl, .inl rfl, .inl rfl, .inr rfl, .inl rfl, .inl rfl, .inl rfl, .inr rfl, trivial⟩ (fun j hI => ?_)
     refine .seq ?_
     refine .seq ?_
     refine .region ?_
     refine .step rfl (.move rfl rfl) ?_
     refine .step rfl (.move rfl rfl) ?_
     refine .step rfl (.len rfl rfl ⟨_, _, rfl⟩ is32) ?_
     refine .step rfl (.bin rfl rfl rfl rfl) ?_
     refine .nil ?_
     refine .next ?_
     refine .cond rfl (fun h10 => ?_) (fun h10 => ?_)
     ·skip
      have hj : j < x.length := by have q := of_decide_eq_true h10; (try dsimp only at q); omega
      generalize hb : thereB ix (x.take j) = b
      refine .skip ?_
      refine .next ?_
      refine .seq ?_
      refine .block ?_
      cases b with
      | true =>
       refine .draw mixed [Ro.mk _ (Eff.mk (some (135, _)) []) [], Ro.mk _ (Eff.mk (some (136, _)) []) [], Ro.mk _ (Eff.mk (some (137, _)) []) [], Ro.mk _ (Eff.mk (some (138, _)) []) [], Ro.mk _ (Eff.mk (some (139, _)) []) [], Ro.mk _ (Eff.mk (some (140, _)) []) [], Ro.mk _ (Eff.mk (some (141, _)) []) [], Ro.mk _ (Eff.mk (some (142, _)) []) [], Ro.mk _ (Eff.mk (some (143, _)) []) [], Ro.mk _ (Eff.mk (some (144, _)) []) [], Ro.mk _ (Eff.mk (some (32, _)) []) []] rfl ⟨(fun _ _ => .move rfl rfl), (fun _ _ => .move rfl rfl), (.inr ⟨136, _, rfl, rfl, rfl, rfl, 137, rfl, rfl, rfl⟩), (.inr ⟨136, _, rfl, rfl, rfl, rfl, 138, rfl, rfl, rfl⟩), (.inr ⟨136, _, rfl, rfl, rfl, rfl, 139, rfl, rfl, rfl⟩), (.inr ⟨136, _, rfl, rfl, rfl, rfl, 140, rfl, rfl, rfl⟩), (.inr ⟨136, _, rfl, rfl, rfl, rfl, 141, rfl, rfl, rfl⟩), (.inr ⟨136, _, rfl, rfl, rfl, rfl, 142, rfl, rfl, rfl⟩), (.inr ⟨136, _, rfl, rfl, rfl, rfl, 143, rfl, rfl, rfl⟩), (fun _ _ => .pick rfl rfl rfl), (fun _ _ => .assign rfl rfl), trivial⟩ (by kernel_rfl) ?_
       refine TE.setv 32 (.bool (thereB ix (x.take (j + 1)))) rfl (by rw [there_snoc hj, hb]; rfl) ?_
       refine TE.blk ?_
       refine .next ?_
       refine .region ?_
       refine .step rfl (.move rfl rfl) ?_
       refine .step rfl (.binv (.int .i64 ((j + 1 : Nat) : Int)) rfl rfl rfl rfl (congrArg _ (by (try dsimp only); rw [IntKind.wrap_i64]; omega))) ?_
       refine .step rfl (.assign rfl rfl) ?_
       refine .nil ?_
       refine TE.setv 33 (.int .i64 ((j + 1 : Nat) : Int)) rfl (congrArg _ (by first | rfl | (dsimp only; first | done | rfl | omega))) ?_
       exact TE.round id (fun _ _ e => e) (j + 1) (by omega) (by omega) ⟨⟨rfl, rfl⟩, ⟨rfl, rfl⟩, ⟨rfl, rfl⟩, ⟨rfl, rfl⟩, ⟨rfl, rfl⟩, ⟨rfl, rfl⟩, ⟨rfl, rfl⟩, trivial⟩ ⟨.inl rfl, .inl rfl, .inl rfl, .inl rfl, .inr rfl, .inl rfl, .inl rfl, .inl rfl, .inr rfl, trivial⟩
      | false =>
       refine .draw mixed [Ro.mk _ (Eff.mk (some (135, _)) []) [], Ro.mk _ (Eff.mk (some (136, _)) []) [], Ro.mk _ (Eff.mk (some (137, _)) []) [], Ro.mk _ (Eff.mk (some (138, _)) []) [], Ro.mk _ (Eff.mk (some (139, _)) []) [], Ro.mk _ (Eff.mk (some (140, _)) []) [], Ro.mk _ (Eff.mk (some (141, _)) []) [], Ro.mk _ (Eff.mk (some (142, _)) []) [5], Ro.mk _ (Eff.mk (some (143, _)) []) [], Ro.mk _ (Eff.mk (some (144, _)) []) [], Ro.mk _ (Eff.mk (some (32, _)) []) []] rfl ⟨(fun _ _ => .move rfl rfl), (fun _ _ => .move rfl rfl), (.inr ⟨136, _, rfl, rfl, rfl, rfl, fun _ _ => .move rfl rfl⟩), (.inr ⟨136, _, rfl, rfl, rfl, rfl, fun _ _ => .move rfl rfl⟩), (.inr ⟨136, _, rfl, rfl, rfl, rfl, fun _ _ => .idx (x[j]) rfl rfl rfl rfl et32 it_len (Int.natCast_nonneg _) (get_nat hj)⟩), (.inr ⟨136, _, rfl, rfl, rfl, rfl, fun _ _ => .fielde rfl rfl rfl fo28_0⟩), (.inr ⟨136, _, rfl, rfl, rfl, rfl, fun _ _ => .ldem (ds := hdv x[j].ix) rfl rfl rfl rfl rfl tk25⟩), (.inr ⟨136, _, rfl, rfl, rfl, rfl, fun _ _ => .ldpm (ds := hdv ix) rfl rfl rfl rfl rfl rfl tk25⟩), (.inr ⟨136, _, rfl, rfl, rfl, rfl, fun _ _ => .eqh (a := x[j].ix) (b := ix) rfl rfl rfl qh25⟩), (fun _ _ => .pick rfl rfl rfl), (fun _ _ => .assign rfl rfl), trivial⟩ (by kernel_rfl) ?_
       refine TE.setv 32 (.bool (thereB ix (x.take (j + 1)))) rfl (by rw [there_snoc hj, hb]; rfl) ?_
       refine TE.blk ?_
       refine .next ?_
       refine .region ?_
       refine .step rfl (.move rfl rfl) ?_
       refine .step rfl (.binv (.int .i64 ((j + 1 : Nat) : Int)) rfl rfl rfl rfl (congrArg _ (by (try dsimp only); rw [IntKind.wrap_i64]; omega))) ?_
       refine .step rfl (.assign rfl rfl) ?_
       refine .nil ?_
       refine TE.setv 33 (.int .i64 ((j + 1 : Nat) : Int)) rfl (congrArg _ (by first | rfl | (dsimp only; first | done | rfl | omega))) ?_
       exact TE.round id (fun _ _ e => e) (j + 1) (by omega) (by omega) ⟨⟨rfl, rfl⟩, ⟨rfl, rfl⟩, ⟨rfl, rfl⟩, ⟨rfl, rfl⟩, ⟨rfl, rfl⟩, ⟨rfl, rfl⟩, ⟨rfl, rfl⟩, trivial⟩ ⟨.inl rfl, .inl rfl, .inl rfl, .inl rfl, .inr rfl, .inl rfl, .inl rfl, .inl rfl, .inr rfl, trivial⟩
     ·skip
      have hj : ¬ (j < x.length) := by have q := of_decide_eq_false h10; (try dsimp only at q); omega
      have e : j = x.length := by have : j ≤ x.length := hI; omega
      subst e
      rw [List.take_length]
      refine .exit ?_
      refine TE.pass ?_
      refine TE.pass ?_
      refine TE.here ?_
      refine .next ?_
      refine .seq ?_
      refine .region ?_
      refine .step rfl (.move rfl rfl) ?_
      refine .step rfl (.move rfl rfl) ?_
      refine .go 146 rfl rfl rfl rfl (.move rfl rfl) ?_
      refine .go 146 rfl rfl rfl rfl (.move rfl rfl) ?_
      refine .go 146 rfl rfl rfl rfl (.eqb true rfl rfl rfl ub4 (by simp)) ?_
      refine .step rfl (.pick rfl rfl rfl) ?_
      refine .step rfl (.move rfl rfl) ?_
      refine .go 151 rfl rfl rfl rfl (.move rfl rfl) ?_
      refine .asf 152 rfl ?_
      refine .go 151 rfl rfl rfl rfl (.move rfl rfl) ?_
      refine .case 153 rfl (fun h12 => ?_) (fun h12 => ?_)
      ·skip
       have hb : thereB ix x = true := h12
       refine .no 153 rfl rfl rfl rfl rfl rfl rfl ?_
       refine .no 153 rfl rfl rfl rfl rfl rfl rfl ?_
       refine .no 153 rfl rfl rfl rfl rfl rfl rfl ?_
       refine .go 151 rfl rfl rfl rfl (.pick rfl rfl rfl) ?_
       refine .step rfl (.pick rfl rfl rfl) ?_
       refine .step rfl (.assign rfl rfl) ?_
       refine .nil ?_
       refine .next ?_
       refine .ret ?_
       exact TE.retf rfl rfl rfl trivial
      ·skip
       have hb : thereB ix x = false := h12
       have hz := hv0 hb
       refine .go 153 rfl rfl rfl rfl (.ldpm (ds := hdv v) rfl rfl rfl rfl rfl rfl tk25) ?_
       refine .go 153 rfl rfl rfl rfl (.build (ds := hdv zeroH) rfl rfl sp25 rfl rfl) ?_
       refine .go 153 rfl rfl rfl rfl (.eqht (a := v) (b := zeroH) (by rw [hz]) rfl rfl rfl qh25) ?_
       refine .go 151 rfl rfl rfl rfl (.pick rfl rfl rfl) ?_
       refine .step rfl (.pick rfl rfl rfl) ?_
       refine .step rfl (.assign rfl rfl) ?_
       refine .nil ?_
       refine .next ?_
       refine .ret ?_
       exact TE.retf rfl rfl rfl trivial
end Go.Proofs.Ytejhgijjegnmnaa

