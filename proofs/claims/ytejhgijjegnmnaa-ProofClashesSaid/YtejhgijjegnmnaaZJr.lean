/-
  ProofClashes.
-/
import Derived.Test.YtejhgijjegnmnaaZJl
import Derived.Test.YtejhgijjegnmnaaZFq
namespace Go.Proofs.Ytejhgijjegnmnaa
set_option linter.unusedVariables false
set_option linter.unusedSimpArgs false
open Go.RowKit Pl
theorem ap60 : apt Try.prog 60 = some (59, 132, 192) := by kernel_rfl
theorem ar59 : arr Try.prog 59 = some (2, 66) := by kernel_rfl
theorem cf10 : cfn Try.prog 10 = true := by kernel_rfl
theorem cf11 : cfn Try.prog 11 = true := by kernel_rfl
theorem cf14 : cfn Try.prog 14 = true := by kernel_rfl
theorem cf16 : cfn Try.prog 16 = true := by kernel_rfl
theorem cf27 : cfn Try.prog 27 = true := by kernel_rfl
theorem cf28 : cfn Try.prog 28 = true := by kernel_rfl
theorem cf9 : cfn Try.prog 9 = true := by kernel_rfl
theorem et60 : elt Try.prog 60 = some (59, 132) := by kernel_rfl
theorem is60 : isSl Try.prog 60 = some true := by kernel_rfl
theorem sp59 : stp Try.prog 59 = some ([.slice none 0 0, .int .i64 0, .int .u8 0, .int .u8 0, .int .u8 0, .int .u8 0, .int .u8 0, .int .u8 0, .int .u8 0, .int .u8 0, .int .u8 0, .int .u8 0, .int .u8 0, .int .u8 0, .int .u8 0, .int .u8 0, .int .u8 0, .int .u8 0, .int .u8 0, .int .u8 0, .int .u8 0, .int .u8 0, .int .u8 0, .int .u8 0, .int .u8 0, .int .u8 0, .int .u8 0, .int .u8 0, .int .u8 0, .int .u8 0, .int .u8 0, .int .u8 0, .int .u8 0, .int .u8 0, .int .u8 0, .int .u8 0, .int .u8 0, .int .u8 0, .int .u8 0, .int .u8 0, .int .u8 0, .int .u8 0, .int .u8 0, .int .u8 0, .int .u8 0, .int .u8 0, .int .u8 0, .int .u8 0, .int .u8 0, .int .u8 0, .int .u8 0, .int .u8 0, .int .u8 0, .int .u8 0, .int .u8 0, .int .u8 0, .int .u8 0, .int .u8 0, .int .u8 0, .int .u8 0, .int .u8 0, .int .u8 0, .int .u8 0, .int .u8 0, .int .u8 0, .int .u8 0, .slice none 0 0, .int .i64 0, .int .u8 0, .int .u8 0, .int .u8 0, .int .u8 0, .int .u8 0, .int .u8 0, .int .u8 0, .int .u8 0, .int .u8 0, .int .u8 0, .int .u8 0, .int .u8 0, .int .u8 0, .int .u8 0, .int .u8 0, .int .u8 0, .int .u8 0, .int .u8 0, .int .u8 0, .int .u8 0, .int .u8 0, .int .u8 0, .int .u8 0, .int .u8 0, .int .u8 0, .int .u8 0, .int .u8 0, .int .u8 0, .int .u8 0, .int .u8 0, .int .u8 0, .int .u8 0, .int .u8 0, .int .u8 0, .int .u8 0, .int .u8 0, .int .u8 0, .int .u8 0, .int .u8 0, .int .u8 0, .int .u8 0, .int .u8 0, .int .u8 0, .int .u8 0, .int .u8 0, .int .u8 0, .int .u8 0, .int .u8 0, .int .u8 0, .int .u8 0, .int .u8 0, .int .u8 0, .int .u8 0, .int .u8 0, .int .u8 0, .int .u8 0, .int .u8 0, .int .u8 0, .int .u8 0, .int .u8 0, .int .u8 0, .int .u8 0, .int .u8 0, .int .u8 0], [(0, 66), (66, 66)]) := by kernel_rfl
theorem sz59 : szt Try.prog 59 = some 132 := by kernel_rfl
theorem tk59 : tyk Try.prog 59 = some (some 132) := by kernel_rfl
theorem zc59 : zc Try.prog 59 = some [.slice none 0 0, .int .i64 0, .int .u8 0, .int .u8 0, .int .u8 0, .int .u8 0, .int .u8 0, .int .u8 0, .int .u8 0, .int .u8 0, .int .u8 0, .int .u8 0, .int .u8 0, .int .u8 0, .int .u8 0, .int .u8 0, .int .u8 0, .int .u8 0, .int .u8 0, .int .u8 0, .int .u8 0, .int .u8 0, .int .u8 0, .int .u8 0, .int .u8 0, .int .u8 0, .int .u8 0, .int .u8 0, .int .u8 0, .int .u8 0, .int .u8 0, .int .u8 0, .int .u8 0, .int .u8 0, .int .u8 0, .int .u8 0, .int .u8 0, .int .u8 0, .int .u8 0, .int .u8 0, .int .u8 0, .int .u8 0, .int .u8 0, .int .u8 0, .int .u8 0, .int .u8 0, .int .u8 0, .int .u8 0, .int .u8 0, .int .u8 0, .int .u8 0, .int .u8 0, .int .u8 0, .int .u8 0, .int .u8 0, .int .u8 0, .int .u8 0, .int .u8 0, .int .u8 0, .int .u8 0, .int .u8 0, .int .u8 0, .int .u8 0, .int .u8 0, .int .u8 0, .int .u8 0, .slice none 0 0, .int .i64 0, .int .u8 0, .int .u8 0, .int .u8 0, .int .u8 0, .int .u8 0, .int .u8 0, .int .u8 0, .int .u8 0, .int .u8 0, .int .u8 0, .int .u8 0, .int .u8 0, .int .u8 0, .int .u8 0, .int .u8 0, .int .u8 0, .int .u8 0, .int .u8 0, .int .u8 0, .int .u8 0, .int .u8 0, .int .u8 0, .int .u8 0, .int .u8 0, .int .u8 0, .int .u8 0, .int .u8 0, .int .u8 0, .int .u8 0, .int .u8 0, .int .u8 0, .int .u8 0, .int .u8 0, .int .u8 0, .int .u8 0, .int .u8 0, .int .u8 0, .int .u8 0, .int .u8 0, .int .u8 0, .int .u8 0, .int .u8 0, .int .u8 0, .int .u8 0, .int .u8 0, .int .u8 0, .int .u8 0, .int .u8 0, .int .u8 0, .int .u8 0, .int .u8 0, .int .u8 0, .int .u8 0, .int .u8 0, .int .u8 0, .int .u8 0, .int .u8 0, .int .u8 0, .int .u8 0, .int .u8 0, .int .u8 0, .int .u8 0, .int .u8 0, .int .u8 0] := by kernel_rfl
set_option maxRecDepth 100000 in
set_option maxHeartbeats 1600000 in
theorem proofClashes_pf (l : List UInt16) (k : UInt16) (raw : H) (p q : Pf) (what a : UInt8) (w3 : -9223372036854775808 ≤ p.en ∧ p.en < 9223372036854775808) (w4 : -9223372036854775808 ≤ q.en ∧ q.en < 9223372036854775808) : PF Try.prog 8 [slT wdv 1 l, .v (.int .u16 k.toNat), .ag (hdv (raw)), .ag p.dv, .ag q.dv, .v (.int .u8 what.toNat), .v (.int .u8 a.toNat)] (.v (.bool true)) := by
  refine PF.enter (fn := Try.f8) Try.func8 rfl Try.ntmps8 rfl (fun w0 => ?_)
  refine .seq ?_
  refine .region ?_
  refine .step rfl (.box 1 rfl rfl rfl rfl) ?_
  refine .step rfl (.box 2 rfl rfl rfl rfl) ?_
  refine .step rfl (.box 3 rfl rfl rfl rfl) ?_
  refine .step rfl (.assign rfl rfl) ?_
  refine .nil ?_
  refine TE.frzb 9 rfl rfl rfl rfl ?_
  refine TE.frzb 10 rfl rfl rfl rfl ?_
  refine TE.frzb 11 rfl rfl rfl rfl ?_
  refine .next ?_
  refine .seq ?_
  refine .seq ?_
  refine .region ?_
  refine .step rfl (.callf rfl cf9 rfl trivial (known_pf)) ?_
  refine .step rfl (.un rfl rfl rfl) ?_
  refine .nil ?_
  refine .next ?_
  refine .cond rfl (fun h1 => absurd h1 (by decide)) (fun h1 => ?_)
  refine .skip ?_
  refine .next ?_
  refine .seq ?_
  refine .seq ?_
  refine .region ?_
  refine .step rfl (.move rfl rfl) ?_
  refine .step rfl (.len rfl rfl ⟨_, _, rfl⟩ is22) ?_
  refine .step rfl (.bin rfl rfl rfl rfl) ?_
  refine .step rfl (.move rfl rfl) ?_
  refine .case 31 rfl (fun h2 => ?_) (fun h2 => ?_)
  ·skip
   have h1 : 20 < l.length := by have q := of_decide_eq_true h2; (try dsimp only at q); omega
   refine .no 31 rfl rfl rfl rfl rfl rfl rfl ?_
   refine .no 31 rfl rfl rfl rfl rfl rfl rfl ?_
   refine .no 31 rfl rfl rfl rfl rfl rfl rfl ?_
   refine .no 31 rfl rfl rfl rfl rfl rfl rfl ?_
   refine .step rfl (.pick rfl rfl rfl) ?_
   refine .step rfl (.move rfl rfl) ?_
   refine .no 37 rfl rfl rfl rfl rfl rfl rfl ?_
   refine .no 37 rfl rfl rfl rfl rfl rfl rfl ?_
   refine .no 37 rfl rfl rfl rfl rfl rfl rfl ?_
   refine .no 37 rfl rfl rfl rfl rfl rfl rfl ?_
   refine .step rfl (.pick rfl rfl rfl) ?_
   refine .nil ?_
   refine .next ?_
   refine .cond rfl (fun h3 => ?_) (fun h3 => absurd h3 (by decide))
   refine .seq ?_
   refine .region ?_
   refine .step rfl (.assign rfl rfl) ?_
   refine .nil ?_
   refine .next ?_
   refine .ret ?_
   exact TE.retf rfl rfl rfl (by first | trivial | exact pl_v _)
  ·skip
   have h1 : ¬ (20 < l.length) := by have q := of_decide_eq_false h2; (try dsimp only at q); omega
   refine .go 31 rfl rfl rfl rfl (.fielde rfl rfl rfl fo30_0) ?_
   refine .go 31 rfl rfl rfl rfl (.lde rfl rfl rfl rfl tk26) ?_
   refine .go 31 rfl rfl rfl rfl (.len rfl rfl ⟨_, _, rfl⟩ is26) ?_
   refine .go 31 rfl rfl rfl rfl (.bin rfl rfl rfl rfl) ?_
   refine .step rfl (.pick rfl rfl rfl) ?_
   refine .step rfl (.move rfl rfl) ?_
   refine .case 37 rfl (fun h4 => ?_) (fun h4 => ?_)
   ·skip
    have h2 : 10 < p.path.length := by have q := of_decide_eq_true h4; (try dsimp only at q); omega
    refine .no 37 rfl rfl rfl rfl rfl rfl rfl ?_
    refine .no 37 rfl rfl rfl rfl rfl rfl rfl ?_
    refine .no 37 rfl rfl rfl rfl rfl rfl rfl ?_
    refine .no 37 rfl rfl rfl rfl rfl rfl rfl ?_
    refine .step rfl (.pick rfl rfl rfl) ?_
    refine .nil ?_
    refine .next ?_
    refine .cond rfl (fun h5 => ?_) (fun h5 => absurd h5 (by decide))
    refine .seq ?_
    refine .region ?_
    refine .step rfl (.assign rfl rfl) ?_
    refine .nil ?_
    refine .next ?_
    refine .ret ?_
    exact TE.retf rfl rfl rfl (by first | trivial | exact pl_v _)
   ·skip
    have h2 : ¬ (10 < p.path.length) := by have q := of_decide_eq_false h4; (try dsimp only at q); omega
    refine .go 37 rfl rfl rfl rfl (.fielde rfl rfl rfl fo30_0) ?_
    refine .go 37 rfl rfl rfl rfl (.lde rfl rfl rfl rfl tk26) ?_
    refine .go 37 rfl rfl rfl rfl (.len rfl rfl ⟨_, _, rfl⟩ is26) ?_
    refine .go 37 rfl rfl rfl rfl (.bin rfl rfl rfl rfl) ?_
    refine .step rfl (.pick rfl rfl rfl) ?_
    refine .nil ?_
    refine .next ?_
    refine .cond rfl (fun h6 => ?_) (fun h6 => ?_)
    ·skip
     skip
     refine .seq ?_
     refine .region ?_
     refine .step rfl (.assign rfl rfl) ?_
     refine .nil ?_
     refine .next ?_
     refine .ret ?_
     exact TE.retf rfl rfl rfl (by first | trivial | exact pl_v _)
    ·skip
     skip
     refine .skip ?_
     refine .next ?_
     refine .seq ?_
     refine .region ?_
     refine .step rfl (.move rfl rfl) ?_
     refine .step rfl (.callo 4 rfl rfl cf10 rfl ⟨trivial, trivial⟩ (items_po l (by omega))) ?_
     refine .step rfl (.assign rfl rfl) ?_
     refine .nil ?_
     refine TE.frz 15 (slT It.dv 64 (l.map seatI)) rfl rfl (it_flat _) rfl ?_
     obtain ⟨x, hx⟩ : ∃ x, x = l.map seatI := ⟨_, rfl⟩
     rw [← hx]
     have hxl : x.length = l.length := by rw [hx, List.length_map]
     refine .next ?_
     refine .seq ?_
     refine .region ?_
     refine .step rfl (.move rfl rfl) ?_
     refine .step rfl (.move rfl rfl) ?_
     refine .step rfl (.ldem (ds := hdv raw) rfl rfl rfl rfl rfl tk25) ?_
     refine .step rfl (.callf rfl cf11 rfl ⟨trivial, trivial, trivial, trivial⟩ (index_pf x k raw (by omega))) ?_
     refine .step rfl (.alloc 5 rfl rfl zc25 rfl) ?_
     refine .step rfl (.store rfl rfl rfl sz25 rfl rfl) ?_
     refine .nil ?_
     refine TE.obj 5 (.box 25 (hdv (indexV x k raw))) rfl rfl ?_
     obtain ⟨ix, hix⟩ : ∃ ix, ix = indexV x k raw := ⟨_, rfl⟩
     rw [← hix]
     refine .next ?_
     refine .seq ?_
     refine .region ?_
     refine .step rfl (.move rfl rfl) ?_
     refine .step rfl (.ldpm (ds := hdv ix) rfl rfl rfl rfl rfl rfl tk25) ?_
     refine .step rfl (.callc rfl cf14 rfl (rmake_pc x ix (by omega))) ?_
     refine .step rfl (.alloc 6 rfl rfl zc30 rfl) ?_
     refine .step rfl (.store rfl rfl rfl sz30 rfl rfl) ?_
     refine .nil ?_
     refine TE.obj 6 (.box 30 (Pf.dv (mkP ix (setR x [])))) rfl rfl ?_
     have hms := mkP_short ix x
     generalize mkP ix (setR x []) = m at *
     refine .next ?_
     refine .seq ?_
     refine .seq ?_
     refine .draw mixed [Ro.mk _ (Eff.mk (some (52, _)) []) [6], Ro.mk _ (Eff.mk (some (53, _)) []) [6], Ro.mk _ (Eff.mk (some (54, _)) []) [], Ro.mk _ (Eff.mk (some (55, _)) []) [], Ro.mk _ (Eff.mk (some (56, _)) []) [], Ro.mk _ (Eff.mk (some (57, _)) []) [], Ro.mk _ (Eff.mk (some (58, _)) []) [], Ro.mk _ (Eff.mk (some (59, _)) []) [], Ro.mk _ (Eff.mk (some (60, _)) []) [], Ro.mk _ (Eff.mk (some (61, _)) []) [], Ro.mk _ (Eff.mk (some (62, _)) []) [6], Ro.mk _ (Eff.mk (some (63, _)) []) [], Ro.mk _ (Eff.mk (some (64, _)) []) [], Ro.mk _ (Eff.mk (some (65, _)) []) [6], Ro.mk _ (Eff.mk (some (66, _)) []) [6], Ro.mk _ (Eff.mk (some (67, _)) []) [], Ro.mk _ (Eff.mk (some (68, _)) []) [6], Ro.mk _ (Eff.mk (some (69, _)) []) [], Ro.mk _ (Eff.mk (some (70, _)) []) [], Ro.mk _ (Eff.mk (some (71, _)) []) [], Ro.mk _ (Eff.mk (some (72, _)) []) [], Ro.mk _ (Eff.mk (some (73, _)) []) [6], Ro.mk _ (Eff.mk (some (74, _)) []) [], Ro.mk _ (Eff.mk (some (75, _)) []) [], Ro.mk _ (Eff.mk (some (76, _)) []) [], Ro.mk _ (Eff.mk (some (77, _)) []) [], Ro.mk _ (Eff.mk (some (78, _)) []) [], Ro.mk _ (Eff.mk (some (79, _)) [(7, _)]) [7], Ro.mk _ (Eff.mk (some (80, _)) []) [7], Ro.mk _ (Eff.mk (some (81, _)) []) []] rfl ⟨(fun _ _ => .ldpm (ds := Pf.dv m) rfl rfl rfl rfl rfl rfl tk30), (fun _ _ => .ldpm (ds := Pf.dv m) rfl rfl rfl rfl rfl rfl tk30), (fun _ _ => .move rfl rfl), (fun _ _ => .move rfl rfl), (fun _ _ => .ldem (ds := hdv raw) rfl rfl rfl rfl rfl tk25), (fun _ _ => .callc rfl cf16 rfl (bent_pc m what a raw (by omega))), (fun _ _ => .build (ds := ppdv (m, (bentV m what a raw))) rfl rfl sp59 rfl rfl), (fun _ _ => .ldem (ds := p.dv) rfl rfl rfl rfl rfl tk30), (fun _ _ => .ldem (ds := q.dv) rfl rfl rfl rfl rfl tk30), (fun _ _ => .build (ds := ppdv (p, q)) rfl rfl sp59 rfl rfl), (fun _ _ => .ldpm (ds := Pf.dv m) rfl rfl rfl rfl rfl rfl tk30), (fun _ _ => .ldem (ds := p.dv) rfl rfl rfl rfl rfl tk30), (fun _ _ => .build (ds := ppdv (m, p)) rfl rfl sp59 rfl rfl), (fun _ _ => .ldpm (ds := Pf.dv m) rfl rfl rfl rfl rfl rfl tk30), (fun _ _ => .ldpm (ds := Pf.dv m) rfl rfl rfl rfl rfl rfl tk30), (fun _ _ => .build (ds := ppdv (m, m)) rfl rfl sp59 rfl rfl), (fun _ _ => .ldpm (ds := Pf.dv m) rfl rfl rfl rfl rfl rfl tk30), (fun _ _ => .move rfl rfl), (fun _ _ => .move rfl rfl), (fun _ _ => .ldem (ds := hdv raw) rfl rfl rfl rfl rfl tk25), (fun _ _ => .callc rfl cf16 rfl (bent_pc m what a raw (by omega))), (fun _ _ => .ldpm (ds := Pf.dv m) rfl rfl rfl rfl rfl rfl tk30), (fun _ _ => .move rfl rfl), (fun _ _ => .move rfl rfl), (fun _ _ => .ldem (ds := hdv raw) rfl rfl rfl rfl rfl tk25), (fun _ _ => .callc rfl cf16 rfl (bent_pc m a what raw (by omega))), (fun _ _ => .build (ds := ppdv ((bentV m what a raw), (bentV m a what raw))) rfl rfl sp59 rfl rfl), (fun _ _ => .buildslE (enc := ppdv) ([(m, (bentV m what a raw)), (p, q), (m, p), (m, m), ((bentV m what a raw), (bentV m a what raw))]) (fun y => .ag (ppdv y)) 7 rfl rfl rfl ap60 zc59 rfl rfl rfl (fun _ => rfl) (fun _ => rfl) pp_one), (fun _ _ => .leno rfl rfl rfl is60), (fun _ _ => .move rfl rfl), trivial⟩ (by kernel_rfl) ?_
     refine TE.frz 79 (slT ppdv 132 [(m, (bentV m what a raw)), (p, q), (m, p), (m, m), ((bentV m what a raw), (bentV m a what raw))]) rfl rfl rfl rfl ?_
     obtain ⟨Y, hY⟩ : ∃ Y, Y = [(m, (bentV m what a raw)), (p, q), (m, p), (m, m), ((bentV m what a raw), (bentV m a what raw))] := ⟨_, rfl⟩
     rw [← hY]
     have hYl : Y.length = 5 := by rw [hY]; rfl
     refine TE.setv 80 (.int .i64 ((Y.length : Nat) : Int)) rfl (by rw [hYl]) ?_
     refine TE.setv 81 (.int .i64 ((0 : Nat) : Int)) rfl (congrArg _ (by first | rfl | (dsimp only; first | done | rfl | omega))) ?_
     refine .next ?_
     refine .block ?_
     refine TC.loop (S := Nat) (fun j => j ≤ Y.length) (fun j => Y.length - j) (fun j => [(16, .ptr 5 0), (79, .d (slT ppdv 132 Y)), (80, .d (.v (.int .i64 ((Y.length : Nat) : Int)))), (81, .d (.v (.int .i64 ((j : Nat) : Int))))]) (fun j => [(1, .dead), (2, .dead), (3, .dead), (4, .dead), (5, .box 25 (hdv (ix))), (6, .dead), (7, .dead)]) (0) (Nat.zero_le _) ⟨⟨rfl, rfl⟩, ⟨rfl, rfl⟩, ⟨rfl, rfl⟩, ⟨rfl, rfl⟩, trivial⟩ ⟨.inl rfl, .inl rfl, .inl rfl, .inl rfl, .inr rfl, .inl rfl, .inl rfl, trivial⟩ (fun j hI => ?_)
     refine .seq ?_
     refine .region ?_
     refine .step rfl (.bin rfl rfl rfl rfl) ?_
     refine .nil ?_
     refine .next ?_
     refine .seq ?_
     refine .cond rfl (fun h7 => ?_) (fun h7 => ?_)
     ·skip
      have hj : j < Y.length := by have q := of_decide_eq_true h7; (try dsimp only at q); omega
      obtain ⟨y, hy⟩ : ∃ y, Y[j] = y := ⟨_, rfl⟩
      obtain ⟨⟨A, B, ok⟩, hcl⟩ : ∃ c, clashF ix y.1 y.2 = c := ⟨_, rfl⟩
      have cA : PC Try.prog 27 [.ag (hdv (ix)), .ag y.1.dv, .ag y.2.dv] (.tp [slT bdv 1 A, slT bdv 1 B, .v (.bool ok)]) := by have z := clash_pc ix y.1 y.2; rwa [hcl] at z
      have cB : PC Try.prog 28 [.ag (hdv (ix)), .ag y.1.dv, .ag y.2.dv] (.tp [slT bdv 1 A, slT bdv 1 B, .v (.bool ok)]) := by have z := rclash_pc ix y.1 y.2; rwa [hcl] at z
      have hlen := clash_len ix y.1 y.2
      rw [hcl] at hlen
      have hct : ok = true → ¬ A = B ∧ H.l (sumH A) = H.l (sumH B) := fun h => by have z := clash_tells (ix := ix) (p := y.1) (q := y.2) (by rw [hcl]; exact h); rwa [hcl] at z
      refine .skip ?_
      refine .next ?_
      refine .seq ?_
      refine .block ?_
      refine .seq ?_
      refine .region ?_
      refine .step rfl (.idx (y) rfl rfl rfl rfl et60 (fun _ => rfl) (Int.natCast_nonneg _) (hy ▸ get_nat hj)) ?_
      refine .step rfl (.ldem (ds := ppdv y) rfl rfl rfl rfl rfl tk59) ?_
      refine .step rfl (.alloc 8 rfl rfl zc59 rfl) ?_
      refine .step rfl (.store rfl rfl rfl sz59 rfl rfl) ?_
      refine .nil ?_
      refine TE.obj 8 (.box 59 (ppdv y)) rfl rfl ?_
      refine .next ?_
      refine .seq ?_
      refine .region ?_
      refine .step rfl (.ldpm (ds := hdv ix) rfl rfl rfl rfl rfl rfl tk25) ?_
      refine .step rfl (.idxp rfl rfl rfl rfl rfl ar59 (by decide) (by decide)) ?_
      refine .step rfl (.ldpm (ds := y.1.dv) rfl rfl rfl rfl rfl rfl tk30) ?_
      refine .step rfl (.idxp rfl rfl rfl rfl rfl ar59 (by decide) (by decide)) ?_
      refine .step rfl (.ldpm (ds := y.2.dv) rfl rfl rfl rfl rfl rfl tk30) ?_
      refine .step rfl (.callc rfl cf27 rfl (cA)) ?_
      refine .step rfl (.move rfl rfl) ?_
      refine .step rfl (.extract rfl rfl rfl rfl) ?_
      refine .step rfl (.extract rfl rfl rfl rfl) ?_
      refine .step rfl (.extract rfl rfl rfl rfl) ?_
      refine .step rfl (.assign rfl rfl) ?_
      refine .step rfl (.assign rfl rfl) ?_
      refine .step rfl (.assign rfl rfl) ?_
      refine .nil ?_
      refine .next ?_
      refine .seq ?_
      refine .region ?_
      refine .step rfl (.ldpm (ds := hdv ix) rfl rfl rfl rfl rfl rfl tk25) ?_
      refine .step rfl (.idxp rfl rfl rfl rfl rfl ar59 (by decide) (by decide)) ?_
      refine .step rfl (.ldpm (ds := y.1.dv) rfl rfl rfl rfl rfl rfl tk30) ?_
      refine .step rfl (.idxp rfl rfl rfl rfl rfl ar59 (by decide) (by decide)) ?_
      refine .step rfl (.ldpm (ds := y.2.dv) rfl rfl rfl rfl rfl rfl tk30) ?_
      refine .step rfl (.callc rfl cf28 rfl (cB)) ?_
      refine .step rfl (.move rfl rfl) ?_
      refine .step rfl (.extract rfl rfl rfl rfl) ?_
      refine .step rfl (.extract rfl rfl rfl rfl) ?_
      refine .step rfl (.extract rfl rfl rfl rfl) ?_
      refine .step rfl (.assign rfl rfl) ?_
      refine .step rfl (.assign rfl rfl) ?_
      refine .step rfl (.assign rfl rfl) ?_
      refine .nil ?_
      refine .next ?_
      refine .seq ?_
      refine .seq ?_
      refine .region ?_
      refine .step rfl (.move rfl rfl) ?_
      refine .step rfl (.move rfl rfl) ?_
      refine .step rfl (.neb false rfl rfl rfl ub4 (by simp)) ?_
      refine .step rfl (.move rfl rfl) ?_
      refine .go 108 rfl rfl rfl rfl (.move rfl rfl) ?_
      refine .go 108 rfl rfl rfl rfl (.convbd (l := A) rfl rfl u844 us9) ?_
      refine .go 108 rfl rfl rfl rfl (.move rfl rfl) ?_
      refine .go 108 rfl rfl rfl rfl (.convbd (l := A) rfl rfl u844 us9) ?_
      refine .go 108 rfl rfl rfl rfl (.binv (.bool false) rfl rfl rfl rfl (congrArg Value.bool (by simp))) ?_
      refine .step rfl (.pick rfl rfl rfl) ?_
      refine .step rfl (.move rfl rfl) ?_
      refine .go 115 rfl rfl rfl rfl (.move rfl rfl) ?_
      refine .go 115 rfl rfl rfl rfl (.convbd (l := B) rfl rfl u844 us9) ?_
      refine .go 115 rfl rfl rfl rfl (.move rfl rfl) ?_
      refine .go 115 rfl rfl rfl rfl (.convbd (l := B) rfl rfl u844 us9) ?_
      refine .go 115 rfl rfl rfl rfl (.binv (.bool false) rfl rfl rfl rfl (congrArg Value.bool (by simp))) ?_
      refine .step rfl (.pick rfl rfl rfl) ?_
      refine .nil ?_
      refine .next ?_
      refine .cond rfl (fun h8 => absurd h8 (by decide)) (fun h8 => ?_)
      refine .skip ?_
      refine .next ?_
      refine .seq ?_
      refine .region ?_
      refine .step rfl (.move rfl rfl) ?_
      refine .asf 122 rfl ?_
      refine .step rfl (.move rfl rfl) ?_
      refine .case 123 rfl (fun h9 => ?_) (fun h9 => ?_)
      ·skip
       have hok : ok = true := h9
       obtain ⟨hne, hsum⟩ := hct hok
       refine .go 123 rfl rfl rfl rfl (.move rfl rfl) ?_
       refine .go 123 rfl rfl rfl rfl (.convbd (l := A) rfl rfl u844 us9) ?_
       refine .go 123 rfl rfl rfl rfl (.move rfl rfl) ?_
       refine .go 123 rfl rfl rfl rfl (.convbd (l := B) rfl rfl u844 us9) ?_
       refine .go 123 rfl rfl rfl rfl (.binv (.bool false) rfl rfl rfl rfl (congrArg Value.bool (decide_eq_false hne))) ?_
       refine .go 123 rfl rfl rfl rfl (.move rfl rfl) ?_
       refine .go 129 rfl rfl rfl rfl (.move rfl rfl) ?_
       refine .go 129 rfl rfl rfl rfl (.callf rfl cf29 rfl ⟨trivial, trivial⟩ (sum_pf A hlen.1)) ?_
       refine .go 129 rfl rfl rfl rfl (.move rfl rfl) ?_
       refine .go 129 rfl rfl rfl rfl (.callf rfl cf29 rfl ⟨trivial, trivial⟩ (sum_pf B hlen.2)) ?_
       refine .go 129 rfl rfl rfl rfl (.nehf (a := sumH A) (b := sumH B) (H.l_inj hsum) rfl rfl rfl qh25) ?_
       refine .go 123 rfl rfl rfl rfl (.pick rfl rfl rfl) ?_
       refine .step rfl (.pick rfl rfl rfl) ?_
       refine .nil ?_
       refine .next ?_
       refine .cond rfl (fun h10 => absurd h10 (by decide)) (fun h10 => ?_)
       refine .skip ?_
       refine TE.blk ?_
       refine .next ?_
       refine .region ?_
       refine .step rfl (.binv (.int .i64 ((j + 1 : Nat) : Int)) rfl rfl rfl rfl (congrArg _ (by (try dsimp only); rw [IntKind.wrap_i64]; omega))) ?_
       refine .step rfl (.move rfl rfl) ?_
       refine .nil ?_
       refine TE.setv 81 (.int .i64 ((j + 1 : Nat) : Int)) rfl (congrArg _ (by first | rfl | (dsimp only; first | done | rfl | omega))) ?_
       exact TE.round id (fun _ _ e => e) (j + 1) (by omega) (by omega) ⟨⟨rfl, rfl⟩, ⟨rfl, rfl⟩, ⟨rfl, rfl⟩, ⟨rfl, rfl⟩, trivial⟩ ⟨.inl rfl, .inl rfl, .inl rfl, .inl rfl, .inr rfl, .inl rfl, .inl rfl, trivial⟩
      ·skip
       skip
       refine .no 123 rfl rfl rfl rfl rfl rfl rfl ?_
       refine .no 123 rfl rfl rfl rfl rfl rfl rfl ?_
       refine .no 123 rfl rfl rfl rfl rfl rfl rfl ?_
       refine .no 123 rfl rfl rfl rfl rfl rfl rfl ?_
       refine .no 123 rfl rfl rfl rfl rfl rfl rfl ?_
       refine .no 123 rfl rfl rfl rfl rfl rfl rfl ?_
       refine .no0 129 rfl rfl rfl rfl rfl ?_
       refine .no0 129 rfl rfl rfl rfl rfl ?_
       refine .no0 129 rfl rfl rfl rfl rfl ?_
       refine .no0 129 rfl rfl rfl rfl rfl ?_
       refine .no0 129 rfl rfl rfl rfl rfl ?_
       refine .no 123 rfl rfl rfl rfl rfl rfl rfl ?_
       refine .step rfl (.pick rfl rfl rfl) ?_
       refine .nil ?_
       refine .next ?_
       refine .cond rfl (fun h11 => absurd h11 (by decide)) (fun h11 => ?_)
       refine .skip ?_
       refine TE.blk ?_
       refine .next ?_
       refine .region ?_
       refine .step rfl (.binv (.int .i64 ((j + 1 : Nat) : Int)) rfl rfl rfl rfl (congrArg _ (by (try dsimp only); rw [IntKind.wrap_i64]; omega))) ?_
       refine .step rfl (.move rfl rfl) ?_
       refine .nil ?_
       refine TE.setv 81 (.int .i64 ((j + 1 : Nat) : Int)) rfl (congrArg _ (by first | rfl | (dsimp only; first | done | rfl | omega))) ?_
       exact TE.round id (fun _ _ e => e) (j + 1) (by omega) (by omega) ⟨⟨rfl, rfl⟩, ⟨rfl, rfl⟩, ⟨rfl, rfl⟩, ⟨rfl, rfl⟩, trivial⟩ ⟨.inl rfl, .inl rfl, .inl rfl, .inl rfl, .inr rfl, .inl rfl, .inl rfl, trivial⟩
     ·skip
      skip
      refine .exit ?_
      refine TE.pass ?_
      refine TE.pass ?_
      refine TE.here ?_
      refine .next ?_
      refine .seq ?_
      refine .region ?_
      refine .step rfl (.assign rfl rfl) ?_
      refine .nil ?_
      refine .next ?_
      refine .ret ?_
      exact TE.retf rfl rfl rfl (by first | trivial | exact pl_v _)
end Go.Proofs.Ytejhgijjegnmnaa

