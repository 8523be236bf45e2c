/-
  ProofReads.
-/
import Derived.Test.YtejhgijjegnmnaaZJl
import Derived.Test.YtejhgijjegnmnaaZFp
namespace Go.Proofs.Ytejhgijjegnmnaa
set_option linter.unusedVariables false
set_option linter.unusedSimpArgs false
open Go.RowKit Pl
theorem ap39 : apt Try.prog 39 = some (30, 66, 96) := by kernel_rfl
theorem cf10 : cfn Try.prog 10 = true := by kernel_rfl
theorem cf11 : cfn Try.prog 11 = true := by kernel_rfl
theorem cf14 : cfn Try.prog 14 = true := by kernel_rfl
theorem cf22 : cfn Try.prog 22 = true := by kernel_rfl
theorem cf25 : cfn Try.prog 25 = true := by kernel_rfl
theorem cf9 : cfn Try.prog 9 = true := by kernel_rfl
theorem et39 : elt Try.prog 39 = some (30, 66) := by kernel_rfl
theorem is39 : isSl Try.prog 39 = some true := by kernel_rfl
set_option maxRecDepth 100000 in
set_option maxHeartbeats 3200000 in
theorem proofReads_pf (p : Pf) (l : List UInt16) (k : UInt16) (raw : List UInt8) (n : UInt8) (a : UInt16) (b : UInt8) (w0 : -9223372036854775808 ≤ p.en ∧ p.en < 9223372036854775808) : PF Try.prog 4 [.ag p.dv, slT wdv 1 l, .v (.int .u16 k.toNat), slT bdv 1 raw, .v (.int .u8 n.toNat), .v (.int .u16 a.toNat), .v (.int .u8 b.toNat)] (.v (.bool true)) := by
  refine PF.enter (fn := Try.f4) Try.func4 rfl Try.ntmps4 rfl (fun w0 => ?_)
  refine .seq ?_
  refine .region ?_
  refine .step rfl (.box 1 rfl rfl rfl rfl) ?_
  refine .step rfl (.assign rfl rfl) ?_
  refine .nil ?_
  refine TE.frzb 7 rfl rfl rfl rfl ?_
  refine .next ?_
  refine .seq ?_
  refine .seq ?_
  refine .region ?_
  refine .step rfl (.callf rfl cf9 rfl trivial (known_pf)) ?_
  refine .step rfl (.un rfl rfl rfl) ?_
  refine .nil ?_
  refine .next ?_
  refine .cond rfl (fun h1 => absurd h1 (by decide)) (fun h1 => ?_)
  refine .skip ?_
  refine .next ?_
  refine .seq ?_
  refine .seq ?_
  refine .region ?_
  refine .step rfl (.fielde rfl rfl rfl fo30_0) ?_
  refine .step rfl (.lde rfl rfl rfl rfl tk26) ?_
  refine .step rfl (.len rfl rfl ⟨_, _, rfl⟩ is26) ?_
  refine .step rfl (.bin rfl rfl rfl rfl) ?_
  refine .step rfl (.move rfl rfl) ?_
  refine .case 34 rfl (fun h2 => ?_) (fun h2 => ?_)
  ·skip
   have h1 : 20 < p.path.length := by have q := of_decide_eq_true h2; (try dsimp only at q); omega
   refine .no 34 rfl rfl rfl rfl rfl rfl rfl ?_
   refine .no 34 rfl rfl rfl rfl rfl rfl rfl ?_
   refine .no 34 rfl rfl rfl rfl rfl rfl rfl ?_
   refine .step rfl (.pick rfl rfl rfl) ?_
   refine .step rfl (.move rfl rfl) ?_
   refine .no 39 rfl rfl rfl rfl rfl rfl rfl ?_
   refine .no 39 rfl rfl rfl rfl rfl rfl rfl ?_
   refine .no 39 rfl rfl rfl rfl rfl rfl rfl ?_
   refine .step rfl (.pick rfl rfl rfl) ?_
   refine .step rfl (.move rfl rfl) ?_
   refine .no 44 rfl rfl rfl rfl rfl rfl rfl ?_
   refine .no 44 rfl rfl rfl rfl rfl rfl rfl ?_
   refine .no 44 rfl rfl rfl rfl rfl rfl rfl ?_
   refine .step rfl (.pick rfl rfl rfl) ?_
   refine .step rfl (.move rfl rfl) ?_
   refine .no 49 rfl rfl rfl rfl rfl rfl rfl ?_
   refine .no 49 rfl rfl rfl rfl rfl rfl rfl ?_
   refine .no 49 rfl rfl rfl rfl rfl rfl rfl ?_
   refine .step rfl (.pick rfl rfl rfl) ?_
   refine .nil ?_
   refine .next ?_
   refine .cond rfl (fun h3 => ?_) (fun h3 => absurd h3 (by decide))
   refine .seq ?_
   refine .region ?_
   refine .step rfl (.assign rfl rfl) ?_
   refine .nil ?_
   refine .next ?_
   refine .ret ?_
   exact TE.retf rfl rfl rfl (by first | trivial | exact pl_v _)
  ·skip
   have h1 : ¬ (20 < p.path.length) := by have q := of_decide_eq_false h2; (try dsimp only at q); omega
   refine .go 34 rfl rfl rfl rfl (.move rfl rfl) ?_
   refine .go 34 rfl rfl rfl rfl (.len rfl rfl ⟨_, _, rfl⟩ is22) ?_
   refine .go 34 rfl rfl rfl rfl (.bin rfl rfl rfl rfl) ?_
   refine .step rfl (.pick rfl rfl rfl) ?_
   refine .step rfl (.move rfl rfl) ?_
   refine .case 39 rfl (fun h4 => ?_) (fun h4 => ?_)
   ·skip
    have h2 : 20 < l.length := by have q := of_decide_eq_true h4; (try dsimp only at q); omega
    refine .no 39 rfl rfl rfl rfl rfl rfl rfl ?_
    refine .no 39 rfl rfl rfl rfl rfl rfl rfl ?_
    refine .no 39 rfl rfl rfl rfl rfl rfl rfl ?_
    refine .step rfl (.pick rfl rfl rfl) ?_
    refine .step rfl (.move rfl rfl) ?_
    refine .no 44 rfl rfl rfl rfl rfl rfl rfl ?_
    refine .no 44 rfl rfl rfl rfl rfl rfl rfl ?_
    refine .no 44 rfl rfl rfl rfl rfl rfl rfl ?_
    refine .step rfl (.pick rfl rfl rfl) ?_
    refine .step rfl (.move rfl rfl) ?_
    refine .no 49 rfl rfl rfl rfl rfl rfl rfl ?_
    refine .no 49 rfl rfl rfl rfl rfl rfl rfl ?_
    refine .no 49 rfl rfl rfl rfl rfl rfl rfl ?_
    refine .step rfl (.pick rfl rfl rfl) ?_
    refine .nil ?_
    refine .next ?_
    refine .cond rfl (fun h5 => ?_) (fun h5 => absurd h5 (by decide))
    refine .seq ?_
    refine .region ?_
    refine .step rfl (.assign rfl rfl) ?_
    refine .nil ?_
    refine .next ?_
    refine .ret ?_
    exact TE.retf rfl rfl rfl (by first | trivial | exact pl_v _)
   ·skip
    have h2 : ¬ (20 < l.length) := by have q := of_decide_eq_false h4; (try dsimp only at q); omega
    refine .go 39 rfl rfl rfl rfl (.move rfl rfl) ?_
    refine .go 39 rfl rfl rfl rfl (.len rfl rfl ⟨_, _, rfl⟩ is44) ?_
    refine .go 39 rfl rfl rfl rfl (.bin rfl rfl rfl rfl) ?_
    refine .step rfl (.pick rfl rfl rfl) ?_
    refine .step rfl (.move rfl rfl) ?_
    refine .case 44 rfl (fun h6 => ?_) (fun h6 => ?_)
    ·skip
     have h3 : 200 < raw.length := by have q := of_decide_eq_true h6; (try dsimp only at q); omega
     refine .no 44 rfl rfl rfl rfl rfl rfl rfl ?_
     refine .no 44 rfl rfl rfl rfl rfl rfl rfl ?_
     refine .no 44 rfl rfl rfl rfl rfl rfl rfl ?_
     refine .step rfl (.pick rfl rfl rfl) ?_
     refine .step rfl (.move rfl rfl) ?_
     refine .no 49 rfl rfl rfl rfl rfl rfl rfl ?_
     refine .no 49 rfl rfl rfl rfl rfl rfl rfl ?_
     refine .no 49 rfl rfl rfl rfl rfl rfl rfl ?_
     refine .step rfl (.pick rfl rfl rfl) ?_
     refine .nil ?_
     refine .next ?_
     refine .cond rfl (fun h7 => ?_) (fun h7 => absurd h7 (by decide))
     refine .seq ?_
     refine .region ?_
     refine .step rfl (.assign rfl rfl) ?_
     refine .nil ?_
     refine .next ?_
     refine .ret ?_
     exact TE.retf rfl rfl rfl (by first | trivial | exact pl_v _)
    ·skip
     have h3 : ¬ (200 < raw.length) := by have q := of_decide_eq_false h6; (try dsimp only at q); omega
     refine .go 44 rfl rfl rfl rfl (.fielde rfl rfl rfl fo30_1) ?_
     refine .go 44 rfl rfl rfl rfl (.lde rfl rfl rfl rfl tk3) ?_
     refine .go 44 rfl rfl rfl rfl (.bin rfl rfl rfl rfl) ?_
     refine .step rfl (.pick rfl rfl rfl) ?_
     refine .step rfl (.move rfl rfl) ?_
     refine .case 49 rfl (fun h8 => ?_) (fun h8 => ?_)
     ·skip
      skip
      refine .no 49 rfl rfl rfl rfl rfl rfl rfl ?_
      refine .no 49 rfl rfl rfl rfl rfl rfl rfl ?_
      refine .no 49 rfl rfl rfl rfl rfl rfl rfl ?_
      refine .step rfl (.pick rfl rfl rfl) ?_
      refine .nil ?_
      refine .next ?_
      refine .cond rfl (fun h9 => ?_) (fun h9 => absurd h9 (by decide))
      refine .seq ?_
      refine .region ?_
      refine .step rfl (.assign rfl rfl) ?_
      refine .nil ?_
      refine .next ?_
      refine .ret ?_
      exact TE.retf rfl rfl rfl (by first | trivial | exact pl_v _)
     ·skip
      skip
      refine .go 49 rfl rfl rfl rfl (.fielde rfl rfl rfl fo30_1) ?_
      refine .go 49 rfl rfl rfl rfl (.lde rfl rfl rfl rfl tk3) ?_
      refine .go 49 rfl rfl rfl rfl (.bin rfl rfl rfl rfl) ?_
      refine .step rfl (.pick rfl rfl rfl) ?_
      refine .nil ?_
      refine .next ?_
      refine .cond rfl (fun h10 => ?_) (fun h10 => ?_)
      ·skip
       skip
       refine .seq ?_
       refine .region ?_
       refine .step rfl (.assign rfl rfl) ?_
       refine .nil ?_
       refine .next ?_
       refine .ret ?_
       exact TE.retf rfl rfl rfl (by first | trivial | exact pl_v _)
      ·skip
       skip
       refine .skip ?_
       refine .next ?_
       refine .seq ?_
       refine .region ?_
       refine .step rfl (.move rfl rfl) ?_
       refine .step rfl (.callo 2 rfl rfl cf10 rfl ⟨trivial, trivial⟩ (items_po l (by omega))) ?_
       refine .step rfl (.assign rfl rfl) ?_
       refine .nil ?_
       refine TE.frz 15 (slT It.dv 64 (l.map seatI)) rfl rfl (it_flat _) rfl ?_
       obtain ⟨x, hx⟩ : ∃ x, x = l.map seatI := ⟨_, rfl⟩
       rw [← hx]
       have hxl : x.length = l.length := by rw [hx, List.length_map]
       refine .next ?_
       refine .seq ?_
       refine .region ?_
       refine .step rfl (.move rfl rfl) ?_
       refine .step rfl (.move rfl rfl) ?_
       refine .step rfl (.move rfl rfl) ?_
       refine .step rfl (.move rfl rfl) ?_
       refine .step rfl (.build (ds := hdv (setH zeroH 0 b)) rfl rfl sp25 rfl rfl) ?_
       refine .step rfl (.callf rfl cf11 rfl ⟨trivial, trivial, trivial, trivial⟩ (index_pf x k (setH zeroH 0 b) (by omega))) ?_
       refine .step rfl (.callc rfl cf14 rfl (rmake_pc x (indexV x k (setH zeroH 0 b)) (by omega))) ?_
       refine .step rfl (.alloc 3 rfl rfl zc30 rfl) ?_
       refine .step rfl (.store rfl rfl rfl sz30 rfl rfl) ?_
       refine .nil ?_
       refine TE.obj 3 (.box 30 (Pf.dv (mkP (indexV x k (setH zeroH 0 b)) (setR x [])))) rfl rfl ?_
       have hms := mkP_short (indexV x k (setH zeroH 0 b)) x
       generalize mkP (indexV x k (setH zeroH 0 b)) (setR x []) = m at *
       refine .next ?_
       refine .seq ?_
       refine .region ?_
       refine .step rfl (.move rfl rfl) ?_
       refine .step rfl (.rem (((n.toNat % 4 : Nat) : Int)) rfl rfl rfl (by decide) (emod_nat)) ?_
       refine .step rfl (.conviv (((n.toNat % 4 : Nat) : Int)) rfl rfl uk5 uk3 (by rw [IntKind.wrap_i64]; omega)) ?_
       refine .step rfl (.binv (.int .i64 ((254 + n.toNat % 4 : Nat) : Int)) rfl rfl rfl rfl (congrArg _ (by (try dsimp only); rw [IntKind.wrap_i64]; omega))) ?_
       refine .step rfl (.mksl 4 rfl rfl rfl rfl ap26 zc25 rfl (by omega) (by unfold maxLen; omega)) ?_
       refine .frz 67 (slT hdv 32 (List.replicate (254 + n.toNat % 4) zeroH)) rfl rfl (by rw [List.length_map, zrow_len]; rfl) (by unfold slT; rw [List.length_replicate, ← zrow_hash]; rfl) ?_
       refine .step rfl (.build (ds := Pf.dv (longP (254 + n.toNat % 4))) rfl rfl sp30 rfl rfl) ?_
       refine .step rfl (.alloc 5 rfl rfl zc30 rfl) ?_
       refine .step rfl (.store rfl rfl rfl sz30 rfl rfl) ?_
       refine .nil ?_
       refine TE.obj 5 (.box 30 (Pf.dv (longP (254 + n.toNat % 4)))) rfl rfl ?_
       obtain ⟨N, hN⟩ : ∃ N, N = 254 + n.toNat % 4 := ⟨_, rfl⟩
       rw [← hN]
       refine .next ?_
       refine .seq ?_
       refine .seq ?_
       refine .region ?_
       refine .step rfl (.ldem (ds := p.dv) rfl rfl rfl rfl rfl tk30) ?_
       refine .step rfl (.ldpm (ds := Pf.dv m) rfl rfl rfl rfl rfl rfl tk30) ?_
       refine .step rfl (.ldpm (ds := Pf.dv (longP N)) rfl rfl rfl rfl rfl rfl tk30) ?_
       refine .step rfl (.buildsl 6 rfl rfl rfl ap39 zc30 rfl rfl rfl) ?_
       refine .step rfl (.leno rfl rfl rfl is39) ?_
       refine .step rfl (.move rfl rfl) ?_
       refine .nil ?_
       have hQa : ∀ q ∈ [p, m, longP N], q.path.length ≤ 1048576 := by intro q hq; simp only [List.mem_cons, List.not_mem_nil, or_false] at hq; rcases hq with rfl | rfl | rfl; omega; omega; (show (List.replicate N zeroH).length ≤ 1048576; rw [List.length_replicate]; omega)
       refine TE.frz 72 (slT Pf.dv 66 [p, m, longP N]) rfl rfl rfl rfl ?_
       obtain ⟨Q, hQ⟩ : ∃ Q, Q = [p, m, longP N] := ⟨_, rfl⟩
       rw [← hQ]
       rw [← hQ] at hQa
       have hQl : Q.length = 3 := by rw [hQ]; rfl
       refine TE.setv 73 (.int .i64 ((Q.length : Nat) : Int)) rfl (by rw [hQl]) ?_
       refine TE.setv 74 (.int .i64 ((0 : Nat) : Int)) rfl (congrArg _ (by first | rfl | (dsimp only; first | done | rfl | omega))) ?_
       refine .next ?_
       refine .block ?_
       refine TC.loop (S := Nat) (fun j => j ≤ Q.length) (fun j => Q.length - j) (fun j => [(3, .d (slT bdv 1 raw)), (4, .d (.v (.int .u8 n.toNat))), (5, .d (.v (.int .u16 a.toNat))), (6, .d (.v (.int .u8 b.toNat))), (72, .d (slT Pf.dv 66 Q)), (73, .d (.v (.int .i64 ((Q.length : Nat) : Int)))), (74, .d (.v (.int .i64 ((j : Nat) : Int))))]) (fun j => [(1, .dead), (2, .dead), (3, .dead), (4, .dead), (5, .dead), (6, .dead)]) (0) (Nat.zero_le _) ⟨⟨rfl, rfl⟩, ⟨rfl, rfl⟩, ⟨rfl, rfl⟩, ⟨rfl, rfl⟩, ⟨rfl, rfl⟩, ⟨rfl, rfl⟩, ⟨rfl, rfl⟩, trivial⟩ ⟨.inl rfl, .inl rfl, .inl rfl, .inl rfl, .inl rfl, .inl rfl, trivial⟩ (fun j hI => ?_)
       refine .seq ?_
       refine .region ?_
       refine .step rfl (.bin rfl rfl rfl rfl) ?_
       refine .nil ?_
       refine .next ?_
       refine .seq ?_
       refine .cond rfl (fun h11 => ?_) (fun h11 => ?_)
       ·skip
        have hj : j < Q.length := by have q := of_decide_eq_true h11; (try dsimp only at q); omega
        obtain ⟨q, hq⟩ : ∃ q, Q[j] = q := ⟨_, rfl⟩
        have hqp : q.path.length ≤ 1048576 := hQa q (hq ▸ List.getElem_mem hj)
        have hbl := putB_len q
        have hc : a.toNat % (putB q).length < (putB q).length := Nat.mod_lt _ (by omega)
        refine .skip ?_
        refine .next ?_
        refine .seq ?_
        refine .block ?_
        refine .seq ?_
        refine .region ?_
        refine .step rfl (.idx (q) rfl rfl rfl rfl et39 (fun _ => rfl) (Int.natCast_nonneg _) (hq ▸ get_nat hj)) ?_
        refine .step rfl (.ldem (ds := q.dv) rfl rfl rfl rfl rfl tk30) ?_
        refine .step rfl (.alloc 7 rfl rfl zc30 rfl) ?_
        refine .step rfl (.store rfl rfl rfl sz30 rfl rfl) ?_
        refine .nil ?_
        refine TE.obj 7 (.box 30 (Pf.dv q)) rfl rfl ?_
        refine .next ?_
        refine .seq ?_
        refine .region ?_
        refine .step rfl (.ldpm (ds := Pf.dv q) rfl rfl rfl rfl rfl rfl tk30) ?_
        refine .step rfl (.callf rfl cf21 rfl ⟨trivial, trivial⟩ (put_pf q hqp)) ?_
        refine .step rfl (.assign rfl rfl) ?_
        refine .nil ?_
        refine .next ?_
        refine .seq ?_
        refine .seq ?_
        refine .draw mixed [Ro.mk _ (Eff.mk (some (80, _)) []) [], Ro.mk _ (Eff.mk (some (81, _)) []) [], Ro.mk _ (Eff.mk (some (82, _)) []) [7], Ro.mk _ (Eff.mk (some (83, _)) []) [], Ro.mk _ (Eff.mk (some (84, _)) []) [], Ro.mk _ (Eff.mk (some (85, _)) []) []] rfl ⟨(fun _ _ => .move rfl rfl), (fun _ _ => .convbd (l := putB q) rfl rfl u844 us9), (fun _ _ => .ldpm (ds := Pf.dv q) rfl rfl rfl rfl rfl rfl tk30), (fun _ _ => .callf rfl cf22 rfl ⟨trivial, trivial⟩ (rput_pf q hqp)), (fun _ _ => .convbd (l := putB q) rfl rfl u844 us9), (fun _ _ => .binv (.bool false) rfl rfl rfl rfl (congrArg Value.bool (by simp))), trivial⟩ (by kernel_rfl) ?_
        refine .next ?_
        refine .cond rfl (fun h12 => absurd h12 (by decide)) (fun h12 => ?_)
        refine .skip ?_
        refine .next ?_
        refine .seq ?_
        refine .region ?_
        refine .step rfl (.move rfl rfl) ?_
        refine .step rfl (.append0 8 rfl rfl rfl ap44 rfl rfl trivial (flat_one (fun _ => rfl) _) (by omega) (by omega)) ?_
        refine .step rfl (.assign rfl rfl) ?_
        refine .nil ?_
        refine .next ?_
        refine .seq ?_
        refine .region ?_
        refine .step rfl (.move rfl rfl) ?_
        refine .step rfl (.move rfl rfl) ?_
        refine .step rfl (.conviv (((a.toNat : Nat) : Int)) rfl rfl uk23 uk3 (by rw [IntKind.wrap_i64]; have := a.toNat_lt; omega)) ?_
        refine .step rfl (.move rfl rfl) ?_
        refine .step rfl (.leno rfl rfl rfl is44) ?_
        refine .step rfl (.rem (((a.toNat % (putB q).length : Nat) : Int)) rfl rfl rfl (by omega) (emod_nat)) ?_
        refine .step rfl (.idxo rfl rfl rfl rfl rfl et44 (Int.natCast_nonneg _) (Int.ofNat_lt.2 hc)) ?_
        refine .step rfl (.ldp rfl rfl rfl rfl (by rw [Nat.mul_one, Int.toNat_natCast]; exact bd_one hc) tk5) ?_
        refine .step rfl (.move rfl rfl) ?_
        refine .step rfl (.bits (((((putB q)[a.toNat % (putB q).length]'hc ^^^ b : UInt8).toNat : Nat) : Int)) rfl rfl rfl rfl (u8_xor _ _)) ?_
        refine .step rfl (.idxo rfl rfl rfl rfl rfl et44 (Int.natCast_nonneg _) (Int.ofNat_lt.2 hc)) ?_
        refine .step rfl (.storer (xs := putB q) (enc := bdv) (((putB q)[a.toNat % (putB q).length]'hc ^^^ b)) rfl rfl rfl rfl rfl rfl (fun _ => rfl) sz5 rfl (hc)) ?_
        refine .nil ?_
        refine TE.frz 21 (slT bdv 1 ((putB q).set (a.toNat % (putB q).length) ((putB q)[a.toNat % (putB q).length]'hc ^^^ b))) rfl rfl (by rw [flat_length (sz := 1) (fun _ => rfl), List.length_set]) (by unfold slT; rw [List.length_set]; rfl) ?_
        refine .next ?_
        refine .seq ?_
        refine .draw mixed [Ro.mk _ (Eff.mk (some (99, _)) []) [], Ro.mk _ (Eff.mk (some (100, _)) []) [], Ro.mk _ (Eff.mk (some (101, _)) []) [], Ro.mk _ (Eff.mk (some (102, _)) []) [], Ro.mk _ (Eff.mk (some (103, _)) []) [], Ro.mk _ (Eff.mk (some (104, _)) []) [], Ro.mk _ (Eff.mk (some (105, _)) []) [], Ro.mk _ (Eff.mk (some (106, _)) []) [], Ro.mk _ (Eff.mk (some (107, _)) []) [], Ro.mk _ (Eff.mk (some (108, _)) []) [], Ro.mk _ (Eff.mk (some (109, _)) [(9, _)]) [9], Ro.mk _ (Eff.mk (some (110, _)) []) [], Ro.mk _ (Eff.mk (some (111, _)) [(10, _)]) [10], Ro.mk _ (Eff.mk (some (112, _)) [(9, .dead), (11, .dead)]) [9, 10, 11], Ro.mk _ (Eff.mk (some (113, _)) []) [], Ro.mk _ (Eff.mk (some (114, _)) []) [], Ro.mk _ (Eff.mk (some (115, _)) []) [], Ro.mk _ (Eff.mk (some (116, _)) []) [], Ro.mk _ (Eff.mk (some (117, _)) []) [], Ro.mk _ (Eff.mk (some (118, _)) [(12, _)]) [12], Ro.mk _ (Eff.mk (some (119, _)) []) [12], Ro.mk _ (Eff.mk (some (120, _)) []) []] rfl ⟨(fun _ _ => .move rfl rfl), (fun _ _ => .move rfl rfl), (fun _ _ => .move rfl rfl), (fun _ _ => .move rfl rfl), (fun _ _ => .conviv (((a.toNat : Nat) : Int)) rfl rfl uk23 uk3 (by rw [IntKind.wrap_i64]; have := a.toNat_lt; omega)), (fun _ _ => .move rfl rfl), (fun _ _ => .len rfl rfl ⟨_, _, rfl⟩ is44), (fun _ _ => .rem (((a.toNat % (putB q).length : Nat) : Int)) rfl rfl rfl (by omega) (emod_nat)), (fun _ _ => .slice rfl rfl rfl rfl rfl et44 (fun _ => rfl) (by omega) (Int.natCast_nonneg _) (Int.ofNat_le.2 (Nat.le_of_lt hc))), (fun _ _ => .move rfl rfl), (fun _ _ => .append0 9 rfl rfl rfl ap44 rfl rfl trivial (flat_one (fun _ => rfl) _) (by omega) (by omega)), (fun _ _ => .move rfl rfl), (fun _ _ => .buildsl (ds := bdv b) 10 rfl rfl rfl ap44 zc5 rfl rfl rfl), (fun _ _ => .appendf 11 (slT bdv 1 (putB q ++ [b])) rfl rfl rfl (by rw [flat_length (sz := 1) (fun _ => rfl)]) rfl ap44 rfl rfl (okA_len rfl rfl) rfl (by omega) (by omega) (by rw [List.length_append, flat_length (sz := 1) (fun _ => rfl)]; rfl) (by unfold slT; rw [List.length_append, List.flatMap_append]; rfl)), (fun _ _ => .move rfl rfl), (fun _ _ => .move rfl rfl), (fun _ _ => .conviv (((n.toNat : Nat) : Int)) rfl rfl uk5 uk47 (by rw [IntKind.wrap_u64]; have := n.toNat_lt; omega)), (fun _ _ => .binv (.int .u64 ((n.toNat * 3 : Nat) : Int)) rfl rfl rfl rfl (congrArg _ (by (try dsimp only); rw [IntKind.wrap_u64]; have := n.toNat_lt; omega))), (fun _ _ => .callf rfl cf23 rfl ⟨trivial, trivial⟩ (rnum_pf ((n.toNat * 3 : Nat) : Int) (by omega) (by have := n.toNat_lt; omega))), (fun _ _ => .buildsl 12 rfl rfl rfl ap48 zc44 rfl rfl rfl), (fun _ _ => .leno rfl rfl rfl is48), (fun _ _ => .move rfl rfl), trivial⟩ (by kernel_rfl) ?_
        have hZa : ∀ z ∈ [putB q, ((putB q).set (a.toNat % (putB q).length) ((putB q)[a.toNat % (putB q).length]'hc ^^^ b)), (putB q).take (a.toNat % (putB q).length), putB q ++ [b], raw, numB ((n.toNat * 3 : Nat) : Int)], z.length ≤ 1099511627776 := by intro z hz; simp only [List.mem_cons, List.not_mem_nil, or_false] at hz; rcases hz with rfl | rfl | rfl | rfl | rfl | rfl <;> (try simp only [List.length_set, List.length_take, List.length_append, List.length_cons, List.length_nil, numB_len]) <;> omega
        refine TE.frz 118 (slT ldv 1 [putB q, ((putB q).set (a.toNat % (putB q).length) ((putB q)[a.toNat % (putB q).length]'hc ^^^ b)), (putB q).take (a.toNat % (putB q).length), putB q ++ [b], raw, numB ((n.toNat * 3 : Nat) : Int)]) rfl rfl rfl rfl ?_
        obtain ⟨Z, hZ⟩ : ∃ Z, Z = [putB q, ((putB q).set (a.toNat % (putB q).length) ((putB q)[a.toNat % (putB q).length]'hc ^^^ b)), (putB q).take (a.toNat % (putB q).length), putB q ++ [b], raw, numB ((n.toNat * 3 : Nat) : Int)] := ⟨_, rfl⟩
        rw [← hZ]
        rw [← hZ] at hZa
        have hZl : Z.length = 6 := by rw [hZ]; rfl
        refine TE.setv 119 (.int .i64 ((Z.length : Nat) : Int)) rfl (by rw [hZl]) ?_
        refine TE.setv 120 (.int .i64 ((0 : Nat) : Int)) rfl (congrArg _ (by first | rfl | (dsimp only; first | done | rfl | omega))) ?_
        refine .next ?_
        refine .block ?_
        refine TC.loop (S := Nat) (fun h => h ≤ Z.length) (fun h => Z.length - h) (fun h => [(3, .d (slT bdv 1 raw)), (4, .d (.v (.int .u8 n.toNat))), (5, .d (.v (.int .u16 a.toNat))), (6, .d (.v (.int .u8 b.toNat))), (72, .d (slT Pf.dv 66 Q)), (73, .d (.v (.int .i64 ((Q.length : Nat) : Int)))), (74, .d (.v (.int .i64 ((j : Nat) : Int)))), (118, .d (slT ldv 1 Z)), (119, .d (.v (.int .i64 ((Z.length : Nat) : Int)))), (120, .d (.v (.int .i64 ((h : Nat) : Int))))]) (fun h => [(1, .dead), (2, .dead), (3, .dead), (4, .dead), (5, .dead), (6, .dead), (7, .dead), (8, .dead), (9, .dead), (10, .dead), (11, .dead), (12, .dead)]) (0) (Nat.zero_le _) ⟨⟨rfl, rfl⟩, ⟨rfl, rfl⟩, ⟨rfl, rfl⟩, ⟨rfl, rfl⟩, ⟨rfl, rfl⟩, ⟨rfl, rfl⟩, ⟨rfl, rfl⟩, ⟨rfl, rfl⟩, ⟨rfl, rfl⟩, ⟨rfl, rfl⟩, trivial⟩ ⟨.inl rfl, .inl rfl, .inl rfl, .inl rfl, .inl rfl, .inl rfl, .inl rfl, .inl rfl, .inl rfl, .inl rfl, .inl rfl, .inl rfl, trivial⟩ (fun h hI => ?_)
        refine .seq ?_
        refine .region ?_
        refine .step rfl (.bin rfl rfl rfl rfl) ?_
        refine .nil ?_
        refine .next ?_
        refine .seq ?_
        refine .cond rfl (fun h13 => ?_) (fun h13 => ?_)
        ·skip
         have hh : h < Z.length := by have q := of_decide_eq_true h13; (try dsimp only at q); omega
         obtain ⟨z, hz⟩ : ∃ z, Z[h] = z := ⟨_, rfl⟩
         have hzl := hZa z (hz ▸ List.getElem_mem hh)
         refine .skip ?_
         refine .next ?_
         refine .seq ?_
         refine .block ?_
         refine .seq ?_
         refine .region ?_
         refine .step rfl (.idx (z) rfl rfl rfl rfl et48 (fun _ => rfl) (Int.natCast_nonneg _) (hz ▸ get_nat hh)) ?_
         refine .step rfl (.lde rfl rfl rfl rfl tk44) ?_
         refine .step rfl (.assign rfl rfl) ?_
         refine .nil ?_
         refine .next ?_
         refine .seq ?_
         refine .region ?_
         refine .step rfl (.move rfl rfl) ?_
         refine .step rfl (.callc rfl cf24 rfl (read_pc z hzl)) ?_
         refine .step rfl (.move rfl rfl) ?_
         refine .step rfl (.extract rfl rfl rfl rfl) ?_
         refine .step rfl (.extract rfl rfl rfl rfl) ?_
         refine .step rfl (.alloc 13 rfl rfl zc30 rfl) ?_
         refine .step rfl (.store rfl rfl rfl sz30 rfl rfl) ?_
         refine .step rfl (.assign rfl rfl) ?_
         refine .nil ?_
         refine TE.obj 13 (.box 30 (Pf.dv (readP z).1)) rfl rfl ?_
         refine .next ?_
         refine .seq ?_
         refine .region ?_
         refine .step rfl (.move rfl rfl) ?_
         refine .step rfl (.callc rfl cf25 rfl (rread_pc z hzl)) ?_
         refine .step rfl (.move rfl rfl) ?_
         refine .step rfl (.extract rfl rfl rfl rfl) ?_
         refine .step rfl (.extract rfl rfl rfl rfl) ?_
         refine .step rfl (.alloc 14 rfl rfl zc30 rfl) ?_
         refine .step rfl (.store rfl rfl rfl sz30 rfl rfl) ?_
         refine .step rfl (.assign rfl rfl) ?_
         refine .nil ?_
         refine TE.obj 14 (.box 30 (Pf.dv (readP z).1)) rfl rfl ?_
         refine .next ?_
         refine .seq ?_
         refine .region ?_
         refine .step rfl (.move rfl rfl) ?_
         refine .step rfl (.move rfl rfl) ?_
         refine .step rfl (.binv (.bool false) rfl rfl rfl rfl (congrArg Value.bool (by simp))) ?_
         refine .step rfl (.move rfl rfl) ?_
         refine .go 137 rfl rfl rfl rfl (.ldpm (ds := Pf.dv (readP z).1) rfl rfl rfl rfl rfl rfl tk30) ?_
         refine .go 137 rfl rfl rfl rfl (.ldpm (ds := Pf.dv (readP z).1) rfl rfl rfl rfl rfl rfl tk30) ?_
         refine .go 137 rfl rfl rfl rfl (.callf rfl cf13 rfl ⟨trivial, trivial, trivial⟩ (samep_pf (readP z).1 (Nat.le_trans (readP_len z) (by decide)))) ?_
         refine .go 137 rfl rfl rfl rfl (.un rfl rfl rfl) ?_
         refine .step rfl (.pick rfl rfl rfl) ?_
         refine .nil ?_
         refine .next ?_
         refine .cond rfl (fun h14 => absurd h14 (by decide)) (fun h14 => ?_)
         refine .skip ?_
         refine TE.blk ?_
         refine .next ?_
         refine .region ?_
         refine .step rfl (.binv (.int .i64 ((h + 1 : Nat) : Int)) rfl rfl rfl rfl (congrArg _ (by (try dsimp only); rw [IntKind.wrap_i64]; omega))) ?_
         refine .step rfl (.move rfl rfl) ?_
         refine .nil ?_
         refine TE.setv 120 (.int .i64 ((h + 1 : Nat) : Int)) rfl (congrArg _ (by first | rfl | (dsimp only; first | done | rfl | omega))) ?_
         exact TE.round id (fun _ _ e => e) (h + 1) (by omega) (by omega) ⟨⟨rfl, rfl⟩, ⟨rfl, rfl⟩, ⟨rfl, rfl⟩, ⟨rfl, rfl⟩, ⟨rfl, rfl⟩, ⟨rfl, rfl⟩, ⟨rfl, rfl⟩, ⟨rfl, rfl⟩, ⟨rfl, rfl⟩, ⟨rfl, rfl⟩, trivial⟩ ⟨.inl rfl, .inl rfl, .inl rfl, .inl rfl, .inl rfl, .inl rfl, .inl rfl, .inl rfl, .inl rfl, .inl rfl, .inl rfl, .inl rfl, trivial⟩
        ·skip
         skip
         refine .exit ?_
         refine TE.pass ?_
         refine TE.pass ?_
         refine TE.here ?_
         refine TE.blk ?_
         refine .next ?_
         refine .region ?_
         refine .step rfl (.binv (.int .i64 ((j + 1 : Nat) : Int)) rfl rfl rfl rfl (congrArg _ (by (try dsimp only); rw [IntKind.wrap_i64]; omega))) ?_
         refine .step rfl (.move rfl rfl) ?_
         refine .nil ?_
         refine TE.setv 74 (.int .i64 ((j + 1 : Nat) : Int)) rfl (congrArg _ (by first | rfl | (dsimp only; first | done | rfl | omega))) ?_
         exact TE.round id (fun _ _ e => e) (j + 1) (by omega) (by omega) ⟨⟨rfl, rfl⟩, ⟨rfl, rfl⟩, ⟨rfl, rfl⟩, ⟨rfl, rfl⟩, ⟨rfl, rfl⟩, ⟨rfl, rfl⟩, ⟨rfl, rfl⟩, trivial⟩ ⟨.inl rfl, .inl rfl, .inl rfl, .inl rfl, .inl rfl, .inl rfl, trivial⟩
       ·skip
        skip
        refine .exit ?_
        refine TE.pass ?_
        refine TE.pass ?_
        refine TE.here ?_
        refine .next ?_
        refine .seq ?_
        refine .region ?_
        refine .step rfl (.assign rfl rfl) ?_
        refine .nil ?_
        refine .next ?_
        refine .ret ?_
        exact TE.retf rfl rfl rfl (by first | trivial | exact pl_v _)
end Go.Proofs.Ytejhgijjegnmnaa

