/-
  ProofBack.
-/
import Derived.Test.YtejhgijjegnmnaaZJl
import Derived.Test.YtejhgijjegnmnaaZFo
namespace Go.Proofs.Ytejhgijjegnmnaa
set_option linter.unusedVariables false
set_option linter.unusedSimpArgs false
open Go.RowKit Pl
theorem cf10 : cfn Try.prog 10 = true := by kernel_rfl
theorem cf11 : cfn Try.prog 11 = true := by kernel_rfl
theorem cf9 : cfn Try.prog 9 = true := by kernel_rfl
set_option maxRecDepth 100000 in
set_option maxHeartbeats 1600000 in
theorem proofBack_pf (l : List UInt16) (k : UInt16) (raw : H) (cut : UInt16) : PF Try.prog 6 [slT wdv 1 l, .v (.int .u16 k.toNat), .ag (hdv (raw)), .v (.int .u16 cut.toNat)] (.v (.bool true)) := by
  refine PF.enter (fn := Try.f6) Try.func6 rfl Try.ntmps6 rfl (fun w0 => ?_)
  refine .seq ?_
  refine .region ?_
  refine .step rfl (.box 1 rfl rfl rfl rfl) ?_
  refine .step rfl (.assign rfl rfl) ?_
  refine .nil ?_
  refine TE.frzb 6 rfl rfl rfl rfl ?_
  refine .next ?_
  refine .seq ?_
  refine .seq ?_
  refine .region ?_
  refine .step rfl (.callf rfl cf9 rfl trivial (known_pf)) ?_
  refine .step rfl (.un rfl rfl rfl) ?_
  refine .nil ?_
  refine .next ?_
  refine .cond rfl (fun h1 => absurd h1 (by decide)) (fun h1 => ?_)
  refine .skip ?_
  refine .next ?_
  refine .seq ?_
  refine .seq ?_
  refine .region ?_
  refine .step rfl (.move rfl rfl) ?_
  refine .step rfl (.len rfl rfl ⟨_, _, rfl⟩ is22) ?_
  refine .step rfl (.bin rfl rfl rfl rfl) ?_
  refine .nil ?_
  refine .next ?_
  refine .cond rfl (fun h2 => ?_) (fun h2 => ?_)
  ·skip
   skip
   refine .seq ?_
   refine .region ?_
   refine .step rfl (.assign rfl rfl) ?_
   refine .nil ?_
   refine .next ?_
   refine .ret ?_
   exact TE.retf rfl rfl rfl (by first | trivial | exact pl_v _)
  ·skip
   have h30 : ¬ (30 < l.length) := by have q := of_decide_eq_false h2; (try dsimp only at q); omega
   refine .skip ?_
   refine .next ?_
   refine .seq ?_
   refine .region ?_
   refine .step rfl (.move rfl rfl) ?_
   refine .step rfl (.callo 2 rfl rfl cf10 rfl ⟨trivial, trivial⟩ (items_po l (by omega))) ?_
   refine .step rfl (.assign rfl rfl) ?_
   refine .nil ?_
   refine TE.frz 9 (slT It.dv 64 (l.map seatI)) rfl rfl (it_flat _) rfl ?_
   obtain ⟨x, hx⟩ : ∃ x, x = l.map seatI := ⟨_, rfl⟩
   rw [← hx]
   have hxl : x.length = l.length := by rw [hx, List.length_map]
   refine .next ?_
   refine .seq ?_
   refine .region ?_
   refine .step rfl (.move rfl rfl) ?_
   refine .step rfl (.move rfl rfl) ?_
   refine .step rfl (.move rfl rfl) ?_
   refine .step rfl (.ldem (ds := hdv raw) rfl rfl rfl rfl rfl tk25) ?_
   refine .step rfl (.callf rfl cf11 rfl ⟨trivial, trivial, trivial, trivial⟩ (index_pf x k raw (by omega))) ?_
   refine .step rfl (.callc rfl cf12 rfl (make_pc x (indexV x k raw) (by omega))) ?_
   refine .step rfl (.alloc 3 rfl rfl zc30 rfl) ?_
   refine .step rfl (.store rfl rfl rfl sz30 rfl rfl) ?_
   refine .nil ?_
   obtain ⟨ix, hix⟩ : ∃ ix, ix = indexV x k raw := ⟨_, rfl⟩
   refine TE.obj 3 (.box 30 (Pf.dv (mkP ix (setR x [])))) rfl (by rw [hix]; rfl) ?_
   obtain ⟨_, _, _, _, hms, hm0, hm2⟩ := mkP_all (ix := ix) (setR_str x [])
   generalize mkP ix (setR x []) = m at *
   have hbl := putB_len m
   have hcut : cut.toNat % (putB m).length < (putB m).length := Nat.mod_lt _ (by omega)
   have e1 : readP (putB m) = (m, 0) := by have := read_put m [] hms hm0 hm2; rwa [List.append_nil, if_pos rfl] at this
   have e3 : readP (putB m ++ [1]) = (zeroP, 20) := by have := read_put m [1] hms hm0 hm2; rwa [if_neg (by simp)] at this
   have r1 : PC Try.prog 24 [slT bdv 1 (putB m)] (.tp [.ag (Pf.dv m), .v (.int .i64 0)]) := by have q := read_pc (putB m) (by rw [hbl]; omega); rwa [e1] at q
   have r2 : PC Try.prog 24 [slT bdv 1 ((putB m).take (cut.toNat % (putB m).length))] (.tp [.ag (Pf.dv zeroP), .v (.int .i64 21)]) := by have q := read_pc ((putB m).take (cut.toNat % (putB m).length)) (by rw [List.length_take]; omega); rwa [read_cut m hms hcut] at q
   have r3 : PC Try.prog 24 [slT bdv 1 (putB m ++ [1])] (.tp [.ag (Pf.dv zeroP), .v (.int .i64 20)]) := by have q := read_pc (putB m ++ [1]) (by rw [List.length_append, hbl]; simp; omega); rwa [e3] at q
   have hcat : (putB m ++ [1]).flatMap bdv = (putB m).flatMap bdv ++ bdv 1 := by rw [List.flatMap_append]; rfl
   refine .next ?_
   refine .seq ?_
   refine .region ?_
   refine .step rfl (.ldpm (ds := Pf.dv m) rfl rfl rfl rfl rfl rfl tk30) ?_
   refine .step rfl (.callf rfl cf21 rfl ⟨trivial, trivial⟩ (put_pf m (by omega))) ?_
   refine .step rfl (.assign rfl rfl) ?_
   refine .nil ?_
   refine .next ?_
   refine .seq ?_
   refine .region ?_
   refine .step rfl (.move rfl rfl) ?_
   refine .step rfl (.callc rfl cf24 rfl (r1)) ?_
   refine .step rfl (.move rfl rfl) ?_
   refine .step rfl (.extract rfl rfl rfl rfl) ?_
   refine .step rfl (.extract rfl rfl rfl rfl) ?_
   refine .step rfl (.alloc 4 rfl rfl zc30 rfl) ?_
   refine .step rfl (.store rfl rfl rfl sz30 rfl rfl) ?_
   refine .step rfl (.assign rfl rfl) ?_
   refine .nil ?_
   refine TE.obj 4 (.box 30 (Pf.dv m)) rfl rfl ?_
   refine .next ?_
   refine .seq ?_
   refine .region ?_
   refine .step rfl (.move rfl rfl) ?_
   refine .step rfl (.move rfl rfl) ?_
   refine .step rfl (.conviv (((cut.toNat : Nat) : Int)) rfl rfl uk23 uk3 (by rw [IntKind.wrap_i64]; have := cut.toNat_lt; omega)) ?_
   refine .step rfl (.move rfl rfl) ?_
   refine .step rfl (.len rfl rfl ⟨_, _, rfl⟩ is44) ?_
   refine .step rfl (.max2 rfl rfl rfl) ?_
   refine .step rfl (.rem (((cut.toNat % (putB m).length : Nat) : Int)) rfl rfl rfl (by omega) (by rw [Int.max_eq_left (by omega)]; exact emod_nat)) ?_
   refine .step rfl (.slice rfl rfl rfl rfl rfl et44 (fun _ => rfl) (by omega) (Int.natCast_nonneg _) (Int.ofNat_le.2 (Nat.le_of_lt hcut))) ?_
   refine .step rfl (.callc rfl cf24 rfl (r2)) ?_
   refine .step rfl (.move rfl rfl) ?_
   refine .step rfl (.extract rfl rfl rfl rfl) ?_
   refine .step rfl (.extract rfl rfl rfl rfl) ?_
   refine .step rfl (.alloc 5 rfl rfl zc30 rfl) ?_
   refine .step rfl (.store rfl rfl rfl sz30 rfl rfl) ?_
   refine .step rfl (.assign rfl rfl) ?_
   refine .nil ?_
   refine TE.obj 5 (.box 30 (Pf.dv zeroP)) rfl rfl ?_
   refine .next ?_
   refine .seq ?_
   refine .region ?_
   refine .step rfl (.move rfl rfl) ?_
   refine .step rfl (.append0 6 rfl rfl rfl ap44 rfl rfl trivial (flat_one (fun _ => rfl) _) (by omega) (by omega)) ?_
   refine .step rfl (.buildsl (ds := bdv 1) 7 rfl rfl rfl ap44 zc5 rfl rfl rfl) ?_
   refine .step rfl (.append 8 rfl rfl rfl (by rw [flat_length (sz := 1) (fun _ => rfl)]) rfl ap44 rfl rfl (okA_len rfl rfl) rfl (by omega) (by omega)) ?_
   refine .frz 54 (slT bdv 1 (putB m ++ [1])) rfl rfl (by rw [← hcat, flat_length (sz := 1) (fun _ => rfl), List.length_append]; rfl) (by unfold slT; rw [← hcat, List.length_append]; rfl) ?_
   refine .step rfl (.callc rfl cf24 rfl (r3)) ?_
   refine .step rfl (.move rfl rfl) ?_
   refine .step rfl (.extract rfl rfl rfl rfl) ?_
   refine .step rfl (.extract rfl rfl rfl rfl) ?_
   refine .step rfl (.alloc 9 rfl rfl zc30 rfl) ?_
   refine .step rfl (.store rfl rfl rfl sz30 rfl rfl) ?_
   refine .step rfl (.assign rfl rfl) ?_
   refine .nil ?_
   refine TE.obj 9 (.box 30 (Pf.dv zeroP)) rfl rfl ?_
   refine .next ?_
   refine .seq ?_
   refine .region ?_
   refine .step rfl (.move rfl rfl) ?_
   refine .step rfl (.binv (.bool true) rfl rfl rfl rfl (rfl)) ?_
   refine .step rfl (.move rfl rfl) ?_
   refine .go 60 rfl rfl rfl rfl (.ldpm (ds := Pf.dv m) rfl rfl rfl rfl rfl rfl tk30) ?_
   refine .go 60 rfl rfl rfl rfl (.ldpm (ds := Pf.dv m) rfl rfl rfl rfl rfl rfl tk30) ?_
   refine .go 60 rfl rfl rfl rfl (.callf rfl cf13 rfl ⟨trivial, trivial, trivial⟩ (samep_pf m (by omega))) ?_
   refine .step rfl (.pick rfl rfl rfl) ?_
   refine .step rfl (.move rfl rfl) ?_
   refine .go 65 rfl rfl rfl rfl (.move rfl rfl) ?_
   refine .go 65 rfl rfl rfl rfl (.len rfl rfl ⟨_, _, rfl⟩ is44) ?_
   refine .go 65 rfl rfl rfl rfl (.fieldp rfl rfl rfl rfl fo30_0) ?_
   refine .go 65 rfl rfl rfl rfl (.ldp rfl rfl rfl rfl rfl tk26) ?_
   refine .go 65 rfl rfl rfl rfl (.len rfl rfl ⟨_, _, rfl⟩ is26) ?_
   refine .go 65 rfl rfl rfl rfl (.binv (.int .i64 ((32 * m.path.length : Nat) : Int)) rfl rfl rfl rfl (congrArg _ (by (try dsimp only); rw [IntKind.wrap_i64]; omega))) ?_
   refine .go 65 rfl rfl rfl rfl (.binv (.int .i64 ((80 + 32 * m.path.length : Nat) : Int)) rfl rfl rfl rfl (congrArg _ (by (try dsimp only); rw [IntKind.wrap_i64]; omega))) ?_
   refine .go 65 rfl rfl rfl rfl (.binv (.bool true) rfl rfl rfl rfl (congrArg Value.bool (decide_eq_true (by rw [hbl])))) ?_
   refine .step rfl (.pick rfl rfl rfl) ?_
   refine .step rfl (.move rfl rfl) ?_
   refine .go 75 rfl rfl rfl rfl (.move rfl rfl) ?_
   refine .go 75 rfl rfl rfl rfl (.binv (.bool true) rfl rfl rfl rfl (rfl)) ?_
   refine .step rfl (.pick rfl rfl rfl) ?_
   refine .step rfl (.move rfl rfl) ?_
   refine .go 79 rfl rfl rfl rfl (.move rfl rfl) ?_
   refine .go 79 rfl rfl rfl rfl (.binv (.bool true) rfl rfl rfl rfl (rfl)) ?_
   refine .step rfl (.pick rfl rfl rfl) ?_
   refine .step rfl (.assign rfl rfl) ?_
   refine .nil ?_
   refine .next ?_
   refine .ret ?_
   exact TE.retf rfl rfl rfl (by first | trivial | exact pl_v _)
end Go.Proofs.Ytejhgijjegnmnaa

