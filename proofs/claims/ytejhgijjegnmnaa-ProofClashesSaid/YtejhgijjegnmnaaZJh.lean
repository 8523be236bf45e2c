/-
  Proofs' bytes.
-/
import Derived.Test.YtejhgijjegnmnaaZJg
import Derived.Test.YtejhgijjegnmnaaZFh
namespace Go.Proofs.Ytejhgijjegnmnaa
set_option linter.unusedVariables false
set_option linter.unusedSimpArgs false
open Go.RowKit Pl
theorem cf44 : cfn Try.prog 44 = true := by kernel_rfl
theorem cf45 : cfn Try.prog 45 = true := by kernel_rfl
set_option maxRecDepth 100000 in
set_option maxHeartbeats 1600000 in
theorem put_pf (p : Pf) (hp : p.path.length ≤ 1048576) : PF Try.prog 21 [.ag p.dv] (slT bdv 1 (putB p)) := by
  refine PF.enter (fn := Try.f21) Try.func21 rfl Try.ntmps21 rfl (fun w0 => ?_)
  refine .seq ?_
  refine .region ?_
  refine .step rfl (.box 1 rfl rfl rfl rfl) ?_
  refine .step rfl (.assign rfl rfl) ?_
  refine .nil ?_
  refine TE.frzb 1 rfl rfl rfl rfl ?_
  refine .next ?_
  refine .seq ?_
  refine .region ?_
  refine .step rfl (.fielde rfl rfl rfl fo30_0) ?_
  refine .step rfl (.lde rfl rfl rfl rfl tk26) ?_
  refine .step rfl (.len rfl rfl ⟨_, _, rfl⟩ is26) ?_
  refine .step rfl (.conviv (((p.path.length : Nat) : Int)) rfl rfl uk3 uk47 (by rw [IntKind.wrap_u64]; omega)) ?_
  refine .step rfl (.callo 2 rfl rfl cf44 rfl ⟨trivial, trivial⟩ (num_po ((p.path.length : Nat) : Int) (by omega) (by omega))) ?_
  refine .step rfl (.assign rfl rfl) ?_
  refine .nil ?_
  refine TE.obj 2 (.row 5 1 ((putK p 0).flatMap bdv)) rfl (by unfold putK; rw [List.take_zero, List.flatMap_nil, List.append_nil]) ?_
  refine TE.set 3 (.ow 2 (8 + 32 * 0) 1) rfl rfl ?_
  refine .next ?_
  refine .seq ?_
  refine .seq ?_
  refine .region ?_
  refine .step rfl (.fielde rfl rfl rfl fo30_0) ?_
  refine .step rfl (.lde rfl rfl rfl rfl tk26) ?_
  refine .step rfl (.len rfl rfl ⟨_, _, rfl⟩ is26) ?_
  refine .step rfl (.move rfl rfl) ?_
  refine .nil ?_
  refine TE.setv 14 (.int .i64 ((0 : Nat) : Int)) rfl (congrArg _ (by first | rfl | (dsimp only; first | done | rfl | omega))) ?_
  refine .next ?_
  refine .block ?_
  refine TC.loop (S := Nat) (fun k => k ≤ p.path.length) (fun k => p.path.length - k) (fun k => [(1, .d (.el p.dv)), (3, .ow 2 (8 + 32 * k) 1), (12, .d (slT hdv 32 p.path)), (13, .f (.v (.int .i64 ((p.path.length : Nat) : Int)))), (14, .d (.v (.int .i64 ((k : Nat) : Int))))]) (fun k => [(1, .dead), (2, .row 5 1 ((putK p k).flatMap bdv))]) (0) (Nat.zero_le _) ⟨⟨rfl, rfl⟩, ⟨rfl, rfl⟩, ⟨rfl, rfl⟩, ⟨rfl, rfl⟩, ⟨rfl, rfl⟩, trivial⟩ ⟨.inl rfl, .inr rfl, trivial⟩ (fun k hI => ?_)
  refine .seq ?_
  refine .region ?_
  refine .step rfl (.bin rfl rfl rfl rfl) ?_
  refine .nil ?_
  refine .next ?_
  refine .seq ?_
  refine .cond rfl (fun h1 => ?_) (fun h1 => ?_)
  ·skip
   have hk : k < p.path.length := by have q := of_decide_eq_true h1; (try dsimp only at q); omega
   refine .skip ?_
   refine .next ?_
   refine .seq ?_
   refine .block ?_
   refine .seq ?_
   refine .region ?_
   refine .step rfl (.idx (p.path[k]) rfl rfl rfl rfl et26 (fun _ => rfl) (Int.natCast_nonneg _) (get_nat hk)) ?_
   refine .step rfl (.ldem (ds := hdv p.path[k]) rfl rfl rfl rfl rfl tk25) ?_
   refine .step rfl (.alloc 3 rfl rfl zc25 rfl) ?_
   refine .step rfl (.store rfl rfl rfl sz25 rfl rfl) ?_
   refine .nil ?_
   refine TE.obj 3 (.box 25 (hdv p.path[k])) rfl rfl ?_
   refine .next ?_
   refine .region ?_
   refine .step rfl (.move rfl rfl) ?_
   refine .step rfl (.slicep rfl rfl rfl rfl ar25 rfl rfl (by decide) (by decide) (by decide) (by decide) (Nat.le_of_ble_eq_true rfl) (by decide)) ?_
   refine .step rfl (.append 4 rfl rfl rfl (putK_cells p hI) rfl ap44 rfl rfl trivial (h_one _) (by omega) (by omega)) ?_
   refine .step rfl (.assign rfl rfl) ?_
   refine .nil ?_
   refine TE.blk ?_
   refine .next ?_
   refine .region ?_
   refine .step rfl (.binv (.int .i64 ((k + 1 : Nat) : Int)) rfl rfl rfl rfl (congrArg _ (by (try dsimp only); rw [IntKind.wrap_i64]; omega))) ?_
   refine .step rfl (.move rfl rfl) ?_
   refine .nil ?_
   refine TE.obj 4 (.row 5 1 ((putK p (k + 1)).flatMap bdv)) rfl (congrArg (AO.row _ _) (putK_step p hk)) ?_
   refine TE.set 3 (.ow 4 (8 + 32 * (k + 1)) 1) rfl (congrArg (fun n => AV.ow _ n 1) (by omega)) ?_
   refine TE.setv 14 (.int .i64 ((k + 1 : Nat) : Int)) rfl (congrArg _ (by first | rfl | (dsimp only; first | done | rfl | omega))) ?_
   exact TE.round (swp 2 4) (swp_inj 2 4) (k + 1) (by omega) (by omega) ⟨⟨rfl, rfl⟩, ⟨rfl, rfl⟩, ⟨rfl, rfl⟩, ⟨rfl, rfl⟩, ⟨rfl, rfl⟩, trivial⟩ ⟨.inl rfl, .inr rfl, trivial⟩
  ·skip
   have hk : ¬ (k < p.path.length) := by have q := of_decide_eq_false h1; (try dsimp only at q); omega
   have e : k = p.path.length := by have : k ≤ p.path.length := hI; omega
   subst e
   clear hI
   refine .exit ?_
   refine TE.pass ?_
   refine TE.pass ?_
   refine TE.here ?_
   refine .next ?_
   refine .seq ?_
   refine TC.frz 3 (slT bdv 1 (putK p p.path.length)) rfl rfl (putK_cells p (Nat.le_refl _)) (by unfold slT; rw [putK_len p (Nat.le_refl _)]) ?_
   refine .draw mixed [Ro.mk _ (Eff.mk (some (22, _)) []) [], Ro.mk _ (Eff.mk (some (23, _)) []) [], Ro.mk _ (Eff.mk (some (24, _)) []) [], Ro.mk _ (Eff.mk (some (25, _)) []) [], Ro.mk _ (Eff.mk (some (26, _)) []) [], Ro.mk _ (Eff.mk (some (27, _)) []) [], Ro.mk _ (Eff.mk (some (28, _)) []) [], Ro.mk _ (Eff.mk (some (29, _)) []) [], Ro.mk _ (Eff.mk (some (30, _)) []) [], Ro.mk _ (Eff.mk (some (31, _)) []) [], Ro.mk _ (Eff.mk (some (32, _)) []) [], Ro.mk _ (Eff.mk (some (33, _)) [(5, _)]) [5], Ro.mk _ (Eff.mk (some (34, _)) []) [5], Ro.mk _ (Eff.mk (some (2, _)) []) []] rfl ⟨(fun _ _ => .move rfl rfl), (fun _ _ => .fielde rfl rfl rfl fo30_1), (fun _ _ => .lde rfl rfl rfl rfl tk3), (fun _ _ => .conviv (u64w p.en) rfl rfl uk3 uk47 (rfl)), (fun _ _ => .callf rfl cf44 rfl ⟨trivial, trivial⟩ (num_pf (u64w p.en) (u64w_bd _).1 (u64w_bd _).2)), (fun _ _ => .fielde rfl rfl rfl fo30_2), (fun _ _ => .fielde rfl rfl rfl fo28_0), (fun _ _ => .slicee rfl rfl rfl ar25 (Nat.le_of_ble_eq_true rfl) (by decide)), (fun _ _ => .fielde rfl rfl rfl fo30_2), (fun _ _ => .fielde rfl rfl rfl fo28_1), (fun _ _ => .slicee rfl rfl rfl ar25 (Nat.le_of_ble_eq_true rfl) (by decide)), (fun _ _ => .buildsl 5 rfl rfl rfl ap48 zc44 rfl rfl rfl), (fun _ _ => .callf rfl cf45 rfl ⟨okA_len rfl rfl, trivial⟩ (join_pf [putK p p.path.length, numB (u64w p.en), H.l p.it.ix, H.l p.it.vl] (putJ_len p hp) (Nat.le_of_ble_eq_true rfl))), (fun _ _ => .assign rfl rfl), trivial⟩ (by kernel_rfl) ?_
   refine .next ?_
   refine .ret ?_
   exact TE.retf rfl rfl rfl trivial
set_option maxRecDepth 100000 in
set_option maxHeartbeats 1600000 in
theorem rput_po (p : Pf) (hp : p.path.length ≤ 1048576) : PO Try.prog 22 [.ag p.dv] 5 1 (putB p).length ((putB p).flatMap bdv) := by
  refine PO.enter (fn := Try.f22) Try.func22 rfl Try.ntmps22 rfl (fun w0 => ?_)
  refine .seq ?_
  refine .region ?_
  refine .step rfl (.box 1 rfl rfl rfl rfl) ?_
  refine .step rfl (.assign rfl rfl) ?_
  refine .nil ?_
  refine TE.frzb 1 rfl rfl rfl rfl ?_
  refine .next ?_
  refine .seq ?_
  refine .region ?_
  refine .step rfl (.fielde rfl rfl rfl fo30_0) ?_
  refine .step rfl (.lde rfl rfl rfl rfl tk26) ?_
  refine .step rfl (.len rfl rfl ⟨_, _, rfl⟩ is26) ?_
  refine .step rfl (.conviv (((p.path.length : Nat) : Int)) rfl rfl uk3 uk47 (by rw [IntKind.wrap_u64]; omega)) ?_
  refine .step rfl (.callo 2 rfl rfl cf23 rfl ⟨trivial, trivial⟩ (rnum_po ((p.path.length : Nat) : Int) (by omega) (by omega))) ?_
  refine .step rfl (.assign rfl rfl) ?_
  refine .nil ?_
  refine TE.obj 2 (.row 5 1 ((putK p 0).flatMap bdv)) rfl (by unfold putK; rw [List.take_zero, List.flatMap_nil, List.append_nil]) ?_
  refine TE.set 3 (.ow 2 (8 + 32 * 0) 1) rfl rfl ?_
  refine .next ?_
  refine .seq ?_
  refine .seq ?_
  refine .region ?_
  refine .step rfl (.assign rfl rfl) ?_
  refine .nil ?_
  refine TE.setv 4 (.int .i64 ((0 : Nat) : Int)) rfl (congrArg _ (by first | rfl | (dsimp only; first | done | rfl | omega))) ?_
  refine .next ?_
  refine .block ?_
  refine TC.loop (S := Nat) (fun k => k ≤ p.path.length) (fun k => p.path.length - k) (fun k => [(1, .d (.el p.dv)), (3, .ow 2 (8 + 32 * k) 1), (4, .d (.v (.int .i64 ((k : Nat) : Int))))]) (fun k => [(1, .dead), (2, .row 5 1 ((putK p k).flatMap bdv))]) (0) (Nat.zero_le _) ⟨⟨rfl, rfl⟩, ⟨rfl, rfl⟩, ⟨rfl, rfl⟩, trivial⟩ ⟨.inl rfl, .inr rfl, trivial⟩ (fun k hI => ?_)
  refine .seq ?_
  refine .seq ?_
  refine .region ?_
  refine .step rfl (.move rfl rfl) ?_
  refine .step rfl (.fielde rfl rfl rfl fo30_0) ?_
  refine .step rfl (.lde rfl rfl rfl rfl tk26) ?_
  refine .step rfl (.len rfl rfl ⟨_, _, rfl⟩ is26) ?_
  refine .step rfl (.bin rfl rfl rfl rfl) ?_
  refine .nil ?_
  refine .next ?_
  refine .cond rfl (fun h1 => ?_) (fun h1 => ?_)
  ·skip
   have hk : k < p.path.length := by have q := of_decide_eq_true h1; (try dsimp only at q); omega
   refine .skip ?_
   refine .next ?_
   refine .seq ?_
   refine .block ?_
   refine .region ?_
   refine .step rfl (.move rfl rfl) ?_
   refine .step rfl (.fielde rfl rfl rfl fo30_0) ?_
   refine .step rfl (.lde rfl rfl rfl rfl tk26) ?_
   refine .step rfl (.move rfl rfl) ?_
   refine .step rfl (.idx (p.path[k]) rfl rfl rfl rfl et26 (fun _ => rfl) (Int.natCast_nonneg _) (get_nat hk)) ?_
   refine .step rfl (.slicee rfl rfl rfl ar25 (Nat.le_of_ble_eq_true rfl) (by decide)) ?_
   refine .step rfl (.append 3 rfl rfl rfl (putK_cells p hI) rfl ap44 rfl rfl trivial (h_one _) (by omega) (by omega)) ?_
   refine .step rfl (.assign rfl rfl) ?_
   refine .nil ?_
   refine TE.blk ?_
   refine .next ?_
   refine .region ?_
   refine .step rfl (.move rfl rfl) ?_
   refine .step rfl (.binv (.int .i64 ((k + 1 : Nat) : Int)) rfl rfl rfl rfl (congrArg _ (by (try dsimp only); rw [IntKind.wrap_i64]; omega))) ?_
   refine .step rfl (.assign rfl rfl) ?_
   refine .nil ?_
   refine TE.obj 3 (.row 5 1 ((putK p (k + 1)).flatMap bdv)) rfl (congrArg (AO.row _ _) (putK_step p hk)) ?_
   refine TE.set 3 (.ow 3 (8 + 32 * (k + 1)) 1) rfl (congrArg (fun n => AV.ow _ n 1) (by omega)) ?_
   refine TE.setv 4 (.int .i64 ((k + 1 : Nat) : Int)) rfl (congrArg _ (by first | rfl | (dsimp only; first | done | rfl | omega))) ?_
   exact TE.round (swp 2 3) (swp_inj 2 3) (k + 1) (by omega) (by omega) ⟨⟨rfl, rfl⟩, ⟨rfl, rfl⟩, ⟨rfl, rfl⟩, trivial⟩ ⟨.inl rfl, .inr rfl, trivial⟩
  ·skip
   have hk : ¬ (k < p.path.length) := by have q := of_decide_eq_false h1; (try dsimp only at q); omega
   have e : k = p.path.length := by have : k ≤ p.path.length := hI; omega
   subst e
   clear hI
   refine .exit ?_
   refine TE.pass ?_
   refine TE.pass ?_
   refine TE.here ?_
   refine .next ?_
   refine .seq ?_
   refine .region ?_
   refine .step rfl (.move rfl rfl) ?_
   refine .step rfl (.fielde rfl rfl rfl fo30_1) ?_
   refine .step rfl (.lde rfl rfl rfl rfl tk3) ?_
   refine .step rfl (.conviv (u64w p.en) rfl rfl uk3 uk47 (rfl)) ?_
   refine .step rfl (.callf rfl cf23 rfl ⟨trivial, trivial⟩ (rnum_pf (u64w p.en) (u64w_bd _).1 (u64w_bd _).2)) ?_
   refine .step rfl (.append 4 rfl rfl rfl (putK_cells p (Nat.le_refl _)) rfl ap44 rfl rfl trivial (flat_one (fun _ => rfl) _) (by rw [numB_len]; omega) (by rw [numB_len]; omega)) ?_
   refine .step rfl (.assign rfl rfl) ?_
   refine .nil ?_
   refine TE.obj 4 (.row 5 1 ((putK p p.path.length ++ numB (u64w p.en)).flatMap bdv)) rfl (congrArg (AO.row _ _) (List.flatMap_append ..).symm) ?_
   refine TE.set 3 (.ow 4 (16 + 32 * p.path.length) 1) rfl (congrArg (fun n => AV.ow _ n 1) (by rw [numB_len]; omega)) ?_
   refine .next ?_
   refine .seq ?_
   refine .draw mixed [Ro.mk _ (Eff.mk (some (30, _)) []) [], Ro.mk _ (Eff.mk (some (31, _)) []) [], Ro.mk _ (Eff.mk (some (32, _)) []) [], Ro.mk _ (Eff.mk (some (33, _)) []) [], Ro.mk _ (Eff.mk (some (34, _)) [(4, .dead), (5, _)]) [4, 5], Ro.mk _ (Eff.mk (some (35, _)) []) [], Ro.mk _ (Eff.mk (some (36, _)) []) [], Ro.mk _ (Eff.mk (some (37, _)) []) [], Ro.mk _ (Eff.mk (some (38, _)) [(5, .dead), (6, _)]) [5, 6], Ro.mk _ (Eff.mk (some (2, _)) []) []] rfl ⟨(fun _ _ => .move rfl rfl), (fun _ _ => .fielde rfl rfl rfl fo30_2), (fun _ _ => .fielde rfl rfl rfl fo28_0), (fun _ _ => .slicee rfl rfl rfl ar25 (Nat.le_of_ble_eq_true rfl) (by decide)), (fun _ _ => .append 5 rfl rfl rfl (putQ_cells p) rfl ap44 rfl rfl trivial (h_one _) (by omega) (by omega)), (fun _ _ => .fielde rfl rfl rfl fo30_2), (fun _ _ => .fielde rfl rfl rfl fo28_1), (fun _ _ => .slicee rfl rfl rfl ar25 (Nat.le_of_ble_eq_true rfl) (by decide)), (fun _ _ => .append 6 rfl rfl rfl (putR_cells p) rfl ap44 rfl rfl trivial (h_one _) (by omega) (by omega)), (fun _ _ => .assign rfl rfl), trivial⟩ (by kernel_rfl) ?_
   refine .next ?_
   refine .ret ?_
   refine TE.obj 6 (.row 5 1 ((putB p).flatMap bdv)) rfl (congrArg (AO.row _ _) (by rw [← putB_app]; simp only [List.flatMap_append]; rfl)) ?_
   refine TE.set 2 (.ow 6 (putB p).length 1) rfl (congrArg (fun n => AV.ow _ n 1) (by rw [putB_len]; omega)) ?_
   exact TE.retof rfl rfl rfl (by rw [flat_length (sz := 1) (fun _ => rfl)]) (by decide) (pl_flat (fun b Y hY => by simp [bdv] at hY; subst hY; exact pl_v _) _)
theorem rput_pf (p : Pf) (hp : p.path.length ≤ 1048576) : PF Try.prog 22 [.ag p.dv] (slT bdv 1 (putB p)) := (rput_po p hp).pf
end Go.Proofs.Ytejhgijjegnmnaa

