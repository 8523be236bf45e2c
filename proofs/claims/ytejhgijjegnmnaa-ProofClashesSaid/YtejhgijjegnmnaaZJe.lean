/-
  What proofs prove, of both sides; proofs compared.
-/
import Derived.Test.YtejhgijjegnmnaaZJd
namespace Go.Proofs.Ytejhgijjegnmnaa
set_option linter.unusedVariables false
set_option linter.unusedSimpArgs false
open Go.RowKit Pl
theorem cf19 : cfn Try.prog 19 = true := by kernel_rfl
theorem cf20 : cfn Try.prog 20 = true := by kernel_rfl
theorem cf37 : cfn Try.prog 37 = true := by kernel_rfl
theorem cf41 : cfn Try.prog 41 = true := by kernel_rfl
theorem cf43 : cfn Try.prog 43 = true := by kernel_rfl
theorem tk30 : tyk Try.prog 30 = some (some 66) := by kernel_rfl
set_option maxRecDepth 100000 in
set_option maxHeartbeats 1600000 in
theorem check_pc (root ix : H) (p : Pf) : PC Try.prog 17 [.ag (hdv (root)), .ag (hdv (ix)), .ag p.dv] (.tp [.ag (hdv (checkV root ix p).1), .v (.bool (checkV root ix p).2.1), .v (.bool (checkV root ix p).2.2)]) := by
  refine PC.enter (fn := Try.f17) Try.func17 rfl Try.ntmps17 rfl (fun w0 K0 => ?_)
  refine .seq ?_
  refine .region ?_
  refine .step rfl (.box 1 rfl rfl rfl rfl) ?_
  refine .step rfl (.box 2 rfl rfl rfl rfl) ?_
  refine .step rfl (.box 3 rfl rfl rfl rfl) ?_
  refine .step rfl (.alloc 4 rfl rfl zc25 rfl) ?_
  refine .step rfl (.assign rfl rfl) ?_
  refine .step rfl (.assign rfl rfl) ?_
  refine .nil ?_
  refine TE.frzb 3 rfl rfl rfl rfl ?_
  refine TE.frzb 4 rfl rfl rfl rfl ?_
  refine TE.frzb 5 rfl rfl rfl rfl ?_
  refine .next ?_
  refine .seq ?_
  refine .seq ?_
  refine .region ?_
  refine .step rfl (.ldem (ds := hdv ix) rfl rfl rfl rfl rfl tk25) ?_
  refine .step rfl (.ldem (ds := p.dv) rfl rfl rfl rfl rfl tk30) ?_
  refine .step rfl (.callf rfl cf19 rfl ⟨trivial, trivial, trivial⟩ (pfright_pf ix p)) ?_
  refine .step rfl (.un rfl rfl rfl) ?_
  refine .nil ?_
  refine .next ?_
  refine .cond rfl (fun h1 => ?_) (fun h1 => ?_)
  ·skip
   have hR : rightF ix p = false := by simpa using h1
   refine .seq ?_
   refine .region ?_
   refine .step rfl (.build (ds := hdv zeroH) rfl rfl sp25 rfl rfl) ?_
   refine .step rfl (.store rfl rfl rfl sz25 rfl rfl) ?_
   refine .step rfl (.assign rfl rfl) ?_
   refine .step rfl (.assign rfl rfl) ?_
   refine .nil ?_
   refine .next ?_
   refine .ret ?_
   rw [show checkV root ix p = (zeroH, false, false) from checkV_wrong hR]
   exact TE.rettc rfl rfl rfl
  ·skip
   have hR : rightF ix p = true := by simpa using h1
   have hlen := rightF_short hR
   refine .skip ?_
   refine .next ?_
   refine .seq ?_
   refine .region ?_
   refine .step rfl (.ldem (ds := hdv ix) rfl rfl rfl rfl rfl tk25) ?_
   refine .step rfl (.ldem (ds := p.dv) rfl rfl rfl rfl rfl tk30) ?_
   refine .step rfl (.callc rfl cf41 rfl (texts_pc ix p (by omega))) ?_
   refine .step rfl (.move rfl rfl) ?_
   refine .step rfl (.extract rfl rfl rfl rfl) ?_
   refine .step rfl (.extract rfl rfl rfl rfl) ?_
   refine .step rfl (.alloc 5 rfl rfl zc25 rfl) ?_
   refine .step rfl (.assign rfl rfl) ?_
   refine .step rfl (.store rfl rfl rfl sz25 rfl rfl) ?_
   refine .nil ?_
   refine .next ?_
   refine .seq ?_
   refine .block ?_
   refine .seq ?_
   refine .region ?_
   refine .step rfl (.ldpm (ds := hdv (txH ix p p.path.length)) rfl rfl rfl rfl rfl rfl tk25) ?_
   refine .step rfl (.ldem (ds := hdv root) rfl rfl rfl rfl rfl tk25) ?_
   refine .step rfl (.neh (a := txH ix p p.path.length) (b := root) rfl rfl rfl qh25) ?_
   refine .step rfl (.assign rfl rfl) ?_
   refine .nil ?_
   refine .next ?_
   refine .cond rfl (fun h2 => ?_) (fun h2 => ?_)
   ·skip
    have hr : ¬ H.l (txH ix p p.path.length) = H.l root := of_decide_eq_true h2
    refine .seq ?_
    refine .region ?_
    refine .step rfl (.build (ds := hdv zeroH) rfl rfl sp25 rfl rfl) ?_
    refine .step rfl (.store rfl rfl rfl sz25 rfl rfl) ?_
    refine .step rfl (.assign rfl rfl) ?_
    refine .step rfl (.assign rfl rfl) ?_
    refine .nil ?_
    refine .next ?_
    refine .ret ?_
    rw [show checkV root ix p = (zeroH, false, false) from checkV_root hR hr]
    exact TE.rettc rfl rfl rfl
   ·skip
    have hr : H.l (txH ix p p.path.length) = H.l root := by have q := of_decide_eq_false h2; exact Classical.byContradiction q
    refine .seq ?_
    refine .region ?_
    refine .step rfl (.fielde rfl rfl rfl fo30_1) ?_
    refine .step rfl (.lde rfl rfl rfl rfl tk3) ?_
    refine .step rfl (.bin rfl rfl rfl rfl) ?_
    refine .step rfl (.assign rfl rfl) ?_
    refine .nil ?_
    refine .next ?_
    refine .cond rfl (fun h3 => ?_) (fun h3 => ?_)
    ·skip
     have he0 : p.en = 0 := of_decide_eq_true h3
     refine .seq ?_
     refine .region ?_
     refine .step rfl (.fielde rfl rfl rfl fo30_2) ?_
     refine .step rfl (.fielde rfl rfl rfl fo28_1) ?_
     refine .step rfl (.ldem (ds := hdv p.it.vl) rfl rfl rfl rfl rfl tk25) ?_
     refine .step rfl (.store rfl rfl rfl sz25 rfl rfl) ?_
     refine .step rfl (.assign rfl rfl) ?_
     refine .step rfl (.assign rfl rfl) ?_
     refine .nil ?_
     refine .next ?_
     refine .ret ?_
     rw [show checkV root ix p = (p.it.vl, true, true) from checkV_here hR hr he0]
     exact TE.rettc rfl rfl rfl
    ·skip
     have he0 : ¬ p.en = 0 := of_decide_eq_false h3
     refine .skip ?_
     refine TE.blk ?_
     refine .next ?_
     refine .seq ?_
     refine .region ?_
     refine .step rfl (.build (ds := hdv zeroH) rfl rfl sp25 rfl rfl) ?_
     refine .step rfl (.store rfl rfl rfl sz25 rfl rfl) ?_
     refine .step rfl (.assign rfl rfl) ?_
     refine .step rfl (.assign rfl rfl) ?_
     refine .nil ?_
     refine .next ?_
     refine .ret ?_
     rw [show checkV root ix p = (zeroH, false, true) from checkV_no hR hr he0]
     exact TE.rettc rfl rfl rfl
set_option maxRecDepth 100000 in
set_option maxHeartbeats 1600000 in
theorem rcheck_pc (root ix : H) (p : Pf) : PC Try.prog 18 [.ag (hdv (root)), .ag (hdv (ix)), .ag p.dv] (.tp [.ag (hdv (checkV root ix p).1), .v (.bool (checkV root ix p).2.1), .v (.bool (checkV root ix p).2.2)]) := by
  refine PC.enter (fn := Try.f18) Try.func18 rfl Try.ntmps18 rfl (fun w0 K0 => ?_)
  refine .seq ?_
  refine .region ?_
  refine .step rfl (.box 1 rfl rfl rfl rfl) ?_
  refine .step rfl (.box 2 rfl rfl rfl rfl) ?_
  refine .step rfl (.box 3 rfl rfl rfl rfl) ?_
  refine .step rfl (.alloc 4 rfl rfl zc25 rfl) ?_
  refine .step rfl (.assign rfl rfl) ?_
  refine .step rfl (.assign rfl rfl) ?_
  refine .nil ?_
  refine TE.frzb 3 rfl rfl rfl rfl ?_
  refine TE.frzb 4 rfl rfl rfl rfl ?_
  refine TE.frzb 5 rfl rfl rfl rfl ?_
  obtain ⟨b, hR⟩ : ∃ b, rightF ix p = b := ⟨_, rfl⟩
  have cR : PF Try.prog 20 [.ag (hdv (ix)), .ag p.dv] (.v (.bool b)) := hR ▸ pfrright_pf ix p
  refine .next ?_
  refine .seq ?_
  refine .seq ?_
  cases b with
  | true =>
   have hlen := rightF_short hR
   obtain ⟨E, r, hE, hS, hEl⟩ := tx_head (ix := ix) (p := p) p.path.length (Nat.le_refl _)
   have cT : PC Try.prog 43 [.ag (hdv (ix)), .ag p.dv] (slT ldv 1 (E :: r)) := hE ▸ rtexts_pc ix p (by omega)
   refine .draw mixed [Ro.mk _ (Eff.mk (some (9, _)) []) [], Ro.mk _ (Eff.mk (some (10, _)) []) [], Ro.mk _ (Eff.mk (some (11, _)) []) [], Ro.mk _ (Eff.mk (some (12, _)) []) [], Ro.mk _ (Eff.mk (some (13, _)) []) [], Ro.mk _ (Eff.mk (some (14, _)) []) [], Ro.mk _ (Eff.mk (some (15, _)) []) [], Ro.mk _ (Eff.mk (some (16, _)) []) [], Ro.mk _ (Eff.mk (some (17, _)) []) [], Ro.mk _ (Eff.mk (some (18, _)) []) [], Ro.mk _ (Eff.mk (some (19, _)) []) [], Ro.mk _ (Eff.mk (some (20, _)) []) [], Ro.mk _ (Eff.mk (some (21, _)) []) [], Ro.mk _ (Eff.mk (some (22, _)) []) []] rfl ⟨(fun _ _ => .ldem (ds := hdv ix) rfl rfl rfl rfl rfl tk25), (fun _ _ => .ldem (ds := p.dv) rfl rfl rfl rfl rfl tk30), (fun _ _ => .callf rfl cf20 rfl ⟨trivial, trivial, trivial⟩ (cR)), (fun _ _ => .un rfl rfl rfl), (fun _ _ => .move rfl rfl), (.inr ⟨13, _, rfl, rfl, rfl, rfl, fun _ _ => .ldem (ds := hdv ix) rfl rfl rfl rfl rfl tk25⟩), (.inr ⟨13, _, rfl, rfl, rfl, rfl, fun _ _ => .ldem (ds := p.dv) rfl rfl rfl rfl rfl tk30⟩), (.inr ⟨13, _, rfl, rfl, rfl, rfl, fun _ _ => .callc rfl cf43 rfl (cT)⟩), (.inr ⟨13, _, rfl, rfl, rfl, rfl, fun _ _ => .idx (E) rfl rfl rfl rfl et48 (fun _ => rfl) (by decide) rfl⟩), (.inr ⟨13, _, rfl, rfl, rfl, rfl, fun _ _ => .lde rfl rfl rfl rfl tk44⟩), (.inr ⟨13, _, rfl, rfl, rfl, rfl, fun _ _ => .callf rfl cf42 rfl ⟨trivial, trivial⟩ (rsum_pf E hEl)⟩), (.inr ⟨13, _, rfl, rfl, rfl, rfl, fun _ _ => .ldem (ds := hdv root) rfl rfl rfl rfl rfl tk25⟩), (.inr ⟨13, _, rfl, rfl, rfl, rfl, fun _ _ => .neh (a := sumH E) (b := root) rfl rfl rfl qh25⟩), (fun _ _ => .pick rfl rfl rfl), trivial⟩ (by kernel_rfl) ?_
   refine .next ?_
   refine .cond rfl (fun h2 => ?_) (fun h2 => ?_)
   ·skip
    rw [hS] at h2
    have hr : ¬ H.l (txH ix p p.path.length) = H.l root := of_decide_eq_true h2
    refine .seq ?_
    refine .region ?_
    refine .step rfl (.build (ds := hdv zeroH) rfl rfl sp25 rfl rfl) ?_
    refine .step rfl (.store rfl rfl rfl sz25 rfl rfl) ?_
    refine .step rfl (.assign rfl rfl) ?_
    refine .step rfl (.assign rfl rfl) ?_
    refine .nil ?_
    refine .next ?_
    refine .ret ?_
    rw [show checkV root ix p = (zeroH, false, false) from checkV_root hR hr]
    exact TE.rettc rfl rfl rfl
   ·skip
    rw [hS] at h2
    have hr : H.l (txH ix p p.path.length) = H.l root := by have q := of_decide_eq_false h2; exact Classical.byContradiction q
    refine .skip ?_
    refine .next ?_
    refine .seq ?_
    refine .seq ?_
    refine .region ?_
    refine .step rfl (.fielde rfl rfl rfl fo30_1) ?_
    refine .step rfl (.lde rfl rfl rfl rfl tk3) ?_
    refine .step rfl (.bin rfl rfl rfl rfl) ?_
    refine .nil ?_
    refine .next ?_
    refine .cond rfl (fun h3 => ?_) (fun h3 => ?_)
    ·skip
     have he0 : p.en = 0 := of_decide_eq_true h3
     refine .seq ?_
     refine .region ?_
     refine .step rfl (.fielde rfl rfl rfl fo30_2) ?_
     refine .step rfl (.fielde rfl rfl rfl fo28_1) ?_
     refine .step rfl (.ldem (ds := hdv p.it.vl) rfl rfl rfl rfl rfl tk25) ?_
     refine .step rfl (.store rfl rfl rfl sz25 rfl rfl) ?_
     refine .step rfl (.assign rfl rfl) ?_
     refine .step rfl (.assign rfl rfl) ?_
     refine .nil ?_
     refine .next ?_
     refine .ret ?_
     rw [show checkV root ix p = (p.it.vl, true, true) from checkV_here hR hr he0]
     exact TE.rettc rfl rfl rfl
    ·skip
     have he0 : ¬ p.en = 0 := of_decide_eq_false h3
     refine .skip ?_
     refine .next ?_
     refine .seq ?_
     refine .region ?_
     refine .step rfl (.build (ds := hdv zeroH) rfl rfl sp25 rfl rfl) ?_
     refine .step rfl (.store rfl rfl rfl sz25 rfl rfl) ?_
     refine .step rfl (.assign rfl rfl) ?_
     refine .step rfl (.assign rfl rfl) ?_
     refine .nil ?_
     refine .next ?_
     refine .ret ?_
     rw [show checkV root ix p = (zeroH, false, true) from checkV_no hR hr he0]
     exact TE.rettc rfl rfl rfl
  | false =>
   refine .draw mixed [Ro.mk _ (Eff.mk (some (9, _)) []) [], Ro.mk _ (Eff.mk (some (10, _)) []) [], Ro.mk _ (Eff.mk (some (11, _)) []) [], Ro.mk _ (Eff.mk (some (12, _)) []) [], Ro.mk _ (Eff.mk (some (13, _)) []) [], Ro.mk _ (Eff.mk (some (14, _)) []) [], Ro.mk _ (Eff.mk (some (15, _)) []) [], Ro.mk _ (Eff.mk (some (16, _)) []) [], Ro.mk _ (Eff.mk (some (17, _)) []) [], Ro.mk _ (Eff.mk (some (18, _)) []) [], Ro.mk _ (Eff.mk (some (19, _)) []) [], Ro.mk _ (Eff.mk (some (20, _)) []) [], Ro.mk _ (Eff.mk (some (21, _)) []) [], Ro.mk _ (Eff.mk (some (22, _)) []) []] rfl ⟨(fun _ _ => .ldem (ds := hdv ix) rfl rfl rfl rfl rfl tk25), (fun _ _ => .ldem (ds := p.dv) rfl rfl rfl rfl rfl tk30), (fun _ _ => .callf rfl cf20 rfl ⟨trivial, trivial, trivial⟩ (cR)), (fun _ _ => .un rfl rfl rfl), (fun _ _ => .move rfl rfl), (.inr ⟨13, _, rfl, rfl, rfl, rfl, 14, rfl, rfl, rfl⟩), (.inr ⟨13, _, rfl, rfl, rfl, rfl, 15, rfl, rfl, rfl⟩), (.inr ⟨13, _, rfl, rfl, rfl, rfl, 16, rfl, rfl, rfl⟩), (.inr ⟨13, _, rfl, rfl, rfl, rfl, 17, rfl, rfl, rfl⟩), (.inr ⟨13, _, rfl, rfl, rfl, rfl, 18, rfl, rfl, rfl⟩), (.inr ⟨13, _, rfl, rfl, rfl, rfl, 19, rfl, rfl, rfl⟩), (.inr ⟨13, _, rfl, rfl, rfl, rfl, 20, rfl, rfl, rfl⟩), (.inr ⟨13, _, rfl, rfl, rfl, rfl, 21, rfl, rfl, rfl⟩), (fun _ _ => .pick rfl rfl rfl), trivial⟩ (by kernel_rfl) ?_
   refine .next ?_
   refine .cond rfl (fun h4 => ?_) (fun h4 => absurd h4 (by decide))
   refine .seq ?_
   refine .region ?_
   refine .step rfl (.build (ds := hdv zeroH) rfl rfl sp25 rfl rfl) ?_
   refine .step rfl (.store rfl rfl rfl sz25 rfl rfl) ?_
   refine .step rfl (.assign rfl rfl) ?_
   refine .step rfl (.assign rfl rfl) ?_
   refine .nil ?_
   refine .next ?_
   refine .ret ?_
   rw [show checkV root ix p = (zeroH, false, false) from checkV_wrong hR]
   exact TE.rettc rfl rfl rfl
set_option maxRecDepth 100000 in
set_option maxHeartbeats 1600000 in
theorem sameh_pf (x : List H) (hx : x.length ≤ 1048576) : PF Try.prog 37 [slT hdv 32 x, slT hdv 32 x] (.v (.bool true)) := by
  refine PF.enter (fn := Try.f37) Try.func37 rfl Try.ntmps37 rfl (fun w0 => ?_)
  refine .seq ?_
  refine .region ?_
  refine .step rfl (.assign rfl rfl) ?_
  refine .nil ?_
  refine .next ?_
  refine .seq ?_
  refine .seq ?_
  refine .region ?_
  refine .step rfl (.move rfl rfl) ?_
  refine .step rfl (.len rfl rfl ⟨_, _, rfl⟩ is26) ?_
  refine .step rfl (.move rfl rfl) ?_
  refine .step rfl (.len rfl rfl ⟨_, _, rfl⟩ is26) ?_
  refine .step rfl (.binv (.bool false) rfl rfl rfl rfl (by simp)) ?_
  refine .nil ?_
  refine .next ?_
  refine .cond rfl (fun h1 => absurd h1 (by decide)) (fun h1 => ?_)
  refine .skip ?_
  refine .next ?_
  refine .seq ?_
  refine .seq ?_
  refine .region ?_
  refine .step rfl (.assign rfl rfl) ?_
  refine .nil ?_
  refine TE.setv 5 (.int .i64 ((0 : Nat) : Int)) rfl (congrArg _ (by first | rfl | (dsimp only; first | done | rfl | omega))) ?_
  refine .next ?_
  refine .block ?_
  refine TC.loop (S := Nat) (fun i => i ≤ x.length) (fun i => x.length - i) (fun i => [(0, .d (slT hdv 32 x)), (1, .d (slT hdv 32 x)), (5, .d (.v (.int .i64 ((i : Nat) : Int))))]) (fun i => []) (0) (Nat.zero_le _) ⟨⟨rfl, rfl⟩, ⟨rfl, rfl⟩, ⟨rfl, rfl⟩, trivial⟩ trivial (fun i hI => ?_)
  refine .seq ?_
  refine .seq ?_
  refine .region ?_
  refine .step rfl (.move rfl rfl) ?_
  refine .step rfl (.move rfl rfl) ?_
  refine .step rfl (.len rfl rfl ⟨_, _, rfl⟩ is26) ?_
  refine .step rfl (.bin rfl rfl rfl rfl) ?_
  refine .nil ?_
  refine .next ?_
  refine .cond rfl (fun h2 => ?_) (fun h2 => ?_)
  ·skip
   have hi : i < x.length := by have q := of_decide_eq_true h2; (try dsimp only at q); omega
   refine .skip ?_
   refine .next ?_
   refine .seq ?_
   refine .block ?_
   refine .seq ?_
   refine .draw mixed [Ro.mk _ (Eff.mk (some (17, _)) []) [], Ro.mk _ (Eff.mk (some (18, _)) []) [], Ro.mk _ (Eff.mk (some (19, _)) []) [], Ro.mk _ (Eff.mk (some (20, _)) []) [], Ro.mk _ (Eff.mk (some (21, _)) []) [], Ro.mk _ (Eff.mk (some (22, _)) []) [], Ro.mk _ (Eff.mk (some (23, _)) []) [], Ro.mk _ (Eff.mk (some (24, _)) []) [], Ro.mk _ (Eff.mk (some (25, _)) []) []] rfl ⟨(fun _ _ => .move rfl rfl), (fun _ _ => .move rfl rfl), (fun _ _ => .idx (x[i]) rfl rfl rfl rfl et26 (fun _ => rfl) (Int.natCast_nonneg i) (get_nat hi)), (fun _ _ => .ldem (ds := hdv x[i]) rfl rfl rfl rfl rfl tk25), (fun _ _ => .move rfl rfl), (fun _ _ => .move rfl rfl), (fun _ _ => .idx (x[i]) rfl rfl rfl rfl et26 (fun _ => rfl) (Int.natCast_nonneg i) (get_nat hi)), (fun _ _ => .ldem (ds := hdv x[i]) rfl rfl rfl rfl rfl tk25), (fun _ _ => .nehf (a := x[i]) (b := x[i]) (rfl) rfl rfl rfl qh25), trivial⟩ (by kernel_rfl) ?_
   refine .next ?_
   refine .cond rfl (fun h3 => absurd h3 (by decide)) (fun h3 => ?_)
   refine .skip ?_
   refine TE.blk ?_
   refine .next ?_
   refine .region ?_
   refine .step rfl (.move rfl rfl) ?_
   refine .step rfl (.binv (.int .i64 ((i + 1 : Nat) : Int)) rfl rfl rfl rfl (congrArg _ (by (try dsimp only); rw [IntKind.wrap_i64]; omega))) ?_
   refine .step rfl (.assign rfl rfl) ?_
   refine .nil ?_
   refine TE.setv 5 (.int .i64 ((i + 1 : Nat) : Int)) rfl (congrArg _ (by first | rfl | (dsimp only; first | done | rfl | omega))) ?_
   exact TE.round id (fun _ _ e => e) (i + 1) (by omega) (by omega) ⟨⟨rfl, rfl⟩, ⟨rfl, rfl⟩, ⟨rfl, rfl⟩, trivial⟩ trivial
  ·skip
   skip
   refine .exit ?_
   refine TE.pass ?_
   refine TE.pass ?_
   refine TE.here ?_
   refine .next ?_
   refine .seq ?_
   refine .region ?_
   refine .step rfl (.assign rfl rfl) ?_
   refine .nil ?_
   refine .next ?_
   refine .ret ?_
   exact TE.retf rfl rfl rfl trivial
set_option maxRecDepth 100000 in
set_option maxHeartbeats 1600000 in
theorem samep_pf (p : Pf) (hp : p.path.length ≤ 1048576) : PF Try.prog 13 [.ag p.dv, .ag p.dv] (.v (.bool true)) := by
  refine PF.enter (fn := Try.f13) Try.func13 rfl Try.ntmps13 rfl (fun w0 => ?_)
  refine .seq ?_
  refine .region ?_
  refine .step rfl (.box 1 rfl rfl rfl rfl) ?_
  refine .step rfl (.box 2 rfl rfl rfl rfl) ?_
  refine .step rfl (.assign rfl rfl) ?_
  refine .nil ?_
  refine TE.frzb 2 rfl rfl rfl rfl ?_
  refine TE.frzb 3 rfl rfl rfl rfl ?_
  refine .next ?_
  refine .seq ?_
  refine .region ?_
  refine .step rfl (.fielde rfl rfl rfl fo30_1) ?_
  refine .step rfl (.lde rfl rfl rfl rfl tk3) ?_
  refine .step rfl (.fielde rfl rfl rfl fo30_1) ?_
  refine .step rfl (.lde rfl rfl rfl rfl tk3) ?_
  refine .step rfl (.binv (.bool true) rfl rfl rfl rfl (by simp)) ?_
  refine .step rfl (.move rfl rfl) ?_
  refine .go 10 rfl rfl rfl rfl (.fielde rfl rfl rfl fo30_2) ?_
  refine .go 10 rfl rfl rfl rfl (.ldem (ds := p.it.dv) rfl rfl rfl rfl rfl tk28) ?_
  refine .go 10 rfl rfl rfl rfl (.fielde rfl rfl rfl fo30_2) ?_
  refine .go 10 rfl rfl rfl rfl (.ldem (ds := p.it.dv) rfl rfl rfl rfl rfl tk28) ?_
  refine .go 10 rfl rfl rfl rfl (.eqit (a := p.it) (b := p.it) rfl rfl rfl rfl qi28) ?_
  refine .step rfl (.pick rfl rfl rfl) ?_
  refine .step rfl (.move rfl rfl) ?_
  refine .go 17 rfl rfl rfl rfl (.fielde rfl rfl rfl fo30_0) ?_
  refine .go 17 rfl rfl rfl rfl (.lde rfl rfl rfl rfl tk26) ?_
  refine .go 17 rfl rfl rfl rfl (.fielde rfl rfl rfl fo30_0) ?_
  refine .go 17 rfl rfl rfl rfl (.lde rfl rfl rfl rfl tk26) ?_
  refine .go 17 rfl rfl rfl rfl (.callf rfl cf37 rfl ⟨trivial, trivial, trivial⟩ (sameh_pf p.path hp)) ?_
  refine .step rfl (.pick rfl rfl rfl) ?_
  refine .step rfl (.assign rfl rfl) ?_
  refine .nil ?_
  refine .next ?_
  refine .ret ?_
  exact TE.retf rfl rfl rfl trivial
end Go.Proofs.Ytejhgijjegnmnaa

