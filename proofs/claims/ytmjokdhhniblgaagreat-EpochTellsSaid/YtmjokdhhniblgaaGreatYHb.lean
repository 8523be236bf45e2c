import Derived.Test.YtmjokdhhniblgaaGreatYHa
import Derived.Test.YtmjokdhhniblgaaGreatYEv
/-
  Heads: which may be, what is signed, signatures.
-/
namespace Go.Proofs.YtmjokdhhniblgaaGreat
set_option linter.unusedVariables false
set_option linter.unusedSimpArgs false
open Go.RowKit Pl
set_option maxRecDepth 100000
set_option maxHeartbeats 3200000
theorem ap22 : apt Tryz.prog 22 = some (5, 1, 1) := by kernel_rfl
theorem zc5 : zc Tryz.prog 5 = some [.int .u8 0] := by kernel_rfl
theorem right_pf (h : Hd) : PF Tryz.prog 62 [.ag h.dv] (.v (.bool (rightH h))) := by
 refine PF.enter (fn := Tryz.f62) Tryz.func62 rfl Tryz.ntmps62 rfl (fun w0 => .w ?_)
 refine .g 2 1 rfl ?_
 refine TE.frzb 1 rfl rfl rfl rfl ?_
 refine .g 4 2 rfl ?_
 refine .case 6 rfl (fun h1 => ?_) (fun h1 => ?_)
 ·skip
  have a0 : 1 ≤ h.ep := of_decide_eq_true h1
  refine .g 5 2 rfl ?_
  refine .case 11 rfl (fun h2 => ?_) (fun h2 => ?_)
  ·skip
   have a1 : h.ep ≤ 1073741824 := of_decide_eq_true h2
   refine .g 5 2 rfl ?_
   refine .case 16 rfl (fun h3 => ?_) (fun h3 => ?_)
   ·skip
    have a2 : 0 ≤ h.tk := of_decide_eq_true h3
    refine .g 5 2 rfl ?_
    refine .case 21 rfl (fun h4 => ?_) (fun h4 => ?_)
    ·skip
     have a3 : h.tk ≤ 1152921504606846976 := of_decide_eq_true h4
     refine .g 5 2 rfl ?_
     refine .case 26 rfl (fun h5 => ?_) (fun h5 => ?_)
     ·skip
      have a4 : 1 ≤ h.ct := of_decide_eq_true h5
      rw [show rightH h = decide (h.ct ≤ 8) from decide_eq_decide.2 (by omega)]
      exact .z 5 2 rfl (TE.retf rfl rfl rfl trivial)
     ·skip
      have a4 : ¬ 1 ≤ h.ct := of_decide_eq_false h5
      rw [show rightH h = false from decide_eq_false (by omega)]
      exact .z 5 2 rfl (TE.retf rfl rfl rfl trivial)
    ·skip
     have a3 : ¬ h.tk ≤ 1152921504606846976 := of_decide_eq_false h4
     rw [show rightH h = false from decide_eq_false (by omega)]
     exact .z 10 2 rfl (TE.retf rfl rfl rfl trivial)
   ·skip
    have a2 : ¬ 0 ≤ h.tk := of_decide_eq_false h3
    rw [show rightH h = false from decide_eq_false (by omega)]
    exact .z 15 2 rfl (TE.retf rfl rfl rfl trivial)
  ·skip
   have a1 : ¬ h.ep ≤ 1073741824 := of_decide_eq_false h2
   rw [show rightH h = false from decide_eq_false (by omega)]
   exact .z 20 2 rfl (TE.retf rfl rfl rfl trivial)
 ·skip
  have a0 : ¬ 1 ≤ h.ep := of_decide_eq_false h1
  rw [show rightH h = false from decide_eq_false (by omega)]
  exact .z 25 2 rfl (TE.retf rfl rfl rfl trivial)
theorem msg_pf (h : Hd) : PF Tryz.prog 37 [.ag h.dv] (slT bdv 1 (msgB h)) := by
 refine PF.enter (fn := Tryz.f37) Tryz.func37 rfl Tryz.ntmps37 rfl (fun w0 => .w ?_)
 refine .g 2 1 rfl ?_
 refine TE.frzb 1 rfl rfl rfl rfl ?_
 refine .d 0 2 rfl ?_
 refine .t 0 2 (E := ⟨some (3, _), [(2, .dead)]⟩) [2] rfl rfl (fun _ _ => .letgo (.buildsl (ds := bdv 72) 2 rfl rfl rfl ap22 zc5 rfl rfl rfl) rfl rfl) ?_
 refine .v 2 3 [] rfl rfl (fun _ _ => .cv (u64w h.ep) rfl (rfl)) ?_
 refine .v 0 3 [] rfl rfl (fun _ _ => .cf (num_pf (u64w h.ep) (u64w_bd _).1 (u64w_bd _).2) rfl) ?_
 refine .v 2 3 [] rfl rfl (fun _ _ => .cv (u64w h.tk) rfl (rfl)) ?_
 refine .v 0 3 [] rfl rfl (fun _ _ => .cf (num_pf (u64w h.tk) (u64w_bd _).1 (u64w_bd _).2) rfl) ?_
 refine .v 2 3 [] rfl rfl (fun _ _ => .cv (u64w h.ct) rfl (rfl)) ?_
 refine .v 0 3 [] rfl rfl (fun _ _ => .cf (num_pf (u64w h.ct) (u64w_bd _).1 (u64w_bd _).2) rfl) ?_
 refine .t 4 3 (E := ⟨some (20, _), [(3, _)]⟩) [3] rfl rfl (fun _ _ => .ba 3 rfl) ?_
 refine .v 0 4 [3] rfl rfl (fun _ _ => .cf (join_pf (msgL h) (msgL_len h) (Nat.le_of_ble_eq_true rfl)) rfl) ?_
 refine .y 1 4 rfl (by kernel_rfl) ?_
 exact .z 0 4 rfl (TE.retf rfl rfl rfl trivial)
theorem sign_pf (x : Int) (h : Hd) (hx : u64I x) : PF Tryz.prog 27 [.v (.int .u64 x), .ag h.dv] (.ag (signH x h).dv) := by
 refine PF.enter (fn := Tryz.f27) Tryz.func27 rfl Tryz.ntmps27 rfl (fun w0 => .w ?_)
 refine .g 2 1 rfl ?_
 refine TE.obj 1 (.box 30 h.dv) rfl rfl ?_
 refine .t 1 3 rfl rfl (.lp (h.dv) rfl) ?_
 refine .t 0 3 rfl rfl (.cf (msg_pf h) rfl) ?_
 refine .t 0 3 rfl rfl (.cf (sgn_pf x (msgB h) hx (by rw [msgB_len]; decide)) rfl) ?_
 refine .g 2 3 rfl ?_
 refine TE.obj 1 (.box 30 (signH x h).dv) rfl rfl ?_
 refine .t 0 3 rfl rfl (.lp ((signH x h).dv) rfl) ?_
 exact .z 1 3 rfl (TE.retf rfl rfl rfl (pl_hd _))
theorem chk_pf (y : Int) (h : Hd) (hy : u64I y) (ho : h.ok) : PF Tryz.prog 33 [.v (.int .u64 y), .ag h.dv] (.v (.bool (checkH y h))) := by
 refine PF.enter (fn := Tryz.f33) Tryz.func33 rfl Tryz.ntmps33 rfl (fun w0 => .w ?_)
 refine .g 2 1 rfl ?_
 refine TE.frzb 3 rfl rfl rfl rfl ?_
 obtain ⟨b, hb⟩ : ∃ b, rightH h = b := ⟨_, rfl⟩
 have cR : PF Tryz.prog 62 [.ag h.dv] (.v (.bool b)) := hb ▸ right_pf h
 cases b with
 | true =>
  refine .d 0 2 rfl ?_
  refine .v 0 2 [] rfl rfl (fun _ _ => .lm (h.dv) rfl) ?_
  refine .v 0 2 [] rfl rfl (fun _ _ => .cf (cR) rfl) ?_
  refine .v 2 2 [] rfl rfl (fun _ _ => .lm (h.dv) rfl) ?_
  refine .v 0 2 [] rfl rfl (fun _ _ => .cf (msg_pf h) rfl) ?_
  refine .v 1 2 [] rfl rfl (fun _ _ => .lm (sgdv h.r h.s) rfl) ?_
  refine .v 0 2 [] rfl rfl (fun _ _ => .cf (sgc_pf y h.r h.s (msgB h) hy ho.1 ho.2 (by rw [msgB_len]; decide)) rfl) ?_
  refine .y 2 2 rfl (by kernel_rfl) ?_
  rw [checkH_yes hb]
  exact .z 0 2 rfl (TE.retf rfl rfl rfl (by first | trivial | exact pl_v _))
 | false =>
  refine .d 0 2 rfl ?_
  refine .v 0 2 [] rfl rfl (fun _ _ => .lm (h.dv) rfl) ?_
  refine .v 0 2 [] rfl rfl (fun _ _ => .cf (cR) rfl) ?_
  refine .y 9 2 rfl (by kernel_rfl) ?_
  rw [checkH_no hb]
  exact .z 0 2 rfl (TE.retf rfl rfl rfl (by first | trivial | exact pl_v _))
theorem rright_pf (h : Hd) : PF Tryz.prog 47 [.ag h.dv] (.v (.bool (rightH h))) := by
 refine PF.enter (fn := Tryz.f47) Tryz.func47 rfl Tryz.ntmps47 rfl (fun w0 => .w ?_)
 refine .g 2 1 rfl ?_
 refine TE.frzb 1 rfl rfl rfl rfl ?_
 refine .g 4 2 rfl ?_
 refine .case 6 rfl (fun h1 => ?_) (fun h1 => ?_)
 ·skip
  have a0 : 1 ≤ h.ep := of_decide_eq_true h1
  refine .g 5 2 rfl ?_
  refine .case 11 rfl (fun h2 => ?_) (fun h2 => ?_)
  ·skip
   have a1 : h.ep ≤ 1073741824 := of_decide_eq_true h2
   refine .g 5 2 rfl ?_
   refine .case 16 rfl (fun h3 => ?_) (fun h3 => ?_)
   ·skip
    have a2 : 0 ≤ h.tk := of_decide_eq_true h3
    refine .g 5 2 rfl ?_
    refine .case 21 rfl (fun h4 => ?_) (fun h4 => ?_)
    ·skip
     have a3 : h.tk ≤ 1152921504606846976 := of_decide_eq_true h4
     refine .g 5 2 rfl ?_
     refine .case 26 rfl (fun h5 => ?_) (fun h5 => ?_)
     ·skip
      have a4 : 1 ≤ h.ct := of_decide_eq_true h5
      rw [show rightH h = decide (h.ct ≤ 8) from decide_eq_decide.2 (by omega)]
      exact .z 5 2 rfl (TE.retf rfl rfl rfl trivial)
     ·skip
      have a4 : ¬ 1 ≤ h.ct := of_decide_eq_false h5
      rw [show rightH h = false from decide_eq_false (by omega)]
      exact .z 5 2 rfl (TE.retf rfl rfl rfl trivial)
    ·skip
     have a3 : ¬ h.tk ≤ 1152921504606846976 := of_decide_eq_false h4
     rw [show rightH h = false from decide_eq_false (by omega)]
     exact .z 10 2 rfl (TE.retf rfl rfl rfl trivial)
   ·skip
    have a2 : ¬ 0 ≤ h.tk := of_decide_eq_false h3
    rw [show rightH h = false from decide_eq_false (by omega)]
    exact .z 15 2 rfl (TE.retf rfl rfl rfl trivial)
  ·skip
   have a1 : ¬ h.ep ≤ 1073741824 := of_decide_eq_false h2
   rw [show rightH h = false from decide_eq_false (by omega)]
   exact .z 20 2 rfl (TE.retf rfl rfl rfl trivial)
 ·skip
  have a0 : ¬ 1 ≤ h.ep := of_decide_eq_false h1
  rw [show rightH h = false from decide_eq_false (by omega)]
  exact .z 25 2 rfl (TE.retf rfl rfl rfl trivial)
theorem rmsg_po (h : Hd) : PO Tryz.prog 49 [.ag h.dv] 5 1 (msgB h).length ((msgB h).flatMap bdv) := by
 refine PO.enter (fn := Tryz.f49) Tryz.func49 rfl Tryz.ntmps49 rfl (fun w0 => .w ?_)
 refine .g 2 1 rfl ?_
 refine TE.frzb 1 rfl rfl rfl rfl ?_
 refine .t 0 2 rfl rfl (.bb (bdv 72) 2 rfl) ?_
 refine .t 2 3 rfl rfl (.cv (u64w h.ep) rfl (rfl)) ?_
 refine .t 0 3 rfl rfl (.cf (rnum_pf (u64w h.ep) (u64w_bd _).1 (u64w_bd _).2) rfl) ?_
 refine .t 0 3 rfl rfl (.ap 3 rfl rfl (flat_one (fun _ => rfl) _) (Nat.le_of_ble_eq_true rfl) (Nat.le_of_ble_eq_true rfl)) ?_
 refine .g 1 4 rfl ?_
 refine TE.obj 3 (.row 5 1 (([72] ++ numB (u64w h.ep)).flatMap bdv)) rfl (congrArg (AO.row _ _) (by rw [List.flatMap_append]; rfl)) ?_
 refine TE.set 3 (.ow 3 9 1) rfl rfl ?_
 refine .d 0 4 rfl ?_
 refine .v 3 4 [] rfl rfl (fun _ _ => .cv (u64w h.tk) rfl (rfl)) ?_
 refine .v 0 4 [] rfl rfl (fun _ _ => .cf (rnum_pf (u64w h.tk) (u64w_bd _).1 (u64w_bd _).2) rfl) ?_
 refine .t 0 4 (E := ⟨some (15, _), [(3, .dead), (4, _)]⟩) [3, 4] rfl rfl (fun _ _ => .ap 4 rfl rfl (flat_one (fun _ => rfl) _) (Nat.le_of_ble_eq_true rfl) (Nat.le_of_ble_eq_true rfl)) ?_
 refine .v 2 5 [] rfl rfl (fun _ _ => .cv (u64w h.ct) rfl (rfl)) ?_
 refine .v 0 5 [] rfl rfl (fun _ _ => .cf (rnum_pf (u64w h.ct) (u64w_bd _).1 (u64w_bd _).2) rfl) ?_
 refine .t 0 5 (E := ⟨some (20, _), [(4, .dead), (5, _)]⟩) [4, 5] rfl rfl (fun _ _ => .ap 5 rfl rfl (flat_one (fun _ => rfl) _) (Nat.le_of_ble_eq_true rfl) (Nat.le_of_ble_eq_true rfl)) ?_
 refine .y 1 6 rfl (by kernel_rfl) ?_
 refine TE.obj 5 (.row 5 1 (([72] ++ numB (u64w h.ep) ++ numB (u64w h.tk) ++ numB (u64w h.ct)).flatMap bdv)) rfl (congrArg (AO.row _ _) (by simp only [List.flatMap_append])) ?_
 refine TE.set 3 (.ow 5 25 1) rfl rfl ?_
 refine .d 0 6 rfl ?_
 refine .t 3 6 (E := ⟨some (24, _), [(5, .dead), (6, _)]⟩) [5, 6] rfl rfl (fun _ _ => .ap 6 rfl rfl (hg_one _) (Nat.le_of_ble_eq_true rfl) (Nat.le_of_ble_eq_true rfl)) ?_
 refine .t 2 7 (E := ⟨some (27, _), [(6, .dead), (7, _)]⟩) [6, 7] rfl rfl (fun _ _ => .ap 7 rfl rfl (hg_one _) (Nat.le_of_ble_eq_true rfl) (Nat.le_of_ble_eq_true rfl)) ?_
 refine .y 1 8 rfl (by kernel_rfl) ?_
 refine TE.obj 7 (.row 5 1 ((msgB h).flatMap bdv)) rfl (congrArg (AO.row _ _) (by rw [← msgB_app]; simp only [List.flatMap_append]; rfl)) ?_
 refine TE.set 2 (.ow 7 (msgB h).length 1) rfl (congrArg (fun n => AV.ow _ n 1) (by rw [msgB_len])) ?_
 exact .z 0 8 rfl (TE.retof rfl rfl rfl (by rw [flat_length (sz := 1) (fun _ => rfl)]) (by decide) (pl_flat (fun b Y hY => by simp [bdv] at hY; subst hY; exact pl_v _) _))
theorem rmsg_pf (h : Hd) : PF Tryz.prog 49 [.ag h.dv] (slT bdv 1 (msgB h)) := (rmsg_po h).pf
theorem rsign_pf (x : Int) (h : Hd) (hx : u64I x) : PF Tryz.prog 29 [.v (.int .u64 x), .ag h.dv] (.ag (signH x h).dv) := by
 refine PF.enter (fn := Tryz.f29) Tryz.func29 rfl Tryz.ntmps29 rfl (fun w0 => .w ?_)
 refine .g 2 1 rfl ?_
 refine TE.obj 1 (.box 30 h.dv) rfl rfl ?_
 refine .t 1 3 rfl rfl (.lp (h.dv) rfl) ?_
 refine .t 0 3 rfl rfl (.cf (rmsg_pf h) rfl) ?_
 refine .t 0 3 rfl rfl (.cf (rsgn_pf x (msgB h) hx (by rw [msgB_len]; decide)) rfl) ?_
 refine .g 2 3 rfl ?_
 refine TE.obj 1 (.box 30 (signH x h).dv) rfl rfl ?_
 refine .t 0 3 rfl rfl (.lp ((signH x h).dv) rfl) ?_
 exact .z 1 3 rfl (TE.retf rfl rfl rfl (pl_hd _))
theorem rchk_pf (y : Int) (h : Hd) (hy : u64I y) (ho : h.ok) : PF Tryz.prog 25 [.v (.int .u64 y), .ag h.dv] (.v (.bool (checkH y h))) := by
 refine PF.enter (fn := Tryz.f25) Tryz.func25 rfl Tryz.ntmps25 rfl (fun w0 => .w ?_)
 refine .g 2 1 rfl ?_
 refine TE.frzb 3 rfl rfl rfl rfl ?_
 obtain ⟨b, hb⟩ : ∃ b, rightH h = b := ⟨_, rfl⟩
 have cR : PF Tryz.prog 47 [.ag h.dv] (.v (.bool b)) := hb ▸ rright_pf h
 cases b with
 | true =>
  refine .d 0 2 rfl ?_
  refine .v 0 2 [] rfl rfl (fun _ _ => .lm (h.dv) rfl) ?_
  refine .v 0 2 [] rfl rfl (fun _ _ => .cf (cR) rfl) ?_
  refine .v 2 2 [] rfl rfl (fun _ _ => .lm (h.dv) rfl) ?_
  refine .v 0 2 [] rfl rfl (fun _ _ => .cf (rmsg_pf h) rfl) ?_
  refine .v 1 2 [] rfl rfl (fun _ _ => .lm (sgdv h.r h.s) rfl) ?_
  refine .v 0 2 [] rfl rfl (fun _ _ => .cf (rsgc_pf y h.r h.s (msgB h) hy ho.1 ho.2 (by rw [msgB_len]; decide)) rfl) ?_
  refine .y 2 2 rfl (by kernel_rfl) ?_
  rw [checkH_yes hb]
  exact .z 0 2 rfl (TE.retf rfl rfl rfl (by first | trivial | exact pl_v _))
 | false =>
  refine .d 0 2 rfl ?_
  refine .v 0 2 [] rfl rfl (fun _ _ => .lm (h.dv) rfl) ?_
  refine .v 0 2 [] rfl rfl (fun _ _ => .cf (cR) rfl) ?_
  refine .y 9 2 rfl (by kernel_rfl) ?_
  rw [checkH_no hb]
  exact .z 0 2 rfl (TE.retf rfl rfl rfl (by first | trivial | exact pl_v _))
end Go.Proofs.YtmjokdhhniblgaaGreat

