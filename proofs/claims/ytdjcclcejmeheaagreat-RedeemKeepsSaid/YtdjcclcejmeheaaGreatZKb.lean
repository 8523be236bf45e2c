import Derived.Test.YtdjcclcejmeheaaGreatZKa
import Derived.Test.YtdjcclcejmeheaaGreatZIe
import Derived.Test.YtdjcclcejmeheaaGreatZGc
import Derived.Test.YtdjcclcejmeheaaGreatZEv
/-
  Promises: which may be, what is signed, signatures, bytes.
-/
namespace Go.Proofs.YtdjcclcejmeheaaGreat
set_option linter.unusedVariables false
set_option linter.unusedSimpArgs false
open Go.RowKit Pl
set_option maxRecDepth 100000
set_option maxHeartbeats 3200000
theorem pent_pf (e : En) : PF Tryz.prog 114 [.ag e.dv] (.v (.bool (rightE e.nm e.ver e.key))) := by
 refine PF.enter (fn := Tryz.f114) Tryz.func114 rfl Tryz.ntmps114 rfl (fun w0 => .w ?_)
 refine .t 8 1 rfl rfl (.bd ([.v (strV e.nm), .v (.int .i64 e.ver), .v (.int .u64 e.key), .v (.int .i64 0), .v (.int .u64 0), .v (.int .u64 0)]) rfl) ?_
 refine .t 0 2 rfl rfl (.cf (urt_pf e.nm e.ver e.key) rfl) ?_
 exact .z 1 2 rfl (TE.retf rfl rfl rfl trivial)
theorem prt_pf (p : Pm) : PF Tryz.prog 69 [.ag p.dv] (.v (.bool (rightQ p))) := by
 refine PF.enter (fn := Tryz.f69) Tryz.func69 rfl Tryz.ntmps69 rfl (fun w0 => .w ?_)
 refine .g 2 1 rfl ?_
 refine TE.frzb 1 rfl rfl rfl rfl ?_
 refine .t 1 2 rfl rfl (.lm (p.e.dv) rfl) ?_
 refine .t 0 2 rfl rfl (.cf (pent_pf p.e) rfl) ?_
 refine .g 1 2 rfl ?_
 refine .case 6 rfl (fun h1 => ?_) (fun h1 => ?_)
 ·skip
  have a0 : rightE p.e.nm p.e.ver p.e.key = true := h1
  refine .g 5 2 rfl ?_
  refine .case 11 rfl (fun h2 => ?_) (fun h2 => ?_)
  ·skip
   have a1 : 0 ≤ p.tk := of_decide_eq_true h2
   refine .g 5 2 rfl ?_
   refine .case 16 rfl (fun h3 => ?_) (fun h3 => ?_)
   ·skip
    have a2 : p.tk ≤ 1152921504606846936 := of_decide_eq_true h3
    refine .t 4 2 rfl rfl (.bv (.int .i64 (p.tk + 40)) rfl (congrArg _ (by rw [IntKind.wrap_i64]; omega))) ?_
    rw [show rightQ p = decide (p.dl = p.tk + 40) by rw [rightQ_d a0]; exact decide_eq_decide.2 (by omega)]
    exact .z 3 2 rfl (TE.retf rfl rfl rfl trivial)
   ·skip
    have a2 : ¬ p.tk ≤ 1152921504606846936 := of_decide_eq_false h3
    rw [show rightQ p = false by rw [rightQ_d a0]; exact decide_eq_false (by omega)]
    exact .z 8 2 rfl (TE.retf rfl rfl rfl trivial)
  ·skip
   have a1 : ¬ 0 ≤ p.tk := of_decide_eq_false h2
   rw [show rightQ p = false by rw [rightQ_d a0]; exact decide_eq_false (by omega)]
   exact .z 13 2 rfl (TE.retf rfl rfl rfl trivial)
 ·skip
  have a0 : rightE p.e.nm p.e.ver p.e.key = false := h1
  rw [rightQ_e a0]
  exact .z 18 2 rfl (TE.retf rfl rfl rfl trivial)
theorem pmsg_pf (p : Pm) (hn : p.e.nm.length ≤ 1048576) (hk : u64I p.e.key) : PF Tryz.prog 75 [.ag p.dv] (slT bdv 1 (msgQ p)) := by
 refine PF.enter (fn := Tryz.f75) Tryz.func75 rfl Tryz.ntmps75 rfl (fun w0 => .w ?_)
 refine .g 2 1 rfl ?_
 refine TE.frzb 1 rfl rfl rfl rfl ?_
 refine .t 1 2 rfl rfl (.lm (p.e.dv) rfl) ?_
 refine .g 2 2 rfl ?_
 refine TE.obj 2 (.box 35 p.e.dv) rfl rfl ?_
 refine TE.frzb 3 rfl rfl rfl rfl ?_
 refine .d 0 3 rfl ?_
 refine .t 0 3 (E := ⟨some (6, _), [(3, .dead)]⟩) [3] rfl rfl (fun _ _ => .letgo (.buildsl (ds := bdv 80) 3 rfl rfl rfl ap22 zc5 rfl rfl rfl) rfl rfl) ?_
 refine .v 2 4 [] rfl rfl (fun _ _ => .convsb rfl rfl us9 u822 (by omega)) ?_
 refine .v 0 4 [] rfl rfl (fun _ _ => .cf (lump_pf p.e.nm (by omega)) rfl) ?_
 refine .v 2 4 [] rfl rfl (fun _ _ => .cv (u64w p.e.ver) rfl (rfl)) ?_
 refine .v 0 4 [] rfl rfl (fun _ _ => .cf (num_pf (u64w p.e.ver) (u64w_bd _).1 (u64w_bd _).2) rfl) ?_
 refine .v 2 4 [] rfl rfl (fun _ _ => .cf (num_pf (p.e.key) hk.1 hk.2) rfl) ?_
 refine .v 2 4 [] rfl rfl (fun _ _ => .cv (u64w p.tk) rfl (rfl)) ?_
 refine .v 0 4 [] rfl rfl (fun _ _ => .cf (num_pf (u64w p.tk) (u64w_bd _).1 (u64w_bd _).2) rfl) ?_
 refine .v 2 4 [] rfl rfl (fun _ _ => .cv (u64w p.dl) rfl (rfl)) ?_
 refine .v 0 4 [] rfl rfl (fun _ _ => .cf (num_pf (u64w p.dl) (u64w_bd _).1 (u64w_bd _).2) rfl) ?_
 refine .t 0 4 (E := ⟨some (26, _), [(4, _)]⟩) [4] rfl rfl (fun _ _ => .ba 4 rfl) ?_
 refine .v 0 5 [4] rfl rfl (fun _ _ => .cf (join_pf (msgQL p) (msgQL_len p hn) (Nat.le_of_ble_eq_true rfl)) rfl) ?_
 refine .y 1 5 rfl (by kernel_rfl) ?_
 exact .z 0 5 rfl (TE.retf rfl rfl rfl trivial)
theorem pck_pf (y : Int) (p : Pm) (hy : u64I y) (ho : p.ok) : PF Tryz.prog 28 [.v (.int .u64 y), .ag p.dv] (.v (.bool (checkQ y p))) := by
 refine PF.enter (fn := Tryz.f28) Tryz.func28 rfl Tryz.ntmps28 rfl (fun w0 => .w ?_)
 refine .g 2 1 rfl ?_
 refine TE.frzb 3 rfl rfl rfl rfl ?_
 obtain ⟨b, hb⟩ : ∃ b, rightQ p = b := ⟨_, rfl⟩
 have cR : PF Tryz.prog 69 [.ag p.dv] (.v (.bool b)) := hb ▸ prt_pf p
 cases b with
 | true =>
  have hu0 := rightE_u (rightQ_parts hb).1
  have hu : p.e.nm.length ≤ 1048576 ∧ u64I p.e.key := ⟨by omega, hu0.2⟩
  refine .d 0 2 rfl ?_
  refine .v 0 2 [] rfl rfl (fun _ _ => .lm (p.dv) rfl) ?_
  refine .v 0 2 [] rfl rfl (fun _ _ => .cf (cR) rfl) ?_
  refine .v 2 2 [] rfl rfl (fun _ _ => .lm (p.dv) rfl) ?_
  refine .v 0 2 [] rfl rfl (fun _ _ => .cf (pmsg_pf p hu.1 hu.2) rfl) ?_
  refine .v 1 2 [] rfl rfl (fun _ _ => .lm (sgdv p.r p.s) rfl) ?_
  refine .v 0 2 [] rfl rfl (fun _ _ => .cf (sgc_pf y p.r p.s (msgQ p) hy ho.1 ho.2 (by rw [msgQ_len]; omega)) rfl) ?_
  refine .y 2 2 rfl (by kernel_rfl) ?_
  rw [checkQ_yes hb]
  exact .z 0 2 rfl (TE.retf rfl rfl rfl trivial)
 | false =>
  refine .d 0 2 rfl ?_
  refine .v 0 2 [] rfl rfl (fun _ _ => .lm (p.dv) rfl) ?_
  refine .v 0 2 [] rfl rfl (fun _ _ => .cf (cR) rfl) ?_
  refine .y 9 2 rfl (by kernel_rfl) ?_
  rw [checkQ_no hb]
  exact .z 0 2 rfl (TE.retf rfl rfl rfl trivial)
theorem rprt_pf (p : Pm) : PF Tryz.prog 84 [.ag p.dv] (.v (.bool (rightQ p))) := by
 refine PF.enter (fn := Tryz.f84) Tryz.func84 rfl Tryz.ntmps84 rfl (fun w0 => .w ?_)
 refine .g 2 1 rfl ?_
 refine TE.frzb 1 rfl rfl rfl rfl ?_
 refine .t 1 2 rfl rfl (.lm (p.e.dv) rfl) ?_
 refine .t 0 2 rfl rfl (.cf (emay_pf p.e) rfl) ?_
 refine .g 1 2 rfl ?_
 refine .case 6 rfl (fun h1 => ?_) (fun h1 => ?_)
 ·skip
  have a0 : rightE p.e.nm p.e.ver p.e.key = true := h1
  refine .g 5 2 rfl ?_
  refine .case 11 rfl (fun h2 => ?_) (fun h2 => ?_)
  ·skip
   have a1 : 0 ≤ p.tk := of_decide_eq_true h2
   refine .g 5 2 rfl ?_
   refine .case 16 rfl (fun h3 => ?_) (fun h3 => ?_)
   ·skip
    have a2 : p.tk ≤ 1152921504606846936 := of_decide_eq_true h3
    refine .t 4 2 rfl rfl (.bv (.int .i64 (p.tk + 40)) rfl (congrArg _ (by rw [IntKind.wrap_i64]; omega))) ?_
    rw [show rightQ p = decide (p.dl = p.tk + 40) by rw [rightQ_d a0]; exact decide_eq_decide.2 (by omega)]
    exact .z 3 2 rfl (TE.retf rfl rfl rfl trivial)
   ·skip
    have a2 : ¬ p.tk ≤ 1152921504606846936 := of_decide_eq_false h3
    rw [show rightQ p = false by rw [rightQ_d a0]; exact decide_eq_false (by omega)]
    exact .z 8 2 rfl (TE.retf rfl rfl rfl trivial)
  ·skip
   have a1 : ¬ 0 ≤ p.tk := of_decide_eq_false h2
   rw [show rightQ p = false by rw [rightQ_d a0]; exact decide_eq_false (by omega)]
   exact .z 13 2 rfl (TE.retf rfl rfl rfl trivial)
 ·skip
  have a0 : rightE p.e.nm p.e.ver p.e.key = false := h1
  rw [rightQ_e a0]
  exact .z 18 2 rfl (TE.retf rfl rfl rfl trivial)
theorem rpmsg_po (p : Pm) (hn : p.e.nm.length ≤ 1048576) (hk : u64I p.e.key) : PO Tryz.prog 88 [.ag p.dv] 5 1 (msgQ p).length ((msgQ p).flatMap bdv) := by
 refine PO.enter (fn := Tryz.f88) Tryz.func88 rfl Tryz.ntmps88 rfl (fun w0 => .w ?_)
 refine .g 2 1 rfl ?_
 refine TE.frzb 1 rfl rfl rfl rfl ?_
 refine .t 0 2 rfl rfl (.bb (bdv 80) 2 rfl) ?_
 refine .t 1 3 rfl rfl (.lm (p.e.dv) rfl) ?_
 refine .t 0 3 rfl rfl (.cf ((rfields_po p.e hn hk).pf) rfl) ?_
 refine .t 0 3 rfl rfl (.ap 3 rfl rfl (flat_one (fun _ => rfl) _) (by rw [fldE_len]; omega) (by rw [fldE_len]; omega)) ?_
 refine .g 1 4 rfl ?_
 refine TE.obj 3 (.row 5 1 (([80] ++ fldE p.e).flatMap bdv)) rfl (congrArg (AO.row _ _) (by rw [List.flatMap_append]; rfl)) ?_
 refine TE.set 3 (.ow 3 ([80] ++ fldE p.e).length 1) rfl (congrArg (fun n => AV.ow _ n 1) (by rw [List.length_append]; rfl)) ?_
 refine .d 0 4 rfl ?_
 refine .v 3 4 [] rfl rfl (fun _ _ => .cv (u64w p.tk) rfl (rfl)) ?_
 refine .v 0 4 [] rfl rfl (fun _ _ => .cf (rnum_pf (u64w p.tk) (u64w_bd _).1 (u64w_bd _).2) rfl) ?_
 refine .t 0 4 (E := ⟨some (14, _), [(3, .dead), (4, _)]⟩) [3, 4] rfl rfl (fun _ _ => .ap 4 rfl (by rw [flat_length (sz := 1) (fun _ => rfl)]) (flat_one (fun _ => rfl) _) (by simp only [List.length_append, lumpB_len, numB_len, fldE_len, List.length_cons, List.length_nil]; omega) (by simp only [List.length_append, lumpB_len, numB_len, fldE_len, List.length_cons, List.length_nil]; omega)) ?_
 refine .v 2 5 [] rfl rfl (fun _ _ => .cv (u64w p.dl) rfl (rfl)) ?_
 refine .v 0 5 [] rfl rfl (fun _ _ => .cf (rnum_pf (u64w p.dl) (u64w_bd _).1 (u64w_bd _).2) rfl) ?_
 refine .t 0 5 (E := ⟨some (19, _), [(4, .dead), (5, _)]⟩) [4, 5] rfl rfl (fun _ _ => .ap 5 rfl (by simp only [List.length_append, flat_length (enc := bdv) (sz := 1) (fun _ => rfl), Nat.mul_one]) (flat_one (fun _ => rfl) _) (by simp only [List.length_append, lumpB_len, numB_len, fldE_len, List.length_cons, List.length_nil]; omega) (by simp only [List.length_append, lumpB_len, numB_len, fldE_len, List.length_cons, List.length_nil]; omega)) ?_
 refine .y 1 6 rfl (by kernel_rfl) ?_
 refine TE.obj 5 (.row 5 1 ((msgQ p).flatMap bdv)) rfl (congrArg (AO.row _ _) (by rw [← msgQ_app]; simp only [List.flatMap_append])) ?_
 refine TE.set 2 (.ow 5 (msgQ p).length 1) rfl (congrArg (fun n => AV.ow _ n 1) (by rw [← msgQ_app]; simp only [List.length_append])) ?_
 exact .z 0 6 rfl (TE.retof rfl rfl rfl (by rw [flat_length (sz := 1) (fun _ => rfl)]) (by decide) (pl_flat (fun b Y hY => by simp [bdv] at hY; subst hY; exact pl_v _) _))
theorem rpmsg_pf (p : Pm) (hn : p.e.nm.length ≤ 1048576) (hk : u64I p.e.key) : PF Tryz.prog 88 [.ag p.dv] (slT bdv 1 (msgQ p)) := (rpmsg_po p hn hk).pf
theorem rputp_pc (p : Pm) (ho : p.ok) : PC Tryz.prog 42 [.ag p.dv] (.tp [slT bdv 1 (if rightQ p = true then putQ p else []), .v (.int .i64 (if rightQ p = true then 0 else 23))]) := by
 refine PC.enter (fn := Tryz.f42) Tryz.func42 rfl Tryz.ntmps42 rfl (fun w0 K0 => .w ?_)
 refine .g 3 1 rfl ?_
 refine TE.frzb 1 rfl rfl rfl rfl ?_
 refine .t 0 2 rfl rfl (.lm (p.dv) rfl) ?_
 refine .t 0 2 rfl rfl (.cf (rprt_pf p) rfl) ?_
 refine .q 1 2 rfl rfl (fun h1 => ?_) (fun h1 => ?_)
 ·skip
  have hR : ¬ rightQ p = true := by simpa using h1
  refine .g 2 2 rfl ?_
  rw [if_neg hR, if_neg hR]
  refine TE.sub 2 (slT bdv 1 []) rfl rfl (nil_sub _ _) ?_
  exact .z 0 2 rfl (TE.rettc rfl rfl rfl)
 ·skip
  have hR : rightQ p = true := by simpa using h1
  have hu0 := rightE_u (rightQ_parts hR).1
  refine .d 0 2 rfl ?_
  refine .v 0 2 [] rfl rfl (fun _ _ => .lm (p.dv) rfl) ?_
  refine .t 0 2 (E := ⟨some (8, _), [(2, _)]⟩) [2] rfl rfl (fun _ _ => .co 2 (rpmsg_po p (by omega) hu0.2) rfl) ?_
  refine .v 1 3 [] rfl rfl (fun _ _ => .lm (sgdv p.r p.s) rfl) ?_
  refine .v 0 3 [] rfl rfl (fun _ _ => .cf (rsgp_pf p.r p.s ho.1 ho.2) rfl) ?_
  refine .t 0 3 (E := ⟨some (12, _), [(2, .dead), (3, _)]⟩) [2, 3] rfl rfl (fun _ _ => .ap 3 rfl (by rw [flat_length (sz := 1) (fun _ => rfl)]) (flat_one (fun _ => rfl) _) (by rw [msgQ_len, putF_len]; omega) (by rw [msgQ_len, putF_len]; omega)) ?_
  refine .y 2 4 rfl (by kernel_rfl) ?_
  rw [if_pos hR, if_pos hR]
  refine TE.obj 3 (.row 5 1 ((putQ p).flatMap bdv)) rfl (congrArg (AO.row _ _) (by unfold putQ; rw [List.flatMap_append])) ?_
  refine TE.set 2 (.ow 3 (putQ p).length 1) rfl (congrArg (fun n => AV.ow _ n 1) (by unfold putQ; rw [List.length_append])) ?_
  refine TE.frz 2 (slT bdv 1 (putQ p)) rfl rfl (by rw [flat_length (sz := 1) (fun _ => rfl)]) rfl ?_
  exact .z 0 4 rfl (TE.rettc rfl rfl rfl)
theorem rpmake_pc (x : Int) (hx : u64I x) (e : En) (t : Int) : PC Tryz.prog 41 [.v (.int .u64 x), .ag e.dv, .v (.int .i64 t)] (.tp [.ag (makeQ x e t).1.dv, .v (.int .i64 (makeQ x e t).2)]) := by
 obtain ⟨kE, hE⟩ : ∃ k, rightE e.nm e.ver e.key = k := ⟨_, rfl⟩
 have cE : PF Tryz.prog 94 [.ag e.dv] (.v (.bool kE)) := hE ▸ emay_pf e
 refine PC.enter (fn := Tryz.f41) Tryz.func41 rfl Tryz.ntmps41 rfl (fun w0 K0 => .w ?_)
 refine .g 3 1 rfl ?_
 refine TE.obj 2 (.box 73 zeroPm.dv) rfl rfl ?_
 refine TE.frzb 4 rfl rfl rfl rfl ?_
 cases kE with
 | true =>
  by_cases c2 : t < 0
  ·skip
   have hB : rightE e.nm e.ver e.key = false ∨ t < 0 ∨ 1152921504606846976 < t := .inr (.inl c2)
   refine .t 0 3 rfl rfl (.lm (e.dv) rfl) ?_
   refine .t 0 3 rfl rfl (.cf (cE) rfl) ?_
   refine .t 3 3 rfl rfl (.bv (.bool true) rfl (congrArg Value.bool (decide_eq_true c2))) ?_
   refine .t 6 3 rfl rfl (.bd (zeroPm.dv) rfl) ?_
   rw [makeQ_form hB]
   exact .z 2 3 rfl (TE.rettc rfl rfl rfl)
  ·skip
   by_cases c3 : 1152921504606846976 < t
   ·skip
    have hB : rightE e.nm e.ver e.key = false ∨ t < 0 ∨ 1152921504606846976 < t := .inr (.inr c3)
    refine .t 0 3 rfl rfl (.lm (e.dv) rfl) ?_
    refine .t 0 3 rfl rfl (.cf (cE) rfl) ?_
    refine .t 3 3 rfl rfl (.bv (.bool false) rfl (congrArg Value.bool (decide_eq_false c2))) ?_
    refine .t 3 3 rfl rfl (.bv (.bool true) rfl (congrArg Value.bool (decide_eq_true c3))) ?_
    refine .t 2 3 rfl rfl (.bd (zeroPm.dv) rfl) ?_
    rw [makeQ_form hB]
    exact .z 2 3 rfl (TE.rettc rfl rfl rfl)
   ·skip
    have hB : ¬ (rightE e.nm e.ver e.key = false ∨ t < 0 ∨ 1152921504606846976 < t) := by rw [hE]; rintro (q | q | q); cases q; exact c2 q; exact c3 q
    refine .t 0 3 rfl rfl (.lm (e.dv) rfl) ?_
    refine .t 0 3 rfl rfl (.cf (cE) rfl) ?_
    refine .t 3 3 rfl rfl (.bv (.bool false) rfl (congrArg Value.bool (decide_eq_false c2))) ?_
    refine .t 3 3 rfl rfl (.bv (.bool false) rfl (congrArg Value.bool (decide_eq_false c3))) ?_
    refine .q 4 3 rfl rfl (fun h7 => ?_) (fun h7 => ?_)
    ·skip
     have hC : 1152921504606846936 < t := of_decide_eq_true h7
     refine .t 0 3 rfl rfl (.bd (zeroPm.dv) rfl) ?_
     rw [makeQ_clock hB hC]
     exact .z 2 3 rfl (TE.rettc rfl rfl rfl)
    ·skip
     have hC : ¬ 1152921504606846936 < t := of_decide_eq_false h7
     have hu0 := rightE_u hE
     refine .t 0 3 rfl rfl (.lm (e.dv) rfl) ?_
     refine .t 2 3 rfl rfl (.bv (.int .i64 (t + 40)) rfl (congrArg _ (by rw [IntKind.wrap_i64]; omega))) ?_
     refine .t 0 3 rfl rfl (.bd (Pm.dv (⟨e, t, t + 40, 0, 0⟩ : Pm)) rfl) ?_
     refine .g 2 3 rfl ?_
     refine TE.obj 3 (.box 73 (Pm.dv (⟨e, t, t + 40, 0, 0⟩ : Pm))) rfl rfl ?_
     refine .t 1 4 rfl rfl (.lp (Pm.dv (⟨e, t, t + 40, 0, 0⟩ : Pm)) rfl) ?_
     refine .t 0 4 rfl rfl (.cf (rpmsg_pf (⟨e, t, t + 40, 0, 0⟩ : Pm) (by show e.nm.length ≤ _; omega) hu0.2) rfl) ?_
     refine .t 0 4 rfl rfl (.cf (rsgn_pf x (msgQ (⟨e, t, t + 40, 0, 0⟩ : Pm)) hx (by rw [msgQ_len]; show 41 + e.nm.length ≤ _; omega)) rfl) ?_
     refine .g 2 4 rfl ?_
     refine TE.obj 3 (.box 73 (signQ x (⟨e, t, t + 40, 0, 0⟩ : Pm)).dv) rfl rfl ?_
     refine .t 0 4 rfl rfl (.lp ((signQ x (⟨e, t, t + 40, 0, 0⟩ : Pm)).dv) rfl) ?_
     rw [makeQ_ok hE (by omega) (by omega)]
     exact .z 2 4 rfl (TE.rettc rfl rfl rfl)
 | false =>
  have hB : rightE e.nm e.ver e.key = false ∨ t < 0 ∨ 1152921504606846976 < t := .inl hE
  refine .t 0 4 rfl rfl (.lm (e.dv) rfl) ?_
  refine .t 0 4 rfl rfl (.cf (cE) rfl) ?_
  refine .t 10 4 rfl rfl (.bd (zeroPm.dv) rfl) ?_
  rw [makeQ_form hB]
  exact .z 2 4 rfl (TE.rettc rfl rfl rfl)
end Go.Proofs.YtdjcclcejmeheaaGreat

