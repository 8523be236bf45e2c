import Derived.Test.YtdjcclcejmeheaaGreatZHa
import Derived.Test.YtdjcclcejmeheaaGreatZEv
/-
  Heads: which may be, what is signed, signatures.
-/
namespace Go.Proofs.YtdjcclcejmeheaaGreat
set_option linter.unusedVariables false
set_option linter.unusedSimpArgs false
open Go.RowKit Pl
set_option maxRecDepth 100000
set_option maxHeartbeats 3200000
theorem ap22 : apt Tryz.prog 22 = some (5, 1, 1) := by kernel_rfl
theorem zc5 : zc Tryz.prog 5 = some [.int .u8 0] := by kernel_rfl
theorem right_pf (h : Hd) : PF Tryz.prog 72 [.ag h.dv] (.v (.bool (rightH h))) := by
 refine PF.enter (fn := Tryz.f72) Tryz.func72 rfl Tryz.ntmps72 rfl (fun w0 => .w ?_)
 refine .g 2 1 rfl ?_
 refine TE.frzb 1 rfl rfl rfl rfl ?_
 refine .g 4 2 rfl ?_
 refine .case 6 rfl (fun h1 => ?_) (fun h1 => ?_)
 ·skip
  have a0 : 1 ≤ h.ep := of_decide_eq_true h1
  refine .g 5 2 rfl ?_
  refine .case 11 rfl (fun h2 => ?_) (fun h2 => ?_)
  ·skip
   have a1 : h.ep ≤ 1073741824 := of_decide_eq_true h2
   refine .g 5 2 rfl ?_
   refine .case 16 rfl (fun h3 => ?_) (fun h3 => ?_)
   ·skip
    have a2 : 0 ≤ h.tk := of_decide_eq_true h3
    refine .g 5 2 rfl ?_
    refine .case 21 rfl (fun h4 => ?_) (fun h4 => ?_)
    ·skip
     have a3 : h.tk ≤ 1152921504606846976 := of_decide_eq_true h4
     refine .g 5 2 rfl ?_
     refine .case 26 rfl (fun h5 => ?_) (fun h5 => ?_)
     ·skip
      have a4 : 1 ≤ h.ct := of_decide_eq_true h5
      rw [show rightH h = decide (h.ct ≤ 8) from decide_eq_decide.2 (by omega)]
      exact .z 5 2 rfl (TE.retf rfl rfl rfl trivial)
     ·skip
      have a4 : ¬ 1 ≤ h.ct := of_decide_eq_false h5
      rw [show rightH h = false from decide_eq_false (by omega)]
      exact .z 5 2 rfl (TE.retf rfl rfl rfl trivial)
    ·skip
     have a3 : ¬ h.tk ≤ 1152921504606846976 := of_decide_eq_false h4
     rw [show rightH h = false from decide_eq_false (by omega)]
     exact .z 10 2 rfl (TE.retf rfl rfl rfl trivial)
   ·skip
    have a2 : ¬ 0 ≤ h.tk := of_decide_eq_false h3
    rw [show rightH h = false from decide_eq_false (by omega)]
    exact .z 15 2 rfl (TE.retf rfl rfl rfl trivial)
  ·skip
   have a1 : ¬ h.ep ≤ 1073741824 := of_decide_eq_false h2
   rw [show rightH h = false from decide_eq_false (by omega)]
   exact .z 20 2 rfl (TE.retf rfl rfl rfl trivial)
 ·skip
  have a0 : ¬ 1 ≤ h.ep := of_decide_eq_false h1
  rw [show rightH h = false from decide_eq_false (by omega)]
  exact .z 25 2 rfl (TE.retf rfl rfl rfl trivial)
theorem msg_pf (h : Hd) : PF Tryz.prog 76 [.ag h.dv] (slT bdv 1 (msgB h)) := by
 refine PF.enter (fn := Tryz.f76) Tryz.func76 rfl Tryz.ntmps76 rfl (fun w0 => .w ?_)
 refine .g 2 1 rfl ?_
 refine TE.frzb 1 rfl rfl rfl rfl ?_
 refine .d 0 2 rfl ?_
 refine .t 0 2 (E := ⟨some (3, _), [(2, .dead)]⟩) [2] rfl rfl (fun _ _ => .letgo (.buildsl (ds := bdv 72) 2 rfl rfl rfl ap22 zc5 rfl rfl rfl) rfl rfl) ?_
 refine .v 2 3 [] rfl rfl (fun _ _ => .cv (u64w h.ep) rfl (rfl)) ?_
 refine .v 0 3 [] rfl rfl (fun _ _ => .cf (num_pf (u64w h.ep) (u64w_bd _).1 (u64w_bd _).2) rfl) ?_
 refine .v 2 3 [] rfl rfl (fun _ _ => .cv (u64w h.tk) rfl (rfl)) ?_
 refine .v 0 3 [] rfl rfl (fun _ _ => .cf (num_pf (u64w h.tk) (u64w_bd _).1 (u64w_bd _).2) rfl) ?_
 refine .v 2 3 [] rfl rfl (fun _ _ => .cv (u64w h.ct) rfl (rfl)) ?_
 refine .v 0 3 [] rfl rfl (fun _ _ => .cf (num_pf (u64w h.ct) (u64w_bd _).1 (u64w_bd _).2) rfl) ?_
 refine .t 4 3 (E := ⟨some (20, _), [(3, _)]⟩) [3] rfl rfl (fun _ _ => .ba 3 rfl) ?_
 refine .v 0 4 [3] rfl rfl (fun _ _ => .cf (join_pf (msgL h) (msgL_len h) (Nat.le_of_ble_eq_true rfl)) rfl) ?_
 refine .y 1 4 rfl (by kernel_rfl) ?_
 exact .z 0 4 rfl (TE.retf rfl rfl rfl trivial)
theorem chk_pf (y : Int) (h : Hd) (hy : u64I y) (ho : h.ok) : PF Tryz.prog 29 [.v (.int .u64 y), .ag h.dv] (.v (.bool (checkH y h))) := by
 refine PF.enter (fn := Tryz.f29) Tryz.func29 rfl Tryz.ntmps29 rfl (fun w0 => .w ?_)
 refine .g 2 1 rfl ?_
 refine TE.frzb 3 rfl rfl rfl rfl ?_
 obtain ⟨b, hb⟩ : ∃ b, rightH h = b := ⟨_, rfl⟩
 have cR : PF Tryz.prog 72 [.ag h.dv] (.v (.bool b)) := hb ▸ right_pf h
 cases b with
 | true =>
  refine .d 0 2 rfl ?_
  refine .v 0 2 [] rfl rfl (fun _ _ => .lm (h.dv) rfl) ?_
  refine .v 0 2 [] rfl rfl (fun _ _ => .cf (cR) rfl) ?_
  refine .v 2 2 [] rfl rfl (fun _ _ => .lm (h.dv) rfl) ?_
  refine .v 0 2 [] rfl rfl (fun _ _ => .cf (msg_pf h) rfl) ?_
  refine .v 1 2 [] rfl rfl (fun _ _ => .lm (sgdv h.r h.s) rfl) ?_
  refine .v 0 2 [] rfl rfl (fun _ _ => .cf (sgc_pf y h.r h.s (msgB h) hy ho.1 ho.2 (by rw [msgB_len]; decide)) rfl) ?_
  refine .y 2 2 rfl (by kernel_rfl) ?_
  rw [checkH_yes hb]
  exact .z 0 2 rfl (TE.retf rfl rfl rfl (by first | trivial | exact pl_v _))
 | false =>
  refine .d 0 2 rfl ?_
  refine .v 0 2 [] rfl rfl (fun _ _ => .lm (h.dv) rfl) ?_
  refine .v 0 2 [] rfl rfl (fun _ _ => .cf (cR) rfl) ?_
  refine .y 9 2 rfl (by kernel_rfl) ?_
  rw [checkH_no hb]
  exact .z 0 2 rfl (TE.retf rfl rfl rfl (by first | trivial | exact pl_v _))
theorem rmsg_po (h : Hd) : PO Tryz.prog 48 [.ag h.dv] 5 1 (msgB h).length ((msgB h).flatMap bdv) := by
 refine PO.enter (fn := Tryz.f48) Tryz.func48 rfl Tryz.ntmps48 rfl (fun w0 => .w ?_)
 refine .g 2 1 rfl ?_
 refine TE.frzb 1 rfl rfl rfl rfl ?_
 refine .t 0 2 rfl rfl (.bb (bdv 72) 2 rfl) ?_
 refine .t 2 3 rfl rfl (.cv (u64w h.ep) rfl (rfl)) ?_
 refine .t 0 3 rfl rfl (.cf (rnum_pf (u64w h.ep) (u64w_bd _).1 (u64w_bd _).2) rfl) ?_
 refine .t 0 3 rfl rfl (.ap 3 rfl rfl (flat_one (fun _ => rfl) _) (Nat.le_of_ble_eq_true rfl) (Nat.le_of_ble_eq_true rfl)) ?_
 refine .g 1 4 rfl ?_
 refine TE.obj 3 (.row 5 1 (([72] ++ numB (u64w h.ep)).flatMap bdv)) rfl (congrArg (AO.row _ _) (by rw [List.flatMap_append]; rfl)) ?_
 refine TE.set 3 (.ow 3 9 1) rfl rfl ?_
 refine .d 0 4 rfl ?_
 refine .v 3 4 [] rfl rfl (fun _ _ => .cv (u64w h.tk) rfl (rfl)) ?_
 refine .v 0 4 [] rfl rfl (fun _ _ => .cf (rnum_pf (u64w h.tk) (u64w_bd _).1 (u64w_bd _).2) rfl) ?_
 refine .t 0 4 (E := ⟨some (15, _), [(3, .dead), (4, _)]⟩) [3, 4] rfl rfl (fun _ _ => .ap 4 rfl rfl (flat_one (fun _ => rfl) _) (Nat.le_of_ble_eq_true rfl) (Nat.le_of_ble_eq_true rfl)) ?_
 refine .v 2 5 [] rfl rfl (fun _ _ => .cv (u64w h.ct) rfl (rfl)) ?_
 refine .v 0 5 [] rfl rfl (fun _ _ => .cf (rnum_pf (u64w h.ct) (u64w_bd _).1 (u64w_bd _).2) rfl) ?_
 refine .t 0 5 (E := ⟨some (20, _), [(4, .dead), (5, _)]⟩) [4, 5] rfl rfl (fun _ _ => .ap 5 rfl rfl (flat_one (fun _ => rfl) _) (Nat.le_of_ble_eq_true rfl) (Nat.le_of_ble_eq_true rfl)) ?_
 refine .y 1 6 rfl (by kernel_rfl) ?_
 refine TE.obj 5 (.row 5 1 (([72] ++ numB (u64w h.ep) ++ numB (u64w h.tk) ++ numB (u64w h.ct)).flatMap bdv)) rfl (congrArg (AO.row _ _) (by simp only [List.flatMap_append])) ?_
 refine TE.set 3 (.ow 5 25 1) rfl rfl ?_
 refine .d 0 6 rfl ?_
 refine .t 3 6 (E := ⟨some (24, _), [(5, .dead), (6, _)]⟩) [5, 6] rfl rfl (fun _ _ => .ap 6 rfl rfl (hg_one _) (Nat.le_of_ble_eq_true rfl) (Nat.le_of_ble_eq_true rfl)) ?_
 refine .t 2 7 (E := ⟨some (27, _), [(6, .dead), (7, _)]⟩) [6, 7] rfl rfl (fun _ _ => .ap 7 rfl rfl (hg_one _) (Nat.le_of_ble_eq_true rfl) (Nat.le_of_ble_eq_true rfl)) ?_
 refine .y 1 8 rfl (by kernel_rfl) ?_
 refine TE.obj 7 (.row 5 1 ((msgB h).flatMap bdv)) rfl (congrArg (AO.row _ _) (by rw [← msgB_app]; simp only [List.flatMap_append]; rfl)) ?_
 refine TE.set 2 (.ow 7 (msgB h).length 1) rfl (congrArg (fun n => AV.ow _ n 1) (by rw [msgB_len])) ?_
 exact .z 0 8 rfl (TE.retof rfl rfl rfl (by rw [flat_length (sz := 1) (fun _ => rfl)]) (by decide) (pl_flat (fun b Y hY => by simp [bdv] at hY; subst hY; exact pl_v _) _))
theorem rmsg_pf (h : Hd) : PF Tryz.prog 48 [.ag h.dv] (slT bdv 1 (msgB h)) := (rmsg_po h).pf
theorem rsign_pf (x : Int) (h : Hd) (hx : u64I x) : PF Tryz.prog 61 [.v (.int .u64 x), .ag h.dv] (.ag (signH x h).dv) := by
 refine PF.enter (fn := Tryz.f61) Tryz.func61 rfl Tryz.ntmps61 rfl (fun w0 => .w ?_)
 refine .g 2 1 rfl ?_
 refine TE.obj 1 (.box 45 h.dv) rfl rfl ?_
 refine .t 1 3 rfl rfl (.lp (h.dv) rfl) ?_
 refine .t 0 3 rfl rfl (.cf (rmsg_pf h) rfl) ?_
 refine .t 0 3 rfl rfl (.cf (rsgn_pf x (msgB h) hx (by rw [msgB_len]; decide)) rfl) ?_
 refine .g 2 3 rfl ?_
 refine TE.obj 1 (.box 45 (signH x h).dv) rfl rfl ?_
 refine .t 0 3 rfl rfl (.lp ((signH x h).dv) rfl) ?_
 exact .z 1 3 rfl (TE.retf rfl rfl rfl (pl_hd _))
end Go.Proofs.YtdjcclcejmeheaaGreat
/-
  What a reader tells, step by step: plain words.
-/
namespace Go.Proofs.YtdjcclcejmeheaaGreat
set_option linter.unusedVariables false
set_option linter.unusedSimpArgs false
open Go.RowKit Pl
abbrev RS := List UInt8 × Int
def rdS (s : RS) (n : Nat) : RS := (rawRest s.1 s.2 n, rawErr s.1 s.2 n)
def rdN (s : RS) : Int := leNum (rawOut s.1 s.2 8)
def rdH (s : RS) : H := ofL (rawOut s.1 s.2 32)
theorem rdS_le (s : RS) (n : Nat) : (rdS s n).1.length ≤ s.1.length := rawRest_le _ _ _
theorem rdN_bd (s : RS) : 0 ≤ rdN s ∧ rdN s < 18446744073709551616 := leNum_u64 _ (rawOut_le _ _ _)
theorem rdN_nat (s : RS) : ∃ N : Nat, rdN s = N := ⟨(rdN s).toNat, by have := (rdN_bd s).1; omega⟩
theorem rdS_app (a b : List UInt8) {n : Nat} (h : a.length = n) : rdS (a ++ b, 0) n = (b, 0) := by
  subst h
  obtain ⟨_, h2, h3⟩ := rd_ok (l := a ++ b) (n := a.length) rfl (by simp)
  unfold rdS; simp only [h2, h3, List.drop_left']
theorem rdN_app (a b : List UInt8) (h : a.length = 8) : rdN (a ++ b, 0) = leNum a := by
  obtain ⟨h1, _, _⟩ := rd_ok (l := a ++ b) (n := 8) rfl (by simp; omega)
  unfold rdN; simp only [h1]; rw [List.take_left' h]
theorem rdH_app (x : H) (b : List UInt8) : rdH (H.l x ++ b, 0) = x := by
  obtain ⟨h1, _, _⟩ := rd_ok (l := H.l x ++ b) (n := 32) rfl (by simp [H.l_len])
  unfold rdH; simp only [h1]; rw [List.take_left' (H.l_len x), ofL_H]
end Go.Proofs.YtdjcclcejmeheaaGreat
/-
  Heads' bytes, and what bytes are read as: plain words.
-/
namespace Go.Proofs.YtdjcclcejmeheaaGreat
set_option linter.unusedVariables false
set_option linter.unusedSimpArgs false
open Go.RowKit Pl
def nearI (n : Int) : Int := if 1152921504606846976 < n then -1 else n
def intI (n : Int) : Int := if 9223372036854775807 < n then -1 else n
/-- A head out of bytes, its numbers told by f. -/
def hdF (f : Int → Int) (s : RS) : Hd := ⟨f (rdN s), f (rdN (rdS s 8)), f (rdN (rdS (rdS s 8) 8)), rdH (rdS (rdS (rdS s 8) 8) 8), rdH (rdS (rdS (rdS (rdS s 8) 8) 8) 32), rdN (rdS (rdS (rdS (rdS (rdS s 8) 8) 8) 32) 32), rdN (rdS (rdS (rdS (rdS (rdS (rdS s 8) 8) 8) 32) 32) 8)⟩
/-- What bytes are read as. -/
def readH (f : Int → Int) (l : List UInt8) : Hd × Int :=
  if 512 < l.length then (zeroHd, 22) else if l.length < 105 then (zeroHd, 21) else if 105 < l.length ∨ ¬ l.getD 0 0 = 72 then (zeroHd, 20) else if rightH (hdF f (l.drop 1, 0)) = true then (hdF f (l.drop 1, 0), 0) else (zeroHd, 23)
theorem readH_long {f : Int → Int} {l : List UInt8} (h : 512 < l.length) : readH f l = (zeroHd, 22) := if_pos h
theorem readH_short {f : Int → Int} {l : List UInt8} (h : l.length < 105) : readH f l = (zeroHd, 21) := by unfold readH; rw [if_neg (by omega), if_pos h]
theorem readH_bytes {f : Int → Int} {l : List UInt8} (h1 : ¬ 512 < l.length) (h2 : ¬ l.length < 105) (h : 105 < l.length ∨ ¬ l.getD 0 0 = 72) : readH f l = (zeroHd, 20) := by unfold readH; rw [if_neg h1, if_neg h2, if_pos h]
theorem readH_form {f : Int → Int} {l : List UInt8} (h1 : ¬ l.length < 105) (h2 : ¬ 105 < l.length) (h3 : l.getD 0 0 = 72) (h : rightH (hdF f (l.drop 1, 0)) = false) : readH f l = (zeroHd, 23) := by unfold readH; rw [if_neg (by omega), if_neg h1, if_neg (by rintro (q | q); exact h2 q; exact q h3), if_neg (by rw [h]; simp)]
theorem readH_ok {f : Int → Int} {l : List UInt8} (h1 : ¬ l.length < 105) (h2 : ¬ 105 < l.length) (h3 : l.getD 0 0 = 72) (h : rightH (hdF f (l.drop 1, 0)) = true) : readH f l = (hdF f (l.drop 1, 0), 0) := by unfold readH; rw [if_neg (by omega), if_neg h1, if_neg (by rintro (q | q); exact h2 q; exact q h3), if_pos h]
theorem readH_zero (f : Int → Int) (l : List UInt8) : (readH f l).1.ok := by
  have hz : zeroHd.ok := by unfold Hd.ok u64I zeroHd; simp
  unfold readH
  split
  · exact hz
  · split
    · exact hz
    · split
      · exact hz
      · split
        · exact ⟨rdN_bd _, rdN_bd _⟩
        · exact hz
/-- Whether a number is too great is one to a head, by both sides. -/
theorem rightH_near (s : RS) : rightH (hdF nearI s) = rightH (hdF intI s) := by
  have h1 := rdN_bd s
  have h2 := rdN_bd (rdS s 8)
  have h3 := rdN_bd (rdS (rdS s 8) 8)
  unfold rightH hdF
  simp only
  apply decide_eq_decide.2
  unfold nearI intI
  generalize rdN s = a at *
  generalize rdN (rdS s 8) = b at *
  generalize rdN (rdS (rdS s 8) 8) = c at *
  constructor <;> intro q <;> split at q <;> (try split at q) <;> (try split at q) <;> (repeat' split) <;> omega
theorem hdF_near {s : RS} (h : rightH (hdF intI s) = true) : hdF nearI s = hdF intI s := by
  have h' := of_decide_eq_true h
  have h1 := rdN_bd s
  have h2 := rdN_bd (rdS s 8)
  have h3 := rdN_bd (rdS (rdS s 8) 8)
  unfold hdF at h' ⊢
  simp only at h'
  have e : ∀ n, 0 ≤ intI n ∧ intI n ≤ 1152921504606846976 → nearI n = intI n := fun n q => by
    unfold nearI intI at *
    split at q <;> (repeat' split) <;> omega
  rw [e _ ⟨by omega, by omega⟩, e _ ⟨by omega, by omega⟩, e _ ⟨by omega, by omega⟩]
theorem readH_near (l : List UInt8) : readH nearI l = readH intI l := by
  unfold readH
  rw [rightH_near]
  by_cases h : rightH (hdF intI (l.drop 1, 0)) = true
  · rw [hdF_near h]
  · simp only [if_neg h]
theorem u64w_of {n : Int} (a : 0 ≤ n) (b : n ≤ 1152921504606846976) : u64w n = n := by unfold u64w; omega
theorem intI_of {n : Int} (a : 0 ≤ n) (b : n ≤ 1152921504606846976) : intI n = n := by unfold intI; rw [if_neg (by omega)]
theorem putH_cons (h : Hd) : putH h = 72 :: (numB (u64w h.ep) ++ (numB (u64w h.tk) ++ (numB (u64w h.ct) ++ (H.l h.root ++ (H.l h.log ++ (numB h.r ++ (numB h.s ++ []))))))) := by
  unfold putH putF
  rw [← msgB_app]
  simp only [List.append_assoc, List.append_nil, List.cons_append, List.nil_append]
theorem putH_drop (h : Hd) : (putH h).drop 1 = numB (u64w h.ep) ++ (numB (u64w h.tk) ++ (numB (u64w h.ct) ++ (H.l h.root ++ (H.l h.log ++ (numB h.r ++ (numB h.s ++ [])))))) := by
  rw [putH_cons, List.drop_succ_cons, List.drop_zero]
theorem putH_head (h : Hd) : (putH h).getD 0 0 = 72 := by rw [putH_cons, List.getD_cons_zero]
theorem hdF_putH {h : Hd} (hr : rightH h = true) (ho : h.ok) : hdF intI ((putH h).drop 1, 0) = h := by
  have h' := of_decide_eq_true hr
  obtain ⟨a1, a2, a3, a4, a5, a6⟩ := h'
  obtain ⟨⟨r0, r1⟩, ⟨s0, s1⟩⟩ := ho
  rw [putH_drop, u64w_of (by omega) (by omega), u64w_of a3 a4, u64w_of (by omega) (by omega)]
  unfold hdF
  simp only [rdS_app _ _ (numB_len _), rdS_app _ _ (H.l_len _), rdN_app _ _ (numB_len _), rdH_app]
  rw [leNum_numB _ (by omega) (by omega), leNum_numB _ a3 (by omega), leNum_numB _ (by omega) (by omega), leNum_numB _ r0 r1, leNum_numB _ s0 s1, intI_of (by omega) (by omega), intI_of a3 a4, intI_of (by omega) (by omega)]
/-- A right head comes back. -/
theorem read_putH {h : Hd} (hr : rightH h = true) (ho : h.ok) : readH intI (putH h) = (h, 0) := by
  have el := putH_len h
  have ef := hdF_putH hr ho
  rw [readH_ok (by omega) (by omega) (putH_head h) (by rw [ef]; exact hr), ef]
end Go.Proofs.YtdjcclcejmeheaaGreat

