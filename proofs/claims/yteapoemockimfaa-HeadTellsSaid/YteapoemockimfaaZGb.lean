/-
  Heads' bytes, and what bytes are read as: plain words.
-/
import Derived.Test.YteapoemockimfaaZFs
import Derived.Test.YteapoemockimfaaZGa
namespace Go.Proofs.Yteapoemockimfaa
set_option linter.unusedVariables false
set_option linter.unusedSimpArgs false
open Go.RowKit Pl
theorem putJ_hd (h : Hd) : totalLen [msgB h, putF h.r h.s] ≤ 1099511627776 := by
  simp only [totalLen, List.map_cons, List.map_nil, List.sum_cons, List.sum_nil, msgB_len, putF_len]; omega
theorem putH_flat (h : Hd) : [msgB h, putF h.r h.s].flatten = putH h := by unfold putH; simp
def nearI (n : Int) : Int := if 1152921504606846976 < n then -1 else n
def intI (n : Int) : Int := if 9223372036854775807 < n then -1 else n
/-- A head out of bytes, its numbers told by f. -/
def hdF (f : Int → Int) (s : RS) : Hd := ⟨f (rdN s), f (rdN (rdS s 8)), f (rdN (rdS (rdS s 8) 8)), rdH (rdS (rdS (rdS s 8) 8) 8), rdH (rdS (rdS (rdS (rdS s 8) 8) 8) 32), rdN (rdS (rdS (rdS (rdS (rdS s 8) 8) 8) 32) 32), rdN (rdS (rdS (rdS (rdS (rdS (rdS s 8) 8) 8) 32) 32) 8)⟩
/-- What bytes are read as. -/
def readH (f : Int → Int) (l : List UInt8) : Hd × Int :=
  if 512 < l.length then (zeroHd, 22) else if l.length < 105 then (zeroHd, 21) else if 105 < l.length ∨ ¬ l.getD 0 0 = 72 then (zeroHd, 20) else if rightH (hdF f (l.drop 1, 0)) = true then (hdF f (l.drop 1, 0), 0) else (zeroHd, 23)
theorem readH_long {f : Int → Int} {l : List UInt8} (h : 512 < l.length) : readH f l = (zeroHd, 22) := if_pos h
theorem readH_short {f : Int → Int} {l : List UInt8} (h : l.length < 105) : readH f l = (zeroHd, 21) := by unfold readH; rw [if_neg (by omega), if_pos h]
theorem readH_bytes {f : Int → Int} {l : List UInt8} (h1 : ¬ 512 < l.length) (h2 : ¬ l.length < 105) (h : 105 < l.length ∨ ¬ l.getD 0 0 = 72) : readH f l = (zeroHd, 20) := by unfold readH; rw [if_neg h1, if_neg h2, if_pos h]
theorem readH_form {f : Int → Int} {l : List UInt8} (h1 : ¬ l.length < 105) (h2 : ¬ 105 < l.length) (h3 : l.getD 0 0 = 72) (h : rightH (hdF f (l.drop 1, 0)) = false) : readH f l = (zeroHd, 23) := by unfold readH; rw [if_neg (by omega), if_neg h1, if_neg (by rintro (q | q); exact h2 q; exact q h3), if_neg (by rw [h]; simp)]
theorem readH_ok {f : Int → Int} {l : List UInt8} (h1 : ¬ l.length < 105) (h2 : ¬ 105 < l.length) (h3 : l.getD 0 0 = 72) (h : rightH (hdF f (l.drop 1, 0)) = true) : readH f l = (hdF f (l.drop 1, 0), 0) := by unfold readH; rw [if_neg (by omega), if_neg h1, if_neg (by rintro (q | q); exact h2 q; exact q h3), if_pos h]
/-- Whether a number is too great is one to a head, by both sides. -/
theorem rightH_near (s : RS) : rightH (hdF nearI s) = rightH (hdF intI s) := by
  have h1 := rdN_bd s
  have h2 := rdN_bd (rdS s 8)
  have h3 := rdN_bd (rdS (rdS s 8) 8)
  unfold rightH hdF
  simp only
  apply decide_eq_decide.2
  unfold nearI intI
  generalize rdN s = a at *
  generalize rdN (rdS s 8) = b at *
  generalize rdN (rdS (rdS s 8) 8) = c at *
  constructor <;> intro q <;> split at q <;> (try split at q) <;> (try split at q) <;> (repeat' split) <;> omega
theorem hdF_near {s : RS} (h : rightH (hdF intI s) = true) : hdF nearI s = hdF intI s := by
  have h' := of_decide_eq_true h
  have h1 := rdN_bd s
  have h2 := rdN_bd (rdS s 8)
  have h3 := rdN_bd (rdS (rdS s 8) 8)
  unfold hdF at h' ⊢
  simp only at h'
  have e : ∀ n, 0 ≤ intI n ∧ intI n ≤ 1152921504606846976 → nearI n = intI n := fun n q => by
    unfold nearI intI at *
    split at q <;> (repeat' split) <;> omega
  rw [e _ ⟨by omega, by omega⟩, e _ ⟨by omega, by omega⟩, e _ ⟨by omega, by omega⟩]
theorem readH_near (l : List UInt8) : readH nearI l = readH intI l := by
  unfold readH
  rw [rightH_near]
  by_cases h : rightH (hdF intI (l.drop 1, 0)) = true
  · rw [hdF_near h]
  · simp only [if_neg h]
theorem u64w_of {n : Int} (a : 0 ≤ n) (b : n ≤ 1152921504606846976) : u64w n = n := by unfold u64w; omega
theorem intI_of {n : Int} (a : 0 ≤ n) (b : n ≤ 1152921504606846976) : intI n = n := by unfold intI; rw [if_neg (by omega)]
theorem putH_cons (h : Hd) : putH h = 72 :: (numB (u64w h.ep) ++ (numB (u64w h.tk) ++ (numB (u64w h.ct) ++ (H.l h.root ++ (H.l h.log ++ (numB h.r ++ (numB h.s ++ []))))))) := by
  unfold putH putF
  rw [← msgB_app]
  simp only [List.append_assoc, List.append_nil, List.cons_append, List.nil_append]
theorem putH_drop (h : Hd) : (putH h).drop 1 = numB (u64w h.ep) ++ (numB (u64w h.tk) ++ (numB (u64w h.ct) ++ (H.l h.root ++ (H.l h.log ++ (numB h.r ++ (numB h.s ++ [])))))) := by
  rw [putH_cons, List.drop_succ_cons, List.drop_zero]
theorem putH_head (h : Hd) : (putH h).getD 0 0 = 72 := by rw [putH_cons, List.getD_cons_zero]
theorem hdF_putH {h : Hd} (hr : rightH h = true) (ho : h.ok) : hdF intI ((putH h).drop 1, 0) = h := by
  have h' := of_decide_eq_true hr
  obtain ⟨a1, a2, a3, a4, a5, a6⟩ := h'
  obtain ⟨⟨r0, r1⟩, ⟨s0, s1⟩⟩ := ho
  rw [putH_drop, u64w_of (by omega) (by omega), u64w_of a3 a4, u64w_of (by omega) (by omega)]
  unfold hdF
  simp only [rdS_app _ _ (numB_len _), rdS_app _ _ (H.l_len _), rdN_app _ _ (numB_len _), rdH_app]
  rw [leNum_numB _ (by omega) (by omega), leNum_numB _ a3 (by omega), leNum_numB _ (by omega) (by omega), leNum_numB _ r0 r1, leNum_numB _ s0 s1, intI_of (by omega) (by omega), intI_of a3 a4, intI_of (by omega) (by omega)]
/-- A right head comes back. -/
theorem read_putH {h : Hd} (hr : rightH h = true) (ho : h.ok) : readH intI (putH h) = (h, 0) := by
  have el := putH_len h
  have ef := hdF_putH hr ho
  rw [readH_ok (by omega) (by omega) (putH_head h) (by rw [ef]; exact hr), ef]
end Go.Proofs.Yteapoemockimfaa

