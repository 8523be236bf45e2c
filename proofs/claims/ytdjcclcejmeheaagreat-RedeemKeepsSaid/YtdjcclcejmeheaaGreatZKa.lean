import Derived.Test.YtdjcclcejmeheaaGreatZGb
import Derived.Test.YtdjcclcejmeheaaGreatZEc
import Derived.Test.YtdjcclcejmeheaaGreatZGr
import Derived.Test.YtdjcclcejmeheaaGreatZEv
/-
  Promises: plain values; lumps of both sides; what bytes are read as a promise.
-/
namespace Go.Proofs.YtdjcclcejmeheaaGreat
set_option linter.unusedVariables false
set_option linter.unusedSimpArgs false
open Go.RowKit Pl
theorem lump_po (l : List UInt8) (hl : l.length ≤ 549755813888) : PO Tryz.prog 120 [slT bdv 1 l] 5 1 (lumpB l).length ((lumpB l).flatMap bdv) := po_own1 fun w v hv => lump_any v l w (rd_of_rep hv) hl
theorem lump_pf (l : List UInt8) (hl : l.length ≤ 549755813888) : PF Tryz.prog 120 [slT bdv 1 l] (slT bdv 1 (lumpB l)) := (lump_po l hl).pf
theorem rlump_po (l : List UInt8) (hl : l.length ≤ 549755813888) : PO Tryz.prog 151 [slT bdv 1 l] 5 1 (lumpB l).length ((lumpB l).flatMap bdv) := po_own1 fun w v hv => rlump_any v l w (rd_of_rep hv) hl
theorem lumpB_len (l : List UInt8) : (lumpB l).length = 8 + l.length := lumpB_length l
/-- A promise. -/
structure Pm where
  e : En
  tk : Int
  dl : Int
  r : Int
  s : Int
def Pm.dv (p : Pm) : List DV := .v (strV p.e.nm) :: .v (.int .i64 p.e.ver) :: .v (.int .u64 p.e.key) :: .v (.int .i64 p.tk) :: .v (.int .i64 p.dl) :: sgdv p.r p.s
def Pm.ok (p : Pm) : Prop := u64I p.r ∧ u64I p.s
def zeroPm : Pm := ⟨⟨[], 0, 0⟩, 0, 0, 0, 0⟩
def rightQ (p : Pm) : Bool := rightE p.e.nm p.e.ver p.e.key && decide (0 ≤ p.tk ∧ p.tk ≤ 1152921504606846936 ∧ p.dl = p.tk + 40)
theorem rightQ_e {p : Pm} (h : rightE p.e.nm p.e.ver p.e.key = false) : rightQ p = false := by unfold rightQ; rw [h]; rfl
theorem rightQ_d {p : Pm} (h : rightE p.e.nm p.e.ver p.e.key = true) : rightQ p = decide (0 ≤ p.tk ∧ p.tk ≤ 1152921504606846936 ∧ p.dl = p.tk + 40) := by unfold rightQ; rw [h]; rfl
theorem rightQ_parts {p : Pm} (h : rightQ p = true) : rightE p.e.nm p.e.ver p.e.key = true ∧ 0 ≤ p.tk ∧ p.tk ≤ 1152921504606846936 ∧ p.dl = p.tk + 40 := by
  unfold rightQ at h
  rw [Bool.and_eq_true] at h
  exact ⟨h.1, of_decide_eq_true h.2⟩
theorem rightE_u {n : List UInt8} {v k : Int} (h : rightE n v k = true) : n.length ≤ 32 ∧ u64I k := by
  have := rightE_parts h
  unfold u64I; omega
/-- An entry's fields, what is signed. -/
def fldE (e : En) : List UInt8 := lumpB e.nm ++ numB (u64w e.ver) ++ numB e.key
theorem fldE_len (e : En) : (fldE e).length = 24 + e.nm.length := by unfold fldE; simp only [List.length_append, lumpB_len, numB_len]; omega
def msgQL (p : Pm) : List (List UInt8) := [[80], lumpB p.e.nm, numB (u64w p.e.ver), numB p.e.key, numB (u64w p.tk), numB (u64w p.dl)]
def msgQ (p : Pm) : List UInt8 := (msgQL p).flatten
theorem msgQ_app (p : Pm) : [80] ++ fldE p.e ++ numB (u64w p.tk) ++ numB (u64w p.dl) = msgQ p := by unfold msgQ msgQL fldE; simp
theorem msgQ_len (p : Pm) : (msgQ p).length = 41 + p.e.nm.length := by
  rw [← msgQ_app]; simp only [List.length_append, List.length_cons, List.length_nil, fldE_len, numB_len]; omega
theorem msgQL_len (p : Pm) (h : p.e.nm.length ≤ 1048576) : totalLen (msgQL p) ≤ 1099511627776 := by
  unfold msgQL
  simp only [totalLen, List.map_cons, List.map_nil, List.sum_cons, List.sum_nil, numB_len, lumpB_len, List.length_cons, List.length_nil]; omega
def checkQ (y : Int) (p : Pm) : Bool := rightQ p && checkF y (msgQ p) p.r p.s
theorem checkQ_no {y : Int} {p : Pm} (q : rightQ p = false) : checkQ y p = false := by unfold checkQ; rw [q]; rfl
theorem checkQ_yes {y : Int} {p : Pm} (q : rightQ p = true) : checkQ y p = checkF y (msgQ p) p.r p.s := by unfold checkQ; rw [q]; rfl
def signQ (x : Int) (p : Pm) : Pm := { p with r := (sigP x (msgQ p)).1, s := (sigP x (msgQ p)).2 }
theorem signQ_ok (x : Int) (p : Pm) : (signQ x p).ok := sigP_bd x (msgQ p)
def putQ (p : Pm) : List UInt8 := msgQ p ++ putF p.r p.s
theorem putQ_len (p : Pm) : (putQ p).length = 57 + p.e.nm.length := by unfold putQ; rw [List.length_append, msgQ_len, putF_len]; omega
/-- What makes a promise. -/
def makeQ (x : Int) (e : En) (t : Int) : Pm × Int :=
  if rightE e.nm e.ver e.key = false ∨ t < 0 ∨ 1152921504606846976 < t then (zeroPm, 23) else if 1152921504606846936 < t then (zeroPm, 31) else (signQ x ⟨e, t, t + 40, 0, 0⟩, 0)
theorem makeQ_form {x : Int} {e : En} {t : Int} (h : rightE e.nm e.ver e.key = false ∨ t < 0 ∨ 1152921504606846976 < t) : makeQ x e t = (zeroPm, 23) := if_pos h
theorem makeQ_clock {x : Int} {e : En} {t : Int} (h : ¬ (rightE e.nm e.ver e.key = false ∨ t < 0 ∨ 1152921504606846976 < t)) (k : 1152921504606846936 < t) : makeQ x e t = (zeroPm, 31) := by unfold makeQ; rw [if_neg h, if_pos k]
theorem makeQ_ok {x : Int} {e : En} {t : Int} (h : rightE e.nm e.ver e.key = true) (h0 : 0 ≤ t) (k : t ≤ 1152921504606846936) : makeQ x e t = (signQ x ⟨e, t, t + 40, 0, 0⟩, 0) := by
  unfold makeQ; rw [if_neg (by rw [h]; rintro (q | q | q); cases q; omega; omega), if_neg (by omega)]
theorem signQ_right {x : Int} {e : En} {t : Int} (h : rightE e.nm e.ver e.key = true) (h0 : 0 ≤ t) (k : t ≤ 1152921504606846936) : rightQ (signQ x ⟨e, t, t + 40, 0, 0⟩) = true := by
  unfold rightQ signQ; dsimp only; rw [h, decide_eq_true ⟨h0, k, rfl⟩]; rfl
/-- A lump out of bytes, of so many at the most. -/
def rdL (s : RS) (m : Int) : List UInt8 × RS := if ¬ (rdS s 8).2 = 0 then ([], rdS s 8) else if m < rdN s then ([], ([], 22)) else (rawOut (rdS s 8).1 (rdS s 8).2 (rdN s).toNat, rdS (rdS s 8) (rdN s).toNat)
theorem rdL_bad {s : RS} {m : Int} (h : ¬ (rdS s 8).2 = 0) : rdL s m = ([], rdS s 8) := if_pos h
theorem rdL_long {s : RS} {m : Int} (h : (rdS s 8).2 = 0) (k : m < rdN s) : rdL s m = ([], ([], 22)) := by unfold rdL; rw [if_neg (by simpa using h), if_pos k]
theorem rdL_raw {s : RS} {m : Int} (h : (rdS s 8).2 = 0) (k : ¬ m < rdN s) : rdL s m = (rawOut (rdS s 8).1 (rdS s 8).2 (rdN s).toNat, rdS (rdS s 8) (rdN s).toNat) := by unfold rdL; rw [if_neg (by simpa using h), if_neg k]
theorem rdL_short {s : RS} {m : Int} (h : (rdS s 8).2 = 0) (k : ¬ m < rdN s) (j : ¬ (rdN s).toNat ≤ (rdS s 8).1.length) : rdL s m = ([], ([], 21)) := by
  rw [rdL_raw h k]
  obtain ⟨a, b, c⟩ := rd_short (n := (rdN s).toNat) h j
  rw [a]
  show ([], (rawRest _ _ _, rawErr _ _ _)) = _
  rw [b, c]
theorem rdL_le (s : RS) (m : Int) : (rdL s m).2.1.length ≤ s.1.length := by
  unfold rdL
  split
  · exact rdS_le s 8
  · split
    · exact Nat.zero_le _
    · exact Nat.le_trans (rdS_le _ _) (rdS_le s 8)
theorem rdL_app (a b : List UInt8) {m : Nat} (h : a.length ≤ m) (h2 : a.length < 18446744073709551616) : rdL (lumpB a ++ b, 0) (m : Int) = (a, (b, 0)) := by
  have e : (lumpB a ++ b, 0) = ((numB (a.length : Int) ++ (a ++ b), 0) : RS) := by unfold lumpB; rw [List.append_assoc]
  have e1 := rdS_app (numB (a.length : Int)) (a ++ b) (numB_len _)
  have e2 : rdN (numB (a.length : Int) ++ (a ++ b), 0) = (a.length : Int) := by rw [rdN_app _ _ (numB_len _), leNum_numB _ (by omega) (by omega)]
  rw [e, rdL_raw (by rw [e1]) (by rw [e2]; omega), e1, e2, Int.toNat_natCast, rdS_app a b rfl]
  obtain ⟨h1, _, _⟩ := rd_ok (l := a ++ b) (x := 0) (n := a.length) rfl (by simp)
  rw [h1, List.take_left' rfl]
/-- Where a promise's numbers are read. -/
def pmA (s : RS) : Nat → RS
  | 0 => (rdL s 32).2
  | i + 1 => rdS (pmA s i) 8
theorem pmA_zero (s : RS) : pmA s 0 = (rdL s 32).2 := rfl
theorem pmA_succ (s : RS) (i : Nat) : pmA s (i + 1) = rdS (pmA s i) 8 := rfl
theorem pmA_le (s : RS) (i : Nat) : (pmA s i).1.length ≤ s.1.length := by
  induction i with
  | zero => exact rdL_le s 32
  | succ i ih => rw [pmA_succ]; exact Nat.le_trans (rdS_le _ _) ih
/-- A promise out of bytes, its numbers told by f. -/
def pmF (f : Int → Int) (s : RS) : Pm := ⟨⟨(rdL s 32).1, f (rdN (pmA s 0)), rdN (pmA s 1)⟩, f (rdN (pmA s 2)), f (rdN (pmA s 3)), rdN (pmA s 4), rdN (pmA s 5)⟩
def readQ (f : Int → Int) (l : List UInt8) : Pm × Int :=
  if 512 < l.length then (zeroPm, 22) else if l.length = 0 then (zeroPm, 21) else if ¬ l.getD 0 0 = 80 then (zeroPm, 20) else if ¬ (pmA (l.drop 1, 0) 6).2 = 0 then (zeroPm, (pmA (l.drop 1, 0) 6).2)
  else if 0 < (pmA (l.drop 1, 0) 6).1.length then (zeroPm, 20) else if rightQ (pmF f (l.drop 1, 0)) = true then (pmF f (l.drop 1, 0), 0) else (zeroPm, 23)
section
variable {f : Int → Int} {l : List UInt8}
theorem readQ_long (h : 512 < l.length) : readQ f l = (zeroPm, 22) := if_pos h
theorem readQ_none (h : l.length = 0) : readQ f l = (zeroPm, 21) := by unfold readQ; rw [if_neg (by omega), if_pos h]
theorem readQ_bytes (h1 : ¬ 512 < l.length) (h2 : ¬ l.length = 0) (h3 : ¬ l.getD 0 0 = 80) : readQ f l = (zeroPm, 20) := by unfold readQ; rw [if_neg h1, if_neg h2, if_pos h3]
theorem readQ_err (h1 : ¬ 512 < l.length) (h2 : ¬ l.length = 0) (h3 : l.getD 0 0 = 80) (h4 : ¬ (pmA (l.drop 1, 0) 6).2 = 0) : readQ f l = (zeroPm, (pmA (l.drop 1, 0) 6).2) := by
  unfold readQ; rw [if_neg h1, if_neg h2, if_neg (by simpa using h3), if_pos h4]
theorem readQ_left (h1 : ¬ 512 < l.length) (h2 : ¬ l.length = 0) (h3 : l.getD 0 0 = 80) (h4 : (pmA (l.drop 1, 0) 6).2 = 0) (h5 : 0 < (pmA (l.drop 1, 0) 6).1.length) : readQ f l = (zeroPm, 20) := by
  unfold readQ; rw [if_neg h1, if_neg h2, if_neg (by simpa using h3), if_neg (by simpa using h4), if_pos h5]
theorem readQ_form (h1 : ¬ 512 < l.length) (h2 : ¬ l.length = 0) (h3 : l.getD 0 0 = 80) (h4 : (pmA (l.drop 1, 0) 6).2 = 0) (h5 : ¬ 0 < (pmA (l.drop 1, 0) 6).1.length) (h6 : rightQ (pmF f (l.drop 1, 0)) = false) : readQ f l = (zeroPm, 23) := by
  unfold readQ; rw [if_neg h1, if_neg h2, if_neg (by simpa using h3), if_neg (by simpa using h4), if_neg h5, if_neg (by rw [h6]; decide)]
theorem readQ_ok (h1 : ¬ 512 < l.length) (h2 : ¬ l.length = 0) (h3 : l.getD 0 0 = 80) (h4 : (pmA (l.drop 1, 0) 6).2 = 0) (h5 : ¬ 0 < (pmA (l.drop 1, 0) 6).1.length) (h6 : rightQ (pmF f (l.drop 1, 0)) = true) : readQ f l = (pmF f (l.drop 1, 0), 0) := by
  unfold readQ; rw [if_neg h1, if_neg h2, if_neg (by simpa using h3), if_neg (by simpa using h4), if_neg h5, if_pos h6]
theorem zeroPm_ok : zeroPm.ok := by unfold Pm.ok u64I zeroPm; simp
theorem pmF_ok (f : Int → Int) (s : RS) : (pmF f s).ok := ⟨rdN_bd _, rdN_bd _⟩
theorem readQ_isok (f : Int → Int) (l : List UInt8) : (readQ f l).1.ok := by
  unfold readQ
  repeat' split
  all_goals first | exact zeroPm_ok | exact pmF_ok _ _
end
theorem nearI_of {n : Int} (h0 : 0 ≤ n) (q : 0 ≤ intI n ∧ intI n ≤ 1152921504606846976) : nearI n = intI n := by
  unfold nearI intI at *
  split at q <;> (repeat' split) <;> omega
theorem intI_of_near {n : Int} (h0 : 0 ≤ n) (q : 0 ≤ nearI n) : intI n = nearI n := by
  unfold nearI intI at *
  split at q <;> (repeat' split) <;> omega
theorem rightQ_near (s : RS) : rightQ (pmF nearI s) = rightQ (pmF intI s) := by
  have b0 := (rdN_bd (pmA s 0)).1
  have b2 := (rdN_bd (pmA s 2)).1
  have b3 := (rdN_bd (pmA s 3)).1
  apply Bool.eq_iff_iff.2
  constructor
  · intro h
    obtain ⟨h1, h2, h3, h4⟩ := rightQ_parts h
    have p1 := rightE_parts h1
    unfold pmF at h1 h2 h3 h4 p1 ⊢
    dsimp only at h1 h2 h3 h4 p1 ⊢
    have e0 := intI_of_near b0 (by omega)
    have e2 := intI_of_near b2 h2
    have e3 := intI_of_near b3 (by omega)
    unfold rightQ; dsimp only
    rw [e0, e2, e3, h1, decide_eq_true ⟨h2, h3, h4⟩]; rfl
  · intro h
    obtain ⟨h1, h2, h3, h4⟩ := rightQ_parts h
    have p1 := rightE_parts h1
    unfold pmF at h1 h2 h3 h4 p1 ⊢
    dsimp only at h1 h2 h3 h4 p1 ⊢
    have e0 := nearI_of b0 ⟨by omega, by omega⟩
    have e2 := nearI_of b2 ⟨h2, by omega⟩
    have e3 := nearI_of b3 ⟨by omega, by omega⟩
    unfold rightQ; dsimp only
    rw [e0, e2, e3, h1, decide_eq_true ⟨h2, h3, h4⟩]; rfl
theorem pmF_near {s : RS} (h : rightQ (pmF intI s) = true) : pmF nearI s = pmF intI s := by
  have b0 := (rdN_bd (pmA s 0)).1
  have b2 := (rdN_bd (pmA s 2)).1
  have b3 := (rdN_bd (pmA s 3)).1
  obtain ⟨h1, h2, h3, h4⟩ := rightQ_parts h
  have p1 := rightE_parts h1
  unfold pmF at h1 h2 h3 h4 p1 ⊢
  dsimp only at h1 h2 h3 h4 p1 ⊢
  rw [nearI_of b0 ⟨by omega, by omega⟩, nearI_of b2 ⟨h2, by omega⟩, nearI_of b3 ⟨by omega, by omega⟩]
theorem readQ_near (l : List UInt8) : readQ nearI l = readQ intI l := by
  unfold readQ
  rw [rightQ_near]
  by_cases h : rightQ (pmF intI (l.drop 1, 0)) = true
  · rw [pmF_near h]
  · simp only [if_neg h]
theorem putQ_cons (p : Pm) : putQ p = 80 :: (lumpB p.e.nm ++ (numB (u64w p.e.ver) ++ (numB p.e.key ++ (numB (u64w p.tk) ++ (numB (u64w p.dl) ++ (numB p.r ++ (numB p.s ++ []))))))) := by
  unfold putQ putF
  rw [← msgQ_app]
  unfold fldE
  simp only [List.append_assoc, List.append_nil, List.cons_append, List.nil_append]
theorem pmA_app {a b : List UInt8} (h : a.length = 8) {s : RS} {i : Nat} (hs : pmA s i = (a ++ b, 0)) : rdN (pmA s i) = leNum a ∧ pmA s (i + 1) = (b, 0) := by
  rw [pmA_succ, hs, rdN_app _ _ h, rdS_app _ _ h]; exact ⟨rfl, rfl⟩
/-- A right promise comes back. -/
theorem read_putQ {p : Pm} (hr : rightQ p = true) (ho : p.ok) : readQ intI (putQ p) = (p, 0) := by
  obtain ⟨h1, h2, h3, h4⟩ := rightQ_parts hr
  obtain ⟨⟨n0, n1⟩, ⟨v0, v1⟩, k0, k1⟩ := rightE_parts h1
  obtain ⟨⟨r0, r1⟩, ⟨s0, s1⟩⟩ := ho
  have el := putQ_len p
  have eh : (putQ p).getD 0 0 = 80 := by rw [putQ_cons, List.getD_cons_zero]
  have ed : (putQ p).drop 1 = lumpB p.e.nm ++ (numB (u64w p.e.ver) ++ (numB p.e.key ++ (numB (u64w p.tk) ++ (numB (u64w p.dl) ++ (numB p.r ++ (numB p.s ++ [])))))) := by rw [putQ_cons, List.drop_succ_cons, List.drop_zero]
  obtain ⟨S, hS⟩ : ∃ S : RS, S = ((putQ p).drop 1, 0) := ⟨_, rfl⟩
  have hL : rdL S 32 = (p.e.nm, (numB (u64w p.e.ver) ++ (numB p.e.key ++ (numB (u64w p.tk) ++ (numB (u64w p.dl) ++ (numB p.r ++ (numB p.s ++ []))))), 0)) := by
    rw [hS, ed]; exact rdL_app _ _ (m := 32) n1 (by omega)
  obtain ⟨a0, b0⟩ := pmA_app (numB_len _) (s := S) (i := 0) (by rw [pmA_zero, hL])
  obtain ⟨a1, b1⟩ := pmA_app (numB_len _) b0
  obtain ⟨a2, b2⟩ := pmA_app (numB_len _) b1
  obtain ⟨a3, b3⟩ := pmA_app (numB_len _) b2
  obtain ⟨a4, b4⟩ := pmA_app (numB_len _) b3
  obtain ⟨a5, b5⟩ := pmA_app (numB_len _) b4
  have ef : pmF intI S = p := by
    unfold pmF
    rw [hL, a0, a1, a2, a3, a4, a5, u64w_of (by omega) (by omega), u64w_of h2 (by omega), u64w_of (by omega) (by omega), leNum_numB _ (by omega) (by omega), leNum_numB _ (by omega) (by omega), leNum_numB _ h2 (by omega), leNum_numB _ (by omega) (by omega), leNum_numB _ r0 r1, leNum_numB _ s0 s1, intI_of (by omega) (by omega), intI_of h2 (by omega), intI_of (by omega) (by omega)]
  rw [readQ_ok (by omega) (by omega) eh (by rw [← hS, b5]) (by rw [← hS, b5]; simp) (by rw [← hS, ef]; exact hr), ← hS, ef]
end Go.Proofs.YtdjcclcejmeheaaGreat
/-
  Lumps and entries out of bytes.
-/
namespace Go.Proofs.YtdjcclcejmeheaaGreat
set_option linter.unusedVariables false
set_option linter.unusedSimpArgs false
open Go.RowKit Pl
set_option maxRecDepth 100000
set_option maxHeartbeats 3200000
theorem lump_s (s : RS) (m : Nat) (hs : s.1.length ≤ 1099511627776) (hm0 : m ≤ 1099511627776) : PM Tryz.prog 64 [.ptr 0 0, .d (.v (.int .i64 ((m : Nat) : Int)))] (.mbox 0 166 (rdC (s).1 (s).2)) (.mbox 0 166 (rdC ((rdL s ((m : Nat) : Int)).2).1 ((rdL s ((m : Nat) : Int)).2).2)) (.d (slT bdv 1 (rdL s ((m : Nat) : Int)).1)) := by
 refine PM.enter (fn := Tryz.f64) Tryz.func64 rfl Tryz.ntmps64 rfl rfl rfl (fun w0 K0 ob => .w ?_)
 refine .t 2 1 rfl rfl (.cm 0 (.mbox 0 166 (rdC (rdS s 8).1 (rdS s 8).2)) rfl (num_s s hs) rfl) ?_
 refine .q 7 1 rfl rfl (fun h1 => ?_) (fun h1 => ?_)
 ·skip
  have hx : ¬ (rdS s 8).2 = 0 := by simpa using h1
  refine .g 1 1 rfl ?_
  rw [rdL_bad hx]
  refine TE.sub 4 (slT bdv 1 []) rfl rfl (nil_sub _ _) ?_
  exact .z 0 1 rfl (TE.retm 0 rfl rfl rfl rfl rfl)
 ·skip
  have hx : (rdS s 8).2 = 0 := by simpa using h1
  have hb := rdN_bd s
  refine .t 3 1 rfl rfl (.cv (((m : Nat) : Int)) rfl (by rw [Int.max_eq_left (Int.natCast_nonneg m), IntKind.wrap_u64]; omega)) ?_
  refine .q 2 1 rfl rfl (fun h2 => ?_) (fun h2 => ?_)
  ·skip
   have hm : ((m : Nat) : Int) < rdN s := of_decide_eq_true h2
   refine .t 1 1 rfl rfl (.cm 0 (.mbox 0 166 (rdC [] 22)) rfl (fail_pm _ _ 22) rfl) ?_
   refine .g 1 1 rfl ?_
   rw [rdL_long hx hm]
   refine TE.sub 4 (slT bdv 1 []) rfl rfl (nil_sub _ _) ?_
   exact .z 0 1 rfl (TE.retm 0 rfl rfl rfl rfl rfl)
  ·skip
   have hm : ¬ ((m : Nat) : Int) < rdN s := of_decide_eq_false h2
   refine .t 6 1 rfl rfl (.cv ((((rdS s 8).1.length : Nat) : Int)) rfl (by rw [IntKind.wrap_u64]; have := rdS_le s 8; omega)) ?_
   refine .q 2 1 rfl rfl (fun h3 => ?_) (fun h3 => ?_)
   ·skip
    have hn : ¬ (rdN s).toNat ≤ (rdS s 8).1.length := by have q := of_decide_eq_true h3; (try dsimp only at q); omega
    refine .t 1 1 rfl rfl (.cm 0 (.mbox 0 166 (rdC [] 21)) rfl (fail_pm _ _ 21) rfl) ?_
    refine .g 1 1 rfl ?_
    rw [rdL_short hx hm hn]
    refine TE.sub 4 (slT bdv 1 []) rfl rfl (nil_sub _ _) ?_
    exact .z 0 1 rfl (TE.retm 0 rfl rfl rfl rfl rfl)
   ·skip
    have hn : (rdN s).toNat ≤ (rdS s 8).1.length := by have q := of_decide_eq_false h3; (try dsimp only at q); omega
    refine .t 2 1 rfl rfl (.cv ((((rdN s).toNat : Nat) : Int)) rfl (by rw [IntKind.wrap_i64]; omega)) ?_
    refine .t 0 1 rfl rfl (.cm 0 (.mbox 0 166 (rdC (rdS (rdS s 8) (rdN s).toNat).1 (rdS (rdS s 8) (rdN s).toNat).2)) rfl (raw_pm (rdS s 8).1 (rdS s 8).2 (rdN s).toNat (Nat.le_trans (rdS_le s 8) hs)) rfl) ?_
    rw [rdL_raw hx hm]
    exact .z 1 1 rfl (TE.retm 0 rfl rfl rfl rfl rfl)
theorem rfields_po (e : En) (hn : e.nm.length ≤ 1048576) (hk : u64I e.key) : PO Tryz.prog 130 [.ag e.dv] 5 1 (fldE e).length ((fldE e).flatMap bdv) := by
 refine PO.enter (fn := Tryz.f130) Tryz.func130 rfl Tryz.ntmps130 rfl (fun w0 => .w ?_)
 refine .g 2 1 rfl ?_
 refine TE.frzb 1 rfl rfl rfl rfl ?_
 refine .t 2 2 rfl rfl (.convsb rfl rfl us9 u822 (by omega)) ?_
 refine .t 0 2 rfl rfl (.co 2 (rlump_po e.nm (by omega)) rfl) ?_
 refine .t 4 3 rfl rfl (.cv (u64w e.ver) rfl (rfl)) ?_
 refine .t 0 3 rfl rfl (.cf (rnum_pf (u64w e.ver) (u64w_bd _).1 (u64w_bd _).2) rfl) ?_
 refine .t 0 3 rfl rfl (.ap 3 rfl (by rw [flat_length (sz := 1) (fun _ => rfl)]) (flat_one (fun _ => rfl) _) (by simp only [List.length_append, lumpB_len, numB_len, fldE_len, List.length_cons, List.length_nil]; omega) (by simp only [List.length_append, lumpB_len, numB_len, fldE_len, List.length_cons, List.length_nil]; omega)) ?_
 refine .g 1 4 rfl ?_
 refine TE.obj 3 (.row 5 1 ((lumpB e.nm ++ numB (u64w e.ver)).flatMap bdv)) rfl (congrArg (AO.row _ _) (by rw [List.flatMap_append])) ?_
 refine TE.set 3 (.ow 3 (lumpB e.nm ++ numB (u64w e.ver)).length 1) rfl (congrArg (fun n => AV.ow _ n 1) (by rw [List.length_append])) ?_
 refine .t 3 4 rfl rfl (.cf (rnum_pf e.key hk.1 hk.2) rfl) ?_
 refine .t 0 4 rfl rfl (.ap 4 rfl (by rw [flat_length (sz := 1) (fun _ => rfl)]) (flat_one (fun _ => rfl) _) (by simp only [List.length_append, lumpB_len, numB_len, fldE_len, List.length_cons, List.length_nil]; omega) (by simp only [List.length_append, lumpB_len, numB_len, fldE_len, List.length_cons, List.length_nil]; omega)) ?_
 refine .g 1 5 rfl ?_
 refine TE.obj 4 (.row 5 1 ((fldE e).flatMap bdv)) rfl (congrArg (AO.row _ _) (by unfold fldE; simp only [List.flatMap_append])) ?_
 refine TE.set 2 (.ow 4 (fldE e).length 1) rfl (congrArg (fun n => AV.ow _ n 1) (by unfold fldE; simp only [List.length_append])) ?_
 exact .z 0 5 rfl (TE.retof rfl rfl rfl (by rw [flat_length (sz := 1) (fun _ => rfl)]) (by decide) (pl_flat (fun b Y hY => by simp [bdv] at hY; subst hY; exact pl_v _) _))
end Go.Proofs.YtdjcclcejmeheaaGreat

