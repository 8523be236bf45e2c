/-
  Promises: the values, their bytes, what is read; the plain laws.
-/
import Derived.Test.YtbhkcgnlegmjlaaUpL
namespace Go.Proofs.Ytbhkcgnlegmjlaa
set_option linter.unusedVariables false
set_option linter.unusedSimpArgs false
open Go.RowKit

/-- A promise. -/
structure Pr where
  nm : List UInt8
  ver : Int
  key : Int
  tk : Int
  dl : Int
  r : Int
  s : Int
def Pr.cells (p : Pr) : List Value := [strV p.nm, .int .i64 p.ver, .int .u64 p.key, .int .i64 p.tk, .int .i64 p.dl, .int .u64 p.r, .int .u64 p.s]
def prV (p : Pr) : Value := .agg p.cells.toArray
structure Pr.ok (p : Pr) : Prop where
  nm : p.nm.length ≤ 1048576
  ver : isI64 p.ver
  key : isU64 p.key
  tk : isI64 p.tk
  dl : isI64 p.dl
  r : isU64 p.r
  s : isU64 p.s
def zeroP : Pr := ⟨[], 0, 0, 0, 0, 0, 0⟩
theorem zeroP_ok : zeroP.ok := by
  refine ⟨?_, ?_, ?_, ?_, ?_, ?_, ?_⟩ <;> simp only [isI64, isU64, zeroP] <;> simp
def rightP (p : Pr) : Bool := rightE p.nm p.ver p.key && (decide (0 ≤ p.tk) && (decide (p.tk ≤ 1152921504606846936) && decide (p.dl = p.tk + 40)))
def msgP (p : Pr) : List UInt8 := byt 80 :: (fieldsE p.nm p.ver p.key ++ (numB (u64 p.tk) ++ numB (u64 p.dl)))
theorem msgP_length (p : Pr) : (msgP p).length = p.nm.length + 41 := by simp [msgP, fieldsE_length, numB_length]
def bytesP (p : Pr) : List UInt8 := msgP p ++ putF p.r p.s
theorem bytesP_length (p : Pr) : (bytesP p).length = p.nm.length + 57 := by simp [bytesP, msgP_length, putF_len]
def signP (x : Int) (p : Pr) : Pr := { p with r := sigR (x % 2305843009213693950) (msgP p), s := sigS (x % 2305843009213693950) (msgP p) }
theorem signP_ok (x : Int) (p : Pr) (k : p.ok) : (signP x p).ok := by
  obtain ⟨r0, r1⟩ := sigR_bd (x % 2305843009213693950) (msgP p)
  obtain ⟨s0, s1⟩ := sigS_bd (x % 2305843009213693950) (msgP p)
  exact ⟨k.nm, k.ver, k.key, k.tk, k.dl, ⟨r0, by show sigR _ _ < _; omega⟩, ⟨s0, by show sigS _ _ < _; omega⟩⟩
def checkP (y : Int) (p : Pr) : Bool := rightP p && checkF y (msgP p) p.r p.s
theorem rightP_sign (x : Int) (p : Pr) : rightP (signP x p) = rightP p := rfl
theorem checkP_sig (y : Int) (p : Pr) (r s : Int) : checkP y { p with r := r, s := s } = (rightP p && checkF y (msgP p) r s) := rfl
theorem check_signP (x : Int) (p : Pr) (h : rightP p = true) : checkP (pubF x) (signP x p) = true := by
  unfold signP
  rw [checkP_sig, h, Bool.true_and, ← pub_mod x]
  exact check_own _ _ (Int.emod_nonneg _ (by decide)) (Int.emod_lt_of_pos _ (by decide))
def freshP (n : List UInt8) (v k t : Int) : Pr := ⟨n, v, k, t, t + 40, 0, 0⟩
def makeErr (n : List UInt8) (v k t : Int) : Int := if (!rightE n v k || (decide (t < 0) || decide (1152921504606846976 < t))) = true then 23 else if 1152921504606846936 < t then 31 else 0
def makeP (x : Int) (n : List UInt8) (v k t : Int) : Pr := if makeErr n v k t = 0 then signP x (freshP n v k t) else zeroP
def putPErr (p : Pr) : Int := if rightP p then 0 else 23
def putPOut (p : Pr) : List UInt8 := if rightP p then bytesP p else []
def nearF (n : Int) : Int := if 1152921504606846976 < n then -1 else n
theorem nearF_ok (n : Int) (h0 : 0 ≤ n) (h1 : n < 18446744073709551616) : isI64 (nearF n) := by unfold isI64 nearF; split <;> omega
def parseP (f : Int → Int) (b : List UInt8) : Pr := ⟨lmpOut 32 b 0, f (ust b 0).num, (ust b 1).num, f (ust b 2).num, f (ust b 3).num, (ust b 4).num, (ust b 5).num⟩
/-- What is read behind the letter. -/
def tailP (f : Int → Int) (b : List UInt8) : Pr × Int :=
  if (ust b 6).x = 0 then (if 0 < (ust b 6).l.length then (zeroP, 20) else if rightP (parseP f b) then (parseP f b, 0) else (zeroP, 23)) else (zeroP, (ust b 6).x)
def readP (b : List UInt8) : Pr × Int :=
  if 512 < b.length then (zeroP, 22) else if b.length = 0 then (zeroP, 21) else if b.head? = some (byt 80) then tailP nearF (b.drop 1) else (zeroP, 20)
theorem parseP_ok (b : List UInt8) (h : b.length ≤ 1048576) : (parseP nearF b).ok :=
  ⟨Nat.le_trans (lmpOut_le _ _ _) h, nearF_ok _ (numR_bd _ _).1 (numR_bd _ _).2, numR_bd _ _, nearF_ok _ (numR_bd _ _).1 (numR_bd _ _).2, nearF_ok _ (numR_bd _ _).1 (numR_bd _ _).2, numR_bd _ _, numR_bd _ _⟩
theorem parseP_ok' (b : List UInt8) (h : b.length ≤ 1048576) : (parseP intF b).ok :=
  ⟨Nat.le_trans (lmpOut_le _ _ _) h, int_ok _ (numR_bd _ _).1 (numR_bd _ _).2, numR_bd _ _, int_ok _ (numR_bd _ _).1 (numR_bd _ _).2, int_ok _ (numR_bd _ _).1 (numR_bd _ _).2, numR_bd _ _, numR_bd _ _⟩
theorem rightP_near (b : List UInt8) : rightP (parseP intF b) = rightP (parseP nearF b) := by
  have h1 := numR_bd (ust b 0).l (ust b 0).x
  have h2 := numR_bd (ust b 2).l (ust b 2).x
  have h3 := numR_bd (ust b 3).l (ust b 3).x
  unfold rightP rightE parseP nearF intF
  simp only
  change isU64 (ust b 0).num at h1
  change isU64 (ust b 2).num at h2
  change isU64 (ust b 3).num at h3
  unfold isU64 at h1 h2 h3
  generalize (ust b 0).num = x at *
  generalize (ust b 2).num = y at *
  generalize (ust b 3).num = z at *
  rw [Bool.eq_iff_iff]
  simp only [Bool.and_eq_true, Bool.or_eq_true, decide_eq_true_eq]
  split <;> split <;> split <;> split <;> split <;> split <;> omega
theorem parseP_near (b : List UInt8) (h : rightP (parseP nearF b) = true) : parseP intF b = parseP nearF b := by
  have h1 := numR_bd (ust b 0).l (ust b 0).x
  have h2 := numR_bd (ust b 2).l (ust b 2).x
  have h3 := numR_bd (ust b 3).l (ust b 3).x
  unfold rightP rightE parseP nearF at h
  simp only [Bool.and_eq_true, Bool.or_eq_true, decide_eq_true_eq] at h
  unfold parseP nearF intF
  change isU64 (ust b 0).num at h1
  change isU64 (ust b 2).num at h2
  change isU64 (ust b 3).num at h3
  unfold isU64 at h1 h2 h3
  generalize (ust b 0).num = x at *
  generalize (ust b 2).num = y at *
  generalize (ust b 3).num = z at *
  have hx : ¬ (1152921504606846976 < x) := by intro hc; rw [if_pos hc] at h; omega
  have hy : ¬ (1152921504606846976 < y) := by intro hc; rw [if_pos hc] at h; omega
  have hz : ¬ (1152921504606846976 < z) := by
    intro hc
    rw [if_neg hx, if_neg hy, if_pos hc] at h
    omega
  rw [if_neg hx, if_neg hy, if_neg hz, if_neg (by omega), if_neg (by omega), if_neg (by omega)]
theorem tailP_int (b : List UInt8) : tailP intF b = tailP nearF b := by
  unfold tailP
  rw [rightP_near]
  cases h : rightP (parseP nearF b) with
  | false => simp only [Bool.false_eq_true, if_false]
  | true => rw [parseP_near b h]
theorem tailP_ok (b : List UInt8) (hb : b.length ≤ 1048576) : (tailP nearF b).1.ok := by
  unfold tailP
  split
  · split
    · exact zeroP_ok
    · split
      · exact parseP_ok b hb
      · exact zeroP_ok
  · exact zeroP_ok
theorem readP_ok (b : List UInt8) : (readP b).1.ok := by
  unfold readP
  split
  · exact zeroP_ok
  · split
    · exact zeroP_ok
    · split
      · exact tailP_ok _ (by rw [List.length_drop]; omega)
      · exact zeroP_ok
theorem parse_bytesP (p : Pr) (k : p.ok) (h : p.nm.length ≤ 32) : ∃ b, bytesP p = byt 80 :: b ∧ lmpOut 32 b 0 = p.nm ∧ (ust b 0).num = u64 p.ver ∧ (ust b 1).num = p.key ∧ (ust b 2).num = u64 p.tk ∧ (ust b 3).num = u64 p.dl ∧ (ust b 4).num = p.r ∧ (ust b 5).num = p.s ∧ ust b 6 = ⟨[], 0⟩ := by
  have e : bytesP p = byt 80 :: (lumpB p.nm ++ (numB (u64 p.ver) ++ (numB p.key ++ (numB (u64 p.tk) ++ (numB (u64 p.dl) ++ (numB p.r ++ (numB p.s ++ []))))))) := by simp [bytesP, msgP, fieldsE, putF]
  obtain ⟨a0, a1⟩ := lmp_lumpB p.nm (numB (u64 p.ver) ++ (numB p.key ++ (numB (u64 p.tk) ++ (numB (u64 p.dl) ++ (numB p.r ++ (numB p.s ++ [])))))) h
  obtain ⟨b0, b1⟩ := RS.num_numB (u64 p.ver) (numB p.key ++ (numB (u64 p.tk) ++ (numB (u64 p.dl) ++ (numB p.r ++ (numB p.s ++ []))))) (u64_bd _)
  obtain ⟨c0, c1⟩ := RS.num_numB p.key (numB (u64 p.tk) ++ (numB (u64 p.dl) ++ (numB p.r ++ (numB p.s ++ [])))) k.key
  obtain ⟨d0, d1⟩ := RS.num_numB (u64 p.tk) (numB (u64 p.dl) ++ (numB p.r ++ (numB p.s ++ []))) (u64_bd _)
  obtain ⟨e0, e1⟩ := RS.num_numB (u64 p.dl) (numB p.r ++ (numB p.s ++ [])) (u64_bd _)
  obtain ⟨f0, f1⟩ := RS.num_numB p.r (numB p.s ++ []) k.r
  obtain ⟨g0, g1⟩ := RS.num_numB p.s [] k.s
  refine ⟨_, e, a0, ?_, ?_, ?_, ?_, ?_, ?_, ?_⟩
  · show (RS.lump ⟨_, 0⟩).num = _; rw [a1]; exact b0
  · show (RS.lump ⟨_, 0⟩).next.num = _; rw [a1, b1]; exact c0
  · show (RS.lump ⟨_, 0⟩).next.next.num = _; rw [a1, b1, c1]; exact d0
  · show (RS.lump ⟨_, 0⟩).next.next.next.num = _; rw [a1, b1, c1, d1]; exact e0
  · show (RS.lump ⟨_, 0⟩).next.next.next.next.num = _; rw [a1, b1, c1, d1, e1]; exact f0
  · show (RS.lump ⟨_, 0⟩).next.next.next.next.next.num = _; rw [a1, b1, c1, d1, e1, f1]; exact g0
  · show (RS.lump ⟨_, 0⟩).next.next.next.next.next.next = _; rw [a1, b1, c1, d1, e1, f1, g1]
theorem rightP_parts (p : Pr) (hr : rightP p = true) : 1 ≤ p.nm.length ∧ p.nm.length ≤ 32 ∧ 1 ≤ p.ver ∧ p.ver ≤ 1073741824 ∧ 1 ≤ p.key ∧ p.key < 2305843009213693951 ∧ 0 ≤ p.tk ∧ p.tk ≤ 1152921504606846936 ∧ p.dl = p.tk + 40 := by
  unfold rightP rightE at hr
  simp only [Bool.and_eq_true, Bool.or_eq_true, decide_eq_true_eq] at hr
  obtain ⟨⟨h1, h2, h3, h4, h5, h6⟩, h7, h8, h9⟩ := hr
  exact ⟨h1, h2, h3, h4, h5, h6, h7, h8, h9⟩
theorem read_putP (p : Pr) (k : p.ok) (hr : rightP p = true) : readP (bytesP p) = (p, 0) := by
  obtain ⟨h1, h2, h3, h4, h5, h6, h7, h8, h9⟩ := rightP_parts p hr
  obtain ⟨b, e, a0, b0, c0, d0, e0, f0, g0, z⟩ := parse_bytesP p k h2
  have hlen := bytesP_length p
  rw [e] at hlen
  unfold readP
  rw [e, if_neg (by rw [hlen]; omega), if_neg (by simp), if_pos (show (byt 80 :: b).head? = some (byt 80) from rfl)]
  show tailP nearF b = (p, 0)
  have hp : parseP nearF b = p := by
    unfold parseP
    rw [a0, b0, c0, d0, e0, f0, g0]
    have q1 : nearF (u64 p.ver) = p.ver := by unfold nearF u64; rw [if_neg (by omega)]; omega
    have q2 : nearF (u64 p.tk) = p.tk := by unfold nearF u64; rw [if_neg (by omega)]; omega
    have q3 : nearF (u64 p.dl) = p.dl := by unfold nearF u64; rw [if_neg (by omega)]; omega
    rw [q1, q2, q3]
  unfold tailP
  rw [z, hp, hr]
  simp
theorem rightP_make (n : List UInt8) (v k t : Int) (h : makeErr n v k t = 0) : rightP (freshP n v k t) = true := by
  unfold makeErr at h
  split at h
  · omega
  · rename_i h1
    split at h
    · omega
    · rename_i h2
      simp only [Bool.or_eq_true, Bool.not_eq_true', decide_eq_true_eq, not_or] at h1
      obtain ⟨h3, h4, h5⟩ := h1
      have h6 : rightE n v k = true := by simpa using h3
      unfold rightP freshP
      simp only
      rw [h6, decide_eq_true (show 0 ≤ t by omega), decide_eq_true (show t ≤ 1152921504606846936 by omega)]
      simp
theorem makeP_ok (x : Int) (n : List UInt8) (v k t : Int) (hn : n.length ≤ 1048576) (hv : isI64 v) (hk : isU64 k) : (makeP x n v k t).ok := by
  unfold makeP
  split
  · rename_i h
    obtain ⟨_, _, _, _, _, _, h7, h8, h9⟩ := rightP_parts _ (rightP_make n v k t h)
    have h7' : 0 ≤ t := h7
    have h8' : t ≤ 1152921504606846936 := h8
    refine signP_ok _ _ ⟨hn, hv, hk, ⟨by show _ ≤ t; omega, by show t < _; omega⟩, ⟨by show _ ≤ t + 40; omega, by show t + 40 < _; omega⟩, ⟨?_, ?_⟩, ⟨?_, ?_⟩⟩ <;> simp [freshP]
  · exact zeroP_ok
end Go.Proofs.Ytbhkcgnlegmjlaa
