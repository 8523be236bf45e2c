/-
  Heads: the values, their bytes, what is read; the plain laws.
-/
import Derived.Test.YteapoemockimfaaSgL
namespace Go.Proofs.Yteapoemockimfaa
set_option linter.unusedVariables false
set_option linter.unusedSimpArgs false
open Go.RowKit

/-- A head. -/
structure Hd where
  ep : Int
  tk : Int
  ct : Int
  root : List UInt8
  log : List UInt8
  r : Int
  s : Int
def Hd.cells (h : Hd) : List Value := .int .i64 h.ep :: .int .i64 h.tk :: .int .i64 h.ct :: (bvs h.root ++ (bvs h.log ++ [.int .u64 h.r, .int .u64 h.s]))
def headV (h : Hd) : Value := .agg h.cells.toArray
def isI64 (x : Int) : Prop := -9223372036854775808 ≤ x ∧ x < 9223372036854775808
def isU64 (x : Int) : Prop := 0 ≤ x ∧ x < 18446744073709551616
structure Hd.ok (h : Hd) : Prop where
  ep : isI64 h.ep
  tk : isI64 h.tk
  ct : isI64 h.ct
  root : h.root.length = 32
  log : h.log.length = 32
  r : isU64 h.r
  s : isU64 h.s
theorem Hd.cells_length (h : Hd) (k : h.ok) : h.cells.length = 69 := by simp [Hd.cells, bvs_length, k.root, k.log]
theorem Hd.cells_one (h : Hd) : ∀ v ∈ h.cells, v.oneCell' = true := by
  intro v hv
  simp only [Hd.cells, List.mem_cons, List.mem_append] at hv
  rcases hv with rfl | rfl | rfl | hv | hv | rfl | rfl | hv
  · rfl
  · rfl
  · rfl
  · exact bvs_one _ v hv
  · exact bvs_one _ v hv
  · rfl
  · rfl
  · cases hv
def rightF (h : Hd) : Bool := decide (1 ≤ h.ep) && (decide (h.ep ≤ 1073741824) && (decide (0 ≤ h.tk) && (decide (h.tk ≤ 1152921504606846976) && (decide (1 ≤ h.ct) && decide (h.ct ≤ 8)))))
def u64 (x : Int) : Int := x % 18446744073709551616
theorem u64_bd (x : Int) : 0 ≤ u64 x ∧ u64 x < 18446744073709551616 := ⟨Int.emod_nonneg _ (by decide), Int.emod_lt_of_pos _ (by decide)⟩
def msgF (h : Hd) : List UInt8 := byt 72 :: (numB (u64 h.ep) ++ (numB (u64 h.tk) ++ (numB (u64 h.ct) ++ (h.root ++ h.log))))
theorem msgF_length (h : Hd) (k : h.ok) : (msgF h).length = 89 := by simp [msgF, numB_length, k.root, k.log]
def putH (h : Hd) : List UInt8 := msgF h ++ putF h.r h.s
theorem putH_length (h : Hd) (k : h.ok) : (putH h).length = 105 := by simp [putH, putF, numB_length, msgF_length h k]
def signH (x : Int) (h : Hd) : Hd := { h with r := sigR (x % 2305843009213693950) (msgF h), s := sigS (x % 2305843009213693950) (msgF h) }
def checkH (y : Int) (h : Hd) : Bool := rightF h && checkF y (msgF h) h.r h.s
theorem signH_ok (x : Int) (h : Hd) (k : h.ok) : (signH x h).ok := by
  obtain ⟨r0, r1⟩ := sigR_bd (x % 2305843009213693950) (msgF h)
  obtain ⟨s0, s1⟩ := sigS_bd (x % 2305843009213693950) (msgF h)
  exact ⟨k.ep, k.tk, k.ct, k.root, k.log, ⟨r0, by show sigR _ _ < _; omega⟩, ⟨s0, by show sigS _ _ < _; omega⟩⟩
def zeros32 : List UInt8 := List.replicate 32 0
def zeroH : Hd := ⟨0, 0, 0, zeros32, zeros32, 0, 0⟩
theorem zeroH_ok : zeroH.ok := by
  refine ⟨?_, ?_, ?_, rfl, rfl, ?_, ?_⟩ <;> simp only [isI64, isU64, zeroH] <;> omega
/-- The number at a place. -/
def num8 (b : List UInt8) (i : Nat) : Int := leNum ((b.drop i).take 8)
theorem num8_bd (b : List UInt8) (i : Nat) : 0 ≤ num8 b i ∧ num8 b i < 18446744073709551616 := leNum_u64 _ (by rw [List.length_take]; omega)
def nearF (n : Int) : Int := if 1152921504606846976 < n then -1 else n
def intF (n : Int) : Int := if 9223372036854775807 < n then -1 else n
def parseH (near : Int → Int) (b : List UInt8) : Hd := ⟨near (num8 b 1), near (num8 b 9), near (num8 b 17), (b.drop 25).take 32, (b.drop 57).take 32, num8 b 89, num8 b 97⟩
def headErr (b : List UInt8) : Int := if 512 < b.length then 22 else if b.length < 105 then 21 else if 105 < b.length then 20 else if b.head? = some (byt 72) then 0 else 20
def readH (b : List UInt8) : Hd × Int := if headErr b = 0 then (if rightF (parseH nearF b) then (parseH nearF b, 0) else (zeroH, 23)) else (zeroH, headErr b)
theorem right_near (b : List UInt8) : rightF (parseH intF b) = rightF (parseH nearF b) := by
  have h1 := num8_bd b 1
  have h2 := num8_bd b 9
  have h3 := num8_bd b 17
  unfold rightF parseH nearF intF
  simp only
  generalize num8 b 1 = x at *
  generalize num8 b 9 = y at *
  generalize num8 b 17 = z at *
  rw [Bool.eq_iff_iff]
  simp only [Bool.and_eq_true, decide_eq_true_eq]
  split <;> split <;> split <;> split <;> split <;> split <;> omega
theorem parse_near (b : List UInt8) (h : rightF (parseH nearF b) = true) : parseH intF b = parseH nearF b := by
  have h1 := num8_bd b 1
  have h2 := num8_bd b 9
  have h3 := num8_bd b 17
  unfold rightF parseH nearF at h
  simp only [Bool.and_eq_true, decide_eq_true_eq] at h
  unfold parseH nearF intF
  generalize num8 b 1 = x at *
  generalize num8 b 9 = y at *
  generalize num8 b 17 = z at *
  have hx : ¬ (1152921504606846976 < x) := by intro hc; rw [if_pos hc] at h; omega
  have hy : ¬ (1152921504606846976 < y) := by intro hc; rw [if_pos hc] at h; omega
  have hz : ¬ (1152921504606846976 < z) := by intro hc; rw [if_pos hc] at h; omega
  rw [if_neg hx, if_neg hy, if_neg hz, if_neg (by omega), if_neg (by omega), if_neg (by omega)]
theorem near_ok (n : Int) (h0 : 0 ≤ n) (h1 : n < 18446744073709551616) : isI64 (nearF n) := by unfold isI64 nearF; split <;> omega
theorem int_ok (n : Int) (h0 : 0 ≤ n) (h1 : n < 18446744073709551616) : isI64 (intF n) := by unfold isI64 intF; split <;> omega
theorem parseH_ok (b : List UInt8) (h : b.length = 105) : (parseH nearF b).ok :=
  ⟨near_ok _ (num8_bd _ _).1 (num8_bd _ _).2, near_ok _ (num8_bd _ _).1 (num8_bd _ _).2, near_ok _ (num8_bd _ _).1 (num8_bd _ _).2, by simp [parseH, h], by simp [parseH, h], num8_bd _ _, num8_bd _ _⟩
theorem parseH_ok' (b : List UInt8) (h : b.length = 105) : (parseH intF b).ok :=
  ⟨int_ok _ (num8_bd _ _).1 (num8_bd _ _).2, int_ok _ (num8_bd _ _).1 (num8_bd _ _).2, int_ok _ (num8_bd _ _).1 (num8_bd _ _).2, by simp [parseH, h], by simp [parseH, h], num8_bd _ _, num8_bd _ _⟩
theorem headErr_len (b : List UInt8) (h : headErr b = 0) : b.length = 105 := by
  unfold headErr at h
  split at h
  · omega
  · split at h
    · omega
    · split at h
      · omega
      · omega
theorem readH_ok (b : List UInt8) : (readH b).1.ok := by
  unfold readH
  split
  · rename_i h
    split
    · exact parseH_ok b (headErr_len b h)
    · exact zeroH_ok
  · exact zeroH_ok
theorem byt_nat (x : Int) (h0 : 0 ≤ x) (h1 : x < 256) : ((byt x).toNat : Int) = x := by
  unfold byt
  rw [UInt8.toNat_ofNat_of_lt' (by show x.toNat < 256; omega)]
  omega
theorem leNum_numB (n : Int) (h0 : 0 ≤ n) (h1 : n < 18446744073709551616) : leNum (numB n) = n := by
  simp only [numB, leNum]
  rw [byt_nat _ (by omega) (by omega), byt_nat _ (by omega) (by omega), byt_nat _ (by omega) (by omega), byt_nat _ (by omega) (by omega), byt_nat _ (by omega) (by omega), byt_nat _ (by omega) (by omega), byt_nat _ (by omega) (by omega), byt_nat _ (by omega) (by omega)]
  omega
theorem drop_take_mid {α : Type} (a b c : List α) (n m : Nat) (hn : n = a.length) (hm : m = b.length) : ((a ++ (b ++ c)).drop n).take m = b := by
  subst hn hm
  simp
/-- What was put comes back. -/
theorem read_put (h : Hd) (k : h.ok) (hr : rightF h = true) : readH (putH h) = (h, 0) := by
  have hlen := putH_length h k
  have he : headErr (putH h) = 0 := by
    unfold headErr
    rw [hlen]
    simp [putH, msgF]
  obtain ⟨b1, b2⟩ := k.ep
  obtain ⟨b3, b4⟩ := k.tk
  obtain ⟨b5, b6⟩ := k.ct
  have hr' := hr
  unfold rightF at hr'
  simp only [Bool.and_eq_true, decide_eq_true_eq] at hr'
  have n1 : num8 (putH h) 1 = h.ep := by
    unfold num8
    rw [show putH h = [byt 72] ++ (numB (u64 h.ep) ++ (numB (u64 h.tk) ++ (numB (u64 h.ct) ++ (h.root ++ h.log)) ++ putF h.r h.s)) by simp [putH, msgF], drop_take_mid _ _ _ 1 8 rfl (numB_length _).symm, leNum_numB _ (u64_bd _).1 (u64_bd _).2]
    unfold u64; omega
  have n2 : num8 (putH h) 9 = h.tk := by
    unfold num8
    rw [show putH h = (byt 72 :: numB (u64 h.ep)) ++ (numB (u64 h.tk) ++ ((numB (u64 h.ct) ++ (h.root ++ h.log)) ++ putF h.r h.s)) by simp [putH, msgF], drop_take_mid _ _ _ 9 8 (by simp [numB_length]) (numB_length _).symm, leNum_numB _ (u64_bd _).1 (u64_bd _).2]
    unfold u64; omega
  have n3 : num8 (putH h) 17 = h.ct := by
    unfold num8
    rw [show putH h = (byt 72 :: numB (u64 h.ep) ++ numB (u64 h.tk)) ++ (numB (u64 h.ct) ++ ((h.root ++ h.log) ++ putF h.r h.s)) by simp [putH, msgF], drop_take_mid _ _ _ 17 8 (by simp [numB_length]) (numB_length _).symm, leNum_numB _ (u64_bd _).1 (u64_bd _).2]
    unfold u64; omega
  have n4 : ((putH h).drop 25).take 32 = h.root := by
    rw [show putH h = (byt 72 :: numB (u64 h.ep) ++ numB (u64 h.tk) ++ numB (u64 h.ct)) ++ (h.root ++ (h.log ++ putF h.r h.s)) by simp [putH, msgF], drop_take_mid _ _ _ 25 32 (by simp [numB_length]) k.root.symm]
  have n5 : ((putH h).drop 57).take 32 = h.log := by
    rw [show putH h = (byt 72 :: numB (u64 h.ep) ++ numB (u64 h.tk) ++ numB (u64 h.ct) ++ h.root) ++ (h.log ++ putF h.r h.s) by simp [putH, msgF], drop_take_mid _ _ _ 57 32 (by simp [numB_length, k.root]) k.log.symm]
  have n6 : num8 (putH h) 89 = h.r := by
    unfold num8
    rw [show putH h = msgF h ++ (numB h.r ++ numB h.s) by simp [putH, putF], drop_take_mid _ _ _ 89 8 (msgF_length h k).symm (numB_length _).symm, leNum_numB _ k.r.1 k.r.2]
  have n7 : num8 (putH h) 97 = h.s := by
    unfold num8
    rw [show putH h = (msgF h ++ numB h.r) ++ (numB h.s ++ []) by simp [putH, putF], drop_take_mid _ _ _ 97 8 (by simp [msgF_length h k, numB_length]) (numB_length _).symm, leNum_numB _ k.s.1 k.s.2]
  have hp : parseH nearF (putH h) = h := by
    unfold parseH
    rw [n1, n2, n3, n4, n5, n6, n7]
    unfold nearF
    rw [if_neg (by omega), if_neg (by omega), if_neg (by omega)]
  unfold readH
  rw [if_pos he, hp, if_pos hr]
end Go.Proofs.Yteapoemockimfaa
