/-
  Requests: the values, their bytes, what is read; the plain laws.
-/
import Derived.Test.YtkkgjmfnlabbdaaB3
namespace Go.Proofs.Ytkkgjmfnlabbdaa
set_option linter.unusedVariables false
set_option linter.unusedSimpArgs false
open Go.RowKit

/-- A string's value. -/
def strV (l : List UInt8) : Value := .string ⟨l.toArray⟩
/-- A request. -/
structure Up where
  nm : List UInt8
  ver : Int
  key : Int
  cls : Int
  r : Int
  s : Int
def Up.cells (u : Up) : List Value := [strV u.nm, .int .i64 u.ver, .int .u64 u.key, .int .i64 u.cls, .int .u64 u.r, .int .u64 u.s]
def upV (u : Up) : Value := .agg u.cells.toArray
def entCells (n : List UInt8) (v k : Int) : List Value := [strV n, .int .i64 v, .int .u64 k]
def entV (n : List UInt8) (v k : Int) : Value := .agg (entCells n v k).toArray
structure Up.ok (u : Up) : Prop where
  nm : u.nm.length ≤ 1048576
  ver : isI64 u.ver
  key : isU64 u.key
  cls : isI64 u.cls
  r : isU64 u.r
  s : isU64 u.s
def zeroU : Up := ⟨[], 0, 0, 0, 0, 0⟩
theorem zeroU_ok : zeroU.ok := by
  refine ⟨?_, ?_, ?_, ?_, ?_, ?_⟩ <;> simp only [isI64, isU64, zeroU] <;> simp
def rightE (n : List UInt8) (v k : Int) : Bool := decide (1 ≤ n.length) && (decide (n.length ≤ 32) && (decide (1 ≤ v) && (decide (v ≤ 1073741824) && (decide (1 ≤ k) && decide (k < 2305843009213693951)))))
def rightU (u : Up) : Bool := rightE u.nm u.ver u.key && (decide (u.cls = 0) || decide (u.cls = 1))
def fieldsE (n : List UInt8) (v k : Int) : List UInt8 := lumpB n ++ (numB (u64 v) ++ numB k)
def msgE (n : List UInt8) (v k : Int) : List UInt8 := byt 85 :: fieldsE n v k
theorem fieldsE_length (n : List UInt8) (v k : Int) : (fieldsE n v k).length = n.length + 24 := by simp [fieldsE, lumpB_length, numB_length]; omega
theorem msgE_length (n : List UInt8) (v k : Int) : (msgE n v k).length = n.length + 25 := by simp [msgE, fieldsE_length]
def bytesU (u : Up) : List UInt8 := fieldsE u.nm u.ver u.key ++ (numB (u64 u.cls) ++ putF u.r u.s)
theorem bytesU_length (u : Up) : (bytesU u).length = u.nm.length + 48 := by simp [bytesU, fieldsE_length, numB_length, putF_len]
def signU (x : Int) (u : Up) : Up := { u with r := sigR (x % 2305843009213693950) (msgE u.nm u.ver u.key), s := sigS (x % 2305843009213693950) (msgE u.nm u.ver u.key) }
theorem signU_ok (x : Int) (u : Up) (k : u.ok) : (signU x u).ok := by
  obtain ⟨r0, r1⟩ := sigR_bd (x % 2305843009213693950) (msgE u.nm u.ver u.key)
  obtain ⟨s0, s1⟩ := sigS_bd (x % 2305843009213693950) (msgE u.nm u.ver u.key)
  exact ⟨k.nm, k.ver, k.key, k.cls, ⟨r0, by show sigR _ _ < _; omega⟩, ⟨s0, by show sigS _ _ < _; omega⟩⟩
def checkU (y : Int) (u : Up) : Bool := checkF y (msgE u.nm u.ver u.key) u.r u.s
theorem check_signU (x : Int) (u : Up) : checkU (pubF x) (signU x u) = true := by
  unfold checkU signU
  rw [← pub_mod x]
  exact check_own _ _ (Int.emod_nonneg _ (by decide)) (Int.emod_lt_of_pos _ (by decide))
def putUErr (u : Up) : Int := if rightU u then 0 else 23
def putUOut (u : Up) : List UInt8 := if rightU u then bytesU u else []

/-- What Lump does to a reader. -/
def lmpOut (m : Int) (l : List UInt8) (x : Int) : List UInt8 :=
  if rawErr l x 8 = 0 then (if m < leNum (rawOut l x 8) then [] else rawOut (rawRest l x 8) 0 (leNum (rawOut l x 8)).toNat) else []
def lmpRest (m : Int) (l : List UInt8) (x : Int) : List UInt8 :=
  if rawErr l x 8 = 0 then (if m < leNum (rawOut l x 8) then [] else rawRest (rawRest l x 8) 0 (leNum (rawOut l x 8)).toNat) else rawRest l x 8
def lmpErr (m : Int) (l : List UInt8) (x : Int) : Int :=
  if rawErr l x 8 = 0 then (if m < leNum (rawOut l x 8) then 22 else rawErr (rawRest l x 8) 0 (leNum (rawOut l x 8)).toNat) else rawErr l x 8
theorem rawRest_le (l : List UInt8) (x : Int) (n : Nat) : (rawRest l x n).length ≤ l.length := by
  unfold rawRest; split
  · split
    · rw [List.length_drop]; omega
    · simp
  · exact Nat.le_refl _
theorem rawOut_len (l : List UInt8) (x : Int) (n : Nat) : (rawOut l x n).length ≤ l.length := by
  unfold rawOut; split
  · split
    · rw [List.length_take]; omega
    · simp
  · simp
theorem lmpRest_le (m : Int) (l : List UInt8) (x : Int) : (lmpRest m l x).length ≤ l.length := by
  unfold lmpRest
  split
  · split
    · simp
    · exact Nat.le_trans (rawRest_le _ _ _) (rawRest_le _ _ _)
  · exact rawRest_le _ _ _
theorem lmpOut_le (m : Int) (l : List UInt8) (x : Int) : (lmpOut m l x).length ≤ l.length := by
  unfold lmpOut
  split
  · split
    · simp
    · exact Nat.le_trans (rawOut_len _ _ _) (rawRest_le _ _ _)
  · simp
def numR (l : List UInt8) (x : Int) : Int := leNum (rawOut l x 8)
theorem numR_bd (l : List UInt8) (x : Int) : isU64 (numR l x) := leNum_u64 _ (rawOut_le l x 8)

/-- A reader's state behind each of a request's fields. -/
structure RS where
  l : List UInt8
  x : Int
def RS.next (z : RS) : RS := ⟨rawRest z.l z.x 8, rawErr z.l z.x 8⟩
def RS.lump (z : RS) : RS := ⟨lmpRest 32 z.l z.x, lmpErr 32 z.l z.x⟩
def RS.num (z : RS) : Int := numR z.l z.x
theorem RS.next_le (z : RS) : z.next.l.length ≤ z.l.length := rawRest_le _ _ _
theorem RS.lump_le (z : RS) : z.lump.l.length ≤ z.l.length := lmpRest_le _ _ _
def ust (b : List UInt8) : Nat → RS
  | 0 => (RS.lump ⟨b, 0⟩)
  | n + 1 => (ust b n).next
theorem ust_le (b : List UInt8) (n : Nat) : (ust b n).l.length ≤ b.length := by
  induction n with
  | zero => exact RS.lump_le _
  | succ n ih => exact Nat.le_trans (RS.next_le _) ih
def nearV (n : Int) : Int := if 1073741824 < n then -1 else n
theorem nearV_ok (n : Int) (h0 : 0 ≤ n) (h1 : n < 18446744073709551616) : isI64 (nearV n) := by unfold isI64 nearV; split <;> omega
def parseU (f : Int → Int) (b : List UInt8) : Up := ⟨lmpOut 32 b 0, f (ust b 0).num, (ust b 1).num, f (ust b 2).num, (ust b 3).num, (ust b 4).num⟩
def readU (b : List UInt8) : Up × Int :=
  if 512 < b.length then (zeroU, 22) else if (ust b 5).x = 0 then (if 0 < (ust b 5).l.length then (zeroU, 20) else if rightU (parseU nearV b) then (parseU nearV b, 0) else (zeroU, 23)) else (zeroU, (ust b 5).x)
theorem parseU_ok (b : List UInt8) (h : b.length ≤ 1048576) : (parseU nearV b).ok :=
  ⟨Nat.le_trans (lmpOut_le _ _ _) h, nearV_ok _ (numR_bd _ _).1 (numR_bd _ _).2, numR_bd _ _, nearV_ok _ (numR_bd _ _).1 (numR_bd _ _).2, numR_bd _ _, numR_bd _ _⟩
theorem parseU_ok' (b : List UInt8) (h : b.length ≤ 1048576) : (parseU intF b).ok :=
  ⟨Nat.le_trans (lmpOut_le _ _ _) h, int_ok _ (numR_bd _ _).1 (numR_bd _ _).2, numR_bd _ _, int_ok _ (numR_bd _ _).1 (numR_bd _ _).2, numR_bd _ _, numR_bd _ _⟩
theorem rightU_near (b : List UInt8) : rightU (parseU intF b) = rightU (parseU nearV b) := by
  have h1 := numR_bd (ust b 0).l (ust b 0).x
  have h2 := numR_bd (ust b 2).l (ust b 2).x
  unfold rightU rightE parseU nearV intF
  simp only
  change isU64 (ust b 0).num at h1
  change isU64 (ust b 2).num at h2
  unfold isU64 at h1 h2
  generalize (ust b 0).num = x at *
  generalize (ust b 2).num = y at *
  rw [Bool.eq_iff_iff]
  simp only [Bool.and_eq_true, Bool.or_eq_true, decide_eq_true_eq]
  split <;> split <;> split <;> split <;> omega
theorem parseU_near (b : List UInt8) (h : rightU (parseU nearV b) = true) : parseU intF b = parseU nearV b := by
  have h1 := numR_bd (ust b 0).l (ust b 0).x
  have h2 := numR_bd (ust b 2).l (ust b 2).x
  unfold rightU rightE parseU nearV at h
  simp only [Bool.and_eq_true, Bool.or_eq_true, decide_eq_true_eq] at h
  unfold parseU nearV intF
  change isU64 (ust b 0).num at h1
  change isU64 (ust b 2).num at h2
  unfold isU64 at h1 h2
  generalize (ust b 0).num = x at *
  generalize (ust b 2).num = y at *
  have hx : ¬ (1073741824 < x) := by intro hc; rw [if_pos hc] at h; omega
  have hy : ¬ (1073741824 < y) := by intro hc; rw [if_pos hc] at h; omega
  rw [if_neg hx, if_neg hy, if_neg (by omega), if_neg (by omega)]
theorem readU_int (b : List UInt8) : readU b = if 512 < b.length then (zeroU, 22) else if (ust b 5).x = 0 then (if 0 < (ust b 5).l.length then (zeroU, 20) else if rightU (parseU intF b) then (parseU intF b, 0) else (zeroU, 23)) else (zeroU, (ust b 5).x) := by
  unfold readU
  rw [rightU_near]
  cases h : rightU (parseU nearV b) with
  | false => simp only [Bool.false_eq_true, if_false]
  | true => rw [parseU_near b h]
theorem readU_ok (b : List UInt8) : (readU b).1.ok := by
  unfold readU
  split
  · exact zeroU_ok
  · split
    · split
      · exact zeroU_ok
      · split
        · exact parseU_ok b (by omega)
        · exact zeroU_ok
    · exact zeroU_ok
theorem raw_numB (n : Int) (t : List UInt8) : rawOut (numB n ++ t) 0 8 = numB n ∧ rawRest (numB n ++ t) 0 8 = t ∧ rawErr (numB n ++ t) 0 8 = 0 := by
  have h : 8 ≤ (numB n ++ t).length := by rw [List.length_append, numB_length]; omega
  rw [rawOut_ok _ _ h, rawRest_ok _ _ h, rawErr_ok _ _ h]
  exact ⟨by rw [List.take_left' (numB_length n)], by rw [List.drop_left' (numB_length n)], rfl⟩
theorem RS.num_numB (n : Int) (t : List UInt8) (h : isU64 n) : (RS.mk (numB n ++ t) 0).num = n ∧ (RS.mk (numB n ++ t) 0).next = ⟨t, 0⟩ := by
  obtain ⟨h1, h2, h3⟩ := raw_numB n t
  refine ⟨?_, ?_⟩
  · show leNum (rawOut _ 0 8) = n
    rw [h1, leNum_numB n h.1 h.2]
  · show RS.mk (rawRest _ 0 8) (rawErr _ 0 8) = _
    rw [h2, h3]
theorem lmp_lumpB (n t : List UInt8) (h : n.length ≤ 32) : lmpOut 32 (lumpB n ++ t) 0 = n ∧ RS.lump ⟨lumpB n ++ t, 0⟩ = ⟨t, 0⟩ := by
  obtain ⟨h1, h2, h3⟩ := raw_numB (n.length : Int) (n ++ t)
  have e : lumpB n ++ t = numB n.length ++ (n ++ t) := by unfold lumpB; rw [List.append_assoc]
  have hn : leNum (numB (n.length : Int)) = n.length := leNum_numB _ (by omega) (by omega)
  have hl : n.length ≤ (n ++ t).length := by rw [List.length_append]; omega
  refine ⟨?_, ?_⟩
  · unfold lmpOut
    rw [e, h1, h2, h3, hn, if_pos rfl, if_neg (by omega), Int.toNat_natCast, rawOut_ok _ _ hl, List.take_left]
  · show RS.mk (lmpRest 32 _ 0) (lmpErr 32 _ 0) = _
    unfold lmpRest lmpErr
    rw [e, h1, h2, h3, hn, if_pos rfl, if_neg (by omega), Int.toNat_natCast, rawRest_ok _ _ hl, List.drop_left, if_pos rfl, if_neg (by omega), rawErr_ok _ _ hl]
/-- What was put comes back, whatever stands behind it. -/
theorem parse_bytesU (u : Up) (k : u.ok) (t : List UInt8) (h : u.nm.length ≤ 32) : lmpOut 32 (bytesU u ++ t) 0 = u.nm ∧ (ust (bytesU u ++ t) 0).num = u64 u.ver ∧ (ust (bytesU u ++ t) 1).num = u.key ∧ (ust (bytesU u ++ t) 2).num = u64 u.cls ∧ (ust (bytesU u ++ t) 3).num = u.r ∧ (ust (bytesU u ++ t) 4).num = u.s ∧ ust (bytesU u ++ t) 5 = ⟨t, 0⟩ := by
  have e : bytesU u ++ t = lumpB u.nm ++ (numB (u64 u.ver) ++ (numB u.key ++ (numB (u64 u.cls) ++ (numB u.r ++ (numB u.s ++ t))))) := by simp [bytesU, fieldsE, putF]
  obtain ⟨a0, a1⟩ := lmp_lumpB u.nm (numB (u64 u.ver) ++ (numB u.key ++ (numB (u64 u.cls) ++ (numB u.r ++ (numB u.s ++ t))))) h
  obtain ⟨b0, b1⟩ := RS.num_numB (u64 u.ver) (numB u.key ++ (numB (u64 u.cls) ++ (numB u.r ++ (numB u.s ++ t)))) (u64_bd _)
  obtain ⟨c0, c1⟩ := RS.num_numB u.key (numB (u64 u.cls) ++ (numB u.r ++ (numB u.s ++ t))) k.key
  obtain ⟨d0, d1⟩ := RS.num_numB (u64 u.cls) (numB u.r ++ (numB u.s ++ t)) (u64_bd _)
  obtain ⟨e0, e1⟩ := RS.num_numB u.r (numB u.s ++ t) k.r
  obtain ⟨f0, f1⟩ := RS.num_numB u.s t k.s
  rw [e]
  have s0 := a1
  refine ⟨a0, ?_, ?_, ?_, ?_, ?_, ?_⟩
  · show (RS.lump ⟨_, 0⟩).num = _; rw [a1]; exact b0
  · show (RS.lump ⟨_, 0⟩).next.num = _; rw [a1, b1]; exact c0
  · show (RS.lump ⟨_, 0⟩).next.next.num = _; rw [a1, b1, c1]; exact d0
  · show (RS.lump ⟨_, 0⟩).next.next.next.num = _; rw [a1, b1, c1, d1]; exact e0
  · show (RS.lump ⟨_, 0⟩).next.next.next.next.num = _; rw [a1, b1, c1, d1, e1]; exact f0
  · show (RS.lump ⟨_, 0⟩).next.next.next.next.next = _; rw [a1, b1, c1, d1, e1, f1]
theorem right_parts (u : Up) (hr : rightU u = true) : 1 ≤ u.nm.length ∧ u.nm.length ≤ 32 ∧ 1 ≤ u.ver ∧ u.ver ≤ 1073741824 ∧ 1 ≤ u.key ∧ u.key < 2305843009213693951 ∧ (u.cls = 0 ∨ u.cls = 1) := by
  unfold rightU rightE at hr
  simp only [Bool.and_eq_true, Bool.or_eq_true, decide_eq_true_eq] at hr
  obtain ⟨⟨h1, h2, h3, h4, h5, h6⟩, h7⟩ := hr
  exact ⟨h1, h2, h3, h4, h5, h6, h7⟩
theorem parse_put (u : Up) (k : u.ok) (hr : rightU u = true) (t : List UInt8) : parseU nearV (bytesU u ++ t) = u := by
  obtain ⟨h1, h2, h3, h4, h5, h6, h7⟩ := right_parts u hr
  obtain ⟨a, b, c, d, e, f, g⟩ := parse_bytesU u k t h2
  unfold parseU
  rw [a, b, c, d, e, f]
  have q1 : nearV (u64 u.ver) = u.ver := by unfold nearV u64; rw [if_neg (by omega)]; omega
  have q2 : nearV (u64 u.cls) = u.cls := by unfold nearV u64; rw [if_neg (by omega)]; omega
  rw [q1, q2]
theorem read_putU (u : Up) (k : u.ok) (hr : rightU u = true) : readU (bytesU u) = (u, 0) := by
  obtain ⟨h1, h2, h3, h4, h5, h6, h7⟩ := right_parts u hr
  obtain ⟨_, _, _, _, _, _, g⟩ := parse_bytesU u k [] h2
  have hp := parse_put u k hr []
  rw [List.append_nil] at g hp
  unfold readU
  rw [if_neg (by rw [bytesU_length]; omega), g, hp, hr]
  simp
theorem read_moreU (u : Up) (k : u.ok) (hr : rightU u = true) (x : UInt8) : readU (bytesU u ++ [x]) = (zeroU, 20) := by
  obtain ⟨h1, h2, h3, h4, h5, h6, h7⟩ := right_parts u hr
  obtain ⟨_, _, _, _, _, _, g⟩ := parse_bytesU u k [x] h2
  unfold readU
  rw [if_neg (by rw [List.length_append, bytesU_length]; simp; omega), g]
  simp
end Go.Proofs.Ytkkgjmfnlabbdaa
