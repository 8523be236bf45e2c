/-
  Trees: bits gathered anew; halves of a tree; items that change places: the values.
-/
import Derived.Test.YthbcbfghfhecjaaTi
namespace Go.Proofs.Ythbcbfghfhecjaa
set_option linter.unusedVariables false
set_option linter.unusedSimpArgs false
open Go.RowKit Pl

def setH (a : H) (q : Nat) (v : UInt8) : H := fun j => if j.val = q then v else a j
theorem splice_set (a : H) {q : Nat} (hq : q < 32) (v : UInt8) : Pl.splice (hdv a) q [.v (.int .u8 v.toNat)] = hdv (setH a q v) := by
  have := flat_set (enc := bdv) (sz := 1) (fun _ => rfl) (H.l a) q v (by rw [H.l_len]; exact hq)
  rw [Nat.mul_one] at this
  unfold hdv
  rw [show ([DV.v (.int .u8 v.toNat)] : List DV) = bdv v from rfl, this]
  congr 1
  apply List.ext_getElem?
  intro i
  by_cases hi : i < 32
  · rw [List.getElem?_set, show (H.l (setH a q v))[i]? = some (setH a q v ⟨i, hi⟩) from H.l_get _ ⟨i, hi⟩, show (H.l a)[i]? = some (a ⟨i, hi⟩) from H.l_get _ ⟨i, hi⟩]
    by_cases e : q = i
    · subst e; simp [H.l_len, hq, setH]
    · rw [if_neg e]; simp only [setH]; rw [if_neg (fun q => e q.symm)]
  · rw [List.getElem?_eq_none (by simp [H.l_len]; omega), List.getElem?_eq_none (by rw [H.l_len]; omega)]
/-- The first i bits of a hash, gathered. -/
def gN (h : H) (i : Nat) : H := fun j => UInt8.ofNat ((h j).toNat / 2 ^ (8 - min 8 (i - 8 * j.val)))
theorem byteN_at (h : H) (j : Fin 32) : byteN h j.val = (h j).toNat := by unfold byteN; rw [dif_pos j.isLt]
theorem byteN_gN (h : H) (i : Nat) {q : Nat} (hq : q < 32) : byteN (gN h i) q = byteN h q / 2 ^ (8 - min 8 (i - 8 * q)) := by
  have hb := byteN_lt h q
  have : byteN (gN h i) q = (gN h i ⟨q, hq⟩).toNat := byteN_at _ ⟨q, hq⟩
  rw [this]
  unfold gN
  rw [show (h ⟨q, hq⟩).toNat = byteN h q from (byteN_at h ⟨q, hq⟩).symm, UInt8.toNat_ofNat']
  exact Nat.mod_eq_of_lt (Nat.lt_of_le_of_lt (Nat.div_le_self _ _) hb)
def nextB (h : H) (i : Nat) : UInt8 := UInt8.ofNat (byteN h (i / 8) / 2 ^ (7 - i % 8))
theorem nextB_nat (h : H) (i : Nat) : (nextB h i).toNat = byteN h (i / 8) / 2 ^ (7 - i % 8) := by
  have hb := byteN_lt h (i / 8)
  unfold nextB
  rw [UInt8.toNat_ofNat']
  exact Nat.mod_eq_of_lt (Nat.lt_of_le_of_lt (Nat.div_le_self _ _) hb)
theorem gN_step (h : H) {i : Nat} (hi : i < 256) : setH (gN h i) (i / 8) (nextB h i) = gN h (i + 1) := by
  funext j
  unfold setH
  by_cases e : j.val = i / 8
  · rw [if_pos e]
    refine UInt8.toNat_inj.1 ?_
    rw [nextB_nat, ← byteN_at (gN h (i + 1)) j, e, byteN_gN h (i + 1) (by omega), show 8 - min 8 (i + 1 - 8 * (i / 8)) = 7 - i % 8 by omega]
  · rw [if_neg e]
    unfold gN
    rcases Nat.lt_or_ge j.val (i / 8) with q | q
    · rw [show min 8 (i - 8 * j.val) = min 8 (i + 1 - 8 * j.val) by omega]
    · rw [show i - 8 * j.val = 0 by omega, show i + 1 - 8 * j.val = 0 by omega]
theorem gN_zero (h : H) : gN h 0 = zeroH := by
  funext j
  unfold gN zeroH
  rw [show 0 - 8 * j.val = 0 by omega]
  have := (h j).toNat_lt
  rw [show (h j).toNat / 2 ^ (8 - min 8 0) = 0 from Nat.div_eq_of_lt (by simpa using this)]
  rfl
theorem gN_all (h : H) : gN h 256 = h := by
  funext j
  refine UInt8.toNat_inj.1 ?_
  rw [← byteN_at (gN h 256) j, byteN_gN h 256 j.isLt, ← byteN_at h j, show 8 - min 8 (256 - 8 * j.val) = 0 by have := j.isLt; omega]
  simp
theorem shl_gN (h : H) {i : Nat} (hi : i < 256) : IntKind.u8.wrap (((byteN (gN h i) (i / 8) : Nat) : Int) * 2 ^ (min (1 : Int).toNat IntKind.u8.bits)) = ((2 * (nextB h i).toNat / 2 - (nextB h i).toNat % 2 : Nat) : Int) := by
  rw [byteN_gN h i (by omega), nextB_nat, show (2 : Int) ^ (min (1 : Int).toNat IntKind.u8.bits) = 2 by decide, show 8 - min 8 (i - 8 * (i / 8)) = (7 - i % 8) + 1 by omega, Nat.pow_succ, ← Nat.div_div_eq_div_mul, IntKind.wrap_u8]
  have hb := Nat.lt_of_le_of_lt (Nat.div_le_self (byteN h (i / 8)) (2 ^ (7 - i % 8))) (byteN_lt h (i / 8))
  generalize byteN h (i / 8) / 2 ^ (7 - i % 8) = n at hb ⊢
  omega
theorem or_gN (h : H) (i : Nat) : IntKind.u8.wrap (BitVec.ofInt IntKind.u8.bits ((2 * (nextB h i).toNat / 2 - (nextB h i).toNat % 2 : Nat) : Int) ||| BitVec.ofInt IntKind.u8.bits ((bitN h i : Nat) : Int)).toNat = (((nextB h i).toNat : Nat) : Int) := by
  have h1 : IntKind.u8.bits = 8 := rfl
  have hn := (nextB h i).toNat_lt
  have hb : bitN h i = (nextB h i).toNat % 2 := by rw [nextB_nat]; rfl
  rw [h1, hb]
  generalize (nextB h i).toNat = n at hn ⊢
  have e : 2 * n / 2 - n % 2 = 2 ^ 1 * (n / 2) := by omega
  have : (BitVec.ofInt 8 ((2 * n / 2 - n % 2 : Nat) : Int) ||| BitVec.ofInt 8 ((n % 2 : Nat) : Int)).toNat = n := by
    rw [BitVec.toNat_or, BitVec.ofInt_natCast, BitVec.ofInt_natCast, BitVec.toNat_ofNat, BitVec.toNat_ofNat, Nat.mod_eq_of_lt (show 2 * n / 2 - n % 2 < 2 ^ 8 by omega), Nat.mod_eq_of_lt (show n % 2 < 2 ^ 8 by omega), e, ← Nat.two_pow_add_eq_or_of_lt (by omega)]
    omega
  rw [this, IntKind.wrap_u8]
  simp at hn; omega
theorem bit_cast (h : H) (i : Nat) : IntKind.u8.wrap ((bitN h i : Nat) : Int) = ((bitN h i : Nat) : Int) := by have := bitN_lt h i; rw [IntKind.wrap_u8]; omega
theorem bit_neg (h : H) : bitI h (-1) = 0 := rfl
theorem bit_256 (h : H) : bitI h 256 = 0 := rfl
end Go.Proofs.Ythbcbfghfhecjaa
