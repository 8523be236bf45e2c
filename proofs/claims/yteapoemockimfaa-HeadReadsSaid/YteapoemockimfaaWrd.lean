/-
  Bytes as a number, the lowest first: the reader's Num, the sponge's word, the reference's Word.
-/
import Derived.Test.YteapoemockimfaaRaw
namespace Go.Proofs.Yteapoemockimfaa
set_option linter.unusedVariables false
set_option linter.unusedSimpArgs false
open Go.RowKit

/-- The number of bytes, the lowest first. -/
def leNum : List UInt8 → Int
  | [] => 0
  | b :: r => (b.toNat : Int) + 256 * leNum r
theorem leNum_bd (l : List UInt8) : 0 ≤ leNum l ∧ leNum l < 256 ^ l.length := by
  induction l with
  | nil => simp [leNum]
  | cons b r ih =>
    have hb := UInt8.toNat_lt b
    rw [leNum, List.length_cons, Int.pow_succ]
    omega
theorem leNum_snoc (l : List UInt8) (b : UInt8) : leNum (l ++ [b]) = leNum l + (b.toNat : Int) * 256 ^ l.length := by
  induction l with
  | nil => simp [leNum]
  | cons c r ih =>
    rw [List.cons_append, leNum, ih, leNum, List.length_cons, Int.pow_succ, Int.mul_add, ← Int.mul_assoc, ← Int.mul_assoc, Int.mul_comm 256 (b.toNat : Int), Int.mul_assoc (b.toNat : Int) 256, Int.mul_comm 256 (256 ^ r.length), Int.add_assoc, Int.mul_assoc (b.toNat : Int) (256 ^ r.length) 256]
theorem p256 (i : Nat) : ((256 ^ i : Nat) : Int) = (256 : Int) ^ i := Int.natCast_pow 256 i
theorem p2 (i : Nat) : ((2 ^ i : Nat) : Int) = (2 : Int) ^ i := Int.natCast_pow 2 i
theorem take_snoc8 (l : List UInt8) (i : Nat) (h : i < l.length) : l.take (i + 1) = l.take i ++ [l[i]] := List.take_succ_eq_append_getElem h
theorem leNum_take (l : List UInt8) (i : Nat) (h : i < l.length) : leNum (l.take (i + 1)) = leNum (l.take i) + (l[i].toNat : Int) * 256 ^ i := by
  rw [take_snoc8 l i h, leNum_snoc, List.length_take, Nat.min_eq_left (by omega)]
theorem leNum_u64 (l : List UInt8) (h : l.length ≤ 8) : 0 ≤ leNum l ∧ leNum l < 18446744073709551616 := by
  have h1 := leNum_bd l
  have h2 : (256 : Int) ^ l.length ≤ 256 ^ 8 := by
    have : 256 ^ l.length ≤ 256 ^ 8 := Nat.pow_le_pow_right (by omega) h
    rw [← p256, ← p256]; omega
  exact ⟨h1.1, Int.lt_of_lt_of_le h1.2 h2⟩

theorem pow256 (i : Nat) : (2 : Nat) ^ (8 * i) = 256 ^ i := by rw [Nat.pow_mul]

theorem or_step (N c : Int) (i : Nat) (hi : i < 8) (h0 : 0 ≤ N) (h1 : N < 256 ^ i) (c0 : 0 ≤ c) (c1 : c < 256) :
    bits .or .u64 N (IntKind.u64.wrap (c * 2 ^ (8 * (i : Int)).toNat)) = N + c * 256 ^ i := by
  have e : (8 * (i : Int)).toNat = 8 * i := by omega
  obtain ⟨n, rfl⟩ := Int.eq_ofNat_of_zero_le h0
  obtain ⟨d, rfl⟩ := Int.eq_ofNat_of_zero_le c0
  have hd : d ≤ 255 := by omega
  have hn : n < 256 ^ i := by rw [← p256] at h1; omega
  have hp : 256 ^ i * 256 ≤ 256 ^ 8 := by rw [← Nat.pow_succ]; exact Nat.pow_le_pow_right (by omega) (by omega)
  have hm : d * 256 ^ i ≤ 255 * 256 ^ i := Nat.mul_le_mul_right _ hd
  have hlt : d * 256 ^ i < 18446744073709551616 := by
    have : (256 : Nat) ^ 8 = 18446744073709551616 := rfl
    omega
  have e2 : ((d : Int) * 2 ^ (8 * (i : Int)).toNat) = ((d * 256 ^ i : Nat) : Int) := by
    rw [e, ← pow256 i, Int.natCast_mul, p2]
  have e3 : IntKind.u64.wrap ((d : Int) * 2 ^ (8 * (i : Int)).toNat) = ((d * 256 ^ i : Nat) : Int) := by
    rw [e2, IntKind.wrap_u64]; omega
  have hn2 : n < 18446744073709551616 := by
    have : (256 : Nat) ^ 8 = 18446744073709551616 := rfl
    have : 256 ^ i ≤ 256 ^ 8 := Nat.pow_le_pow_right (by omega) (by omega)
    omega
  rw [e3, u64_or_nat _ _ hn2 hlt, Nat.or_comm, nat_join (8 * i) _ _ (by rw [pow256]; exact Nat.mul_mod_left _ _) (by rw [pow256]; exact hn)]
  rw [Int.natCast_add, Int.natCast_mul, p256]; exact Int.add_comm _ _
theorem or_step' (N c : Int) (i : Nat) (hi : i < 8) (h0 : 0 ≤ N) (h1 : N < 256 ^ i) (c0 : 0 ≤ c) (c1 : c < 256) :
    bits .or .u64 N (IntKind.u64.wrap (IntKind.u64.wrap c * 2 ^ (8 * i))) = N + c * 256 ^ i := by
  have e : IntKind.u64.wrap c = c := by rw [IntKind.wrap_u64]; omega
  have h := or_step N c i hi h0 h1 c0 c1
  rw [show (8 * (i : Int)).toNat = 8 * i by omega] at h
  rw [e]; exact h
end Go.Proofs.Yteapoemockimfaa
