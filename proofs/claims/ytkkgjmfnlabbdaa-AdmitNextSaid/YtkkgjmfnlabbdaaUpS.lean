/-
  Names, secrets, keys and requests of few numbers.
-/
import Derived.Test.YtkkgjmfnlabbdaaUpP
namespace Go.Proofs.Ytkkgjmfnlabbdaa
set_option linter.unusedVariables false
set_option linter.unusedSimpArgs false
open Go.RowKit

/-- The name of a number. -/
def nameL (k : Int) : List UInt8 := if k % 6 = 0 then [97] else if k % 6 = 1 then [98] else if k % 6 = 2 then [97, 110, 110] else if k % 6 = 3 then [98, 111, 98] else if k % 6 = 4 then [195, 169] else [48, 49, 50, 51, 52, 53, 54, 55, 56, 57, 48, 49, 50, 51, 52, 53, 54, 55, 56, 57, 48, 49, 50, 51, 52, 53, 54, 55, 56, 57, 48, 122]
theorem nameL_len (k : Int) : 1 ≤ (nameL k).length ∧ (nameL k).length ≤ 32 := by
  unfold nameL
  refine ⟨?_, ?_⟩ <;> (repeat' split) <;> simp

set_option maxRecDepth 100000 in
set_option maxHeartbeats 3200000 in
theorem name_any (k : Int) (w : World) (k0 : 0 ≤ k) (k1 : k < 256) :
    Calls Try.prog 10 #[.int .u8 k] w fun e w' => e = .returned (.string ⟨(nameL k).toArray⟩) ∧ Below w.heap.size w w' := by
  have h : k % 6 = 0 ∨ k % 6 = 1 ∨ k % 6 = 2 ∨ k % 6 = 3 ∨ k % 6 = 4 ∨ k % 6 = 5 := by omega
  rcases h with h | h | h | h | h | h
  all_goals
    (have hn := congrArg List.toArray (show nameL k = nameL k from rfl)
     conv at hn => rhs; unfold nameL; rw [h]
     simp only [reduceIte, Int.reduceEq] at hn
     rw [hn]
     clear hn
     go_enter Try.func10, Try.ntmps10
     go_wp2_with fail
     go_ret
     exact ⟨rfl, bl_alloc (Below.refl _ _) _⟩)

/-- The secret of a name's version. -/
def secStep (n : Int) (c : UInt8) : Int := u64 (u64 (n * 31) + c.toNat)
def secN (nm : List UInt8) : Int := nm.foldl secStep (u64 (nm.length * 1000003))
def secF (nm : List UInt8) (v : Int) (alt : Bool) : Int :=
  if alt then u64 (u64 (u64 (secN nm % 1000000007 + u64 (u64 v * 7919)) + 11) + 500) else u64 (u64 (secN nm % 1000000007 + u64 (u64 v * 7919)) + 11)
theorem secF_bd (nm : List UInt8) (v : Int) (alt : Bool) : isU64 (secF nm v alt) := by
  unfold secF; split <;> exact u64_bd _
theorem sec_take (nm : List UInt8) (i : Nat) (h : i < nm.length) (z : Int) : (nm.take (i + 1)).foldl secStep z = secStep ((nm.take i).foldl secStep z) nm[i] := by
  rw [List.take_succ_eq_append_getElem h, List.foldl_append]; rfl
theorem secI_bd (nm : List UInt8) (i : Nat) : isU64 ((nm.take i).foldl secStep (u64 (nm.length * 1000003))) := by
  induction i with
  | zero => exact u64_bd _
  | succ i ih =>
    by_cases h : i < nm.length
    · rw [sec_take nm i h]; exact u64_bd _
    · rw [List.take_of_length_le (by omega)] at ih ⊢; exact ih

set_option maxRecDepth 100000 in
set_option maxHeartbeats 3200000 in
theorem secret_any (nm : List UInt8) (v : Int) (alt : Bool) (w : World) (hn : nm.length ≤ 1048576) :
    Calls Try.prog 19 #[.string ⟨nm.toArray⟩, .int .i64 v, .bool alt] w fun e w' => e = .returned (.int .u64 (secF nm v alt)) ∧ w = w' := by
  have hsz : (ByteArray.mk nm.toArray).size = nm.length := rfl
  have HN := Lib.hid hn
  have hw0 : IntKind.u64.wrap (nm.length : Int) = nm.length := by rw [IntKind.wrap_u64]; omega
  clear hn
  go_enter Try.func19, Try.ntmps19
  go_wp2_with fail
  go_loop [7, 8] (fun s7 s8 => ∃ i : Nat, s8 = .int .i64 i ∧ i ≤ nm.length ∧ s7 = .int .u64 ((nm.take i).foldl secStep (u64 (nm.length * 1000003)))) (fun _ s8 => nm.length - (intOf s8).toNat)
  case atStart => exact ⟨0, rfl, by omega, rfl⟩
  case round =>
    obtain ⟨i, rfl, hi, rfl⟩ := hrel
    have hlen := HN.out
    by_cases hlt : i < nm.length
    · have hst : (nm.take (i + 1)).foldl secStep (u64 (nm.length * 1000003)) = u64 (u64 ((nm.take i).foldl secStep (u64 (nm.length * 1000003)) * 31) + (nm[i].toNat : Int)) := sec_take nm i hlt (u64 (nm.length * 1000003))
      have hb := UInt8.toNat_lt nm[i]
      generalize (nm.take i).foldl secStep (u64 (nm.length * 1000003)) = z at *
      have HST := Lib.hid hst
      have HBB := Lib.hid hb
      clear hst hb
      go_wp2_with fail
      go_round
      case rel => exact ⟨i + 1, by go_num, by omega, by
        rw [HST.out]
        show Value.int .u64 (IntKind.u64.wrap (IntKind.u64.wrap (z * 31) + IntKind.u64.wrap (nm[i].toNat : Int))) = _
        have := HBB.out
        rw [IntKind.wrap_u64, IntKind.wrap_u64, IntKind.wrap_u64]
        congr 1
        unfold u64
        omega⟩
      case measure => simp [intOf]; omega
    · have : i = nm.length := by omega
      subst this
      rw [List.take_length]
      have hsN : nm.foldl secStep (u64 (nm.length * 1000003)) = secN nm := rfl
      rw [hsN]
      have h0 : 0 ≤ secN nm := by have h := secI_bd nm nm.length; rw [List.take_length] at h; exact h.1
      have htm : (secN nm).tmod 1000000007 = secN nm % 1000000007 := Int.tmod_eq_emod_of_nonneg h0
      have HTM := Lib.hid htm
      clear htm h0 hsN
      cases alt with
      | false =>
        go_wp2_with fail
        go_ret
        refine ⟨congrArg (fun x => Ending.returned (.int .u64 x)) ?_, rfl⟩
        show IntKind.u64.wrap (IntKind.u64.wrap ((secN nm).tmod 1000000007 + IntKind.u64.wrap (IntKind.u64.wrap v * 7919)) + 11) = _
        unfold secF u64
        rw [HTM.out]
        simp only [IntKind.wrap_u64, Bool.false_eq_true, if_false]
      | true =>
        go_wp2_with fail
        go_ret
        refine ⟨congrArg (fun x => Ending.returned (.int .u64 x)) ?_, rfl⟩
        show IntKind.u64.wrap (IntKind.u64.wrap (IntKind.u64.wrap ((secN nm).tmod 1000000007 + IntKind.u64.wrap (IntKind.u64.wrap v * 7919)) + 11) + 500) = _
        unfold secF u64
        rw [HTM.out]
        simp only [IntKind.wrap_u64, if_true]
end Go.Proofs.Ytkkgjmfnlabbdaa
