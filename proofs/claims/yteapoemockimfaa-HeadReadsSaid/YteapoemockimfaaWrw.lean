/-
  The walks of the sponge's word, the reader's Num, the reference's Word.
-/
import Derived.Test.YteapoemockimfaaWrd
namespace Go.Proofs.Yteapoemockimfaa
set_option linter.unusedVariables false
set_option linter.unusedSimpArgs false
open Go.RowKit

set_option maxHeartbeats 1600000 in
theorem word_any (v : Value) (l : List UInt8) (w : World) (hv : Rd w v l) (hl : l.length ≤ 8) :
    Calls Try.prog 90 #[v] w fun e w' => e = .returned (.int .u64 (leNum l)) ∧ w = w' := by
  rcases hv with ⟨rfl, rfl⟩ | ⟨b, o, c, rfl, hc, hm, hcell⟩
  · go_enter Try.func90, Try.ntmps90
    go_wp2_with fail
    refine wp_loop_rounds 1 ?_
    rw [rounds_succ]
    go_wp2_with fail
    go_ret
    exact ⟨rfl, rfl⟩
  · have HC := Lib.hid hcell
    clear hcell
    go_enter Try.func90, Try.ntmps90
    go_wp2_with fail
    go_loop [3, 8] (fun v3 v8 => ∃ i : Nat, v8 = .int .i64 i ∧ i ≤ l.length ∧ v3 = .int .u64 (leNum (l.take i))) (fun _ v8 => l.length - (intOf v8).toNat)
    case atStart => exact ⟨0, rfl, by omega, rfl⟩
    case round =>
      obtain ⟨i, rfl, hi, rfl⟩ := hrel
      by_cases hlt : i < l.length
      · have hcell := HC.out i hlt
        unfold bv at hcell
        have h1 := leNum_take l i hlt
        have h2 := leNum_bd (l.take i)
        rw [List.length_take, Nat.min_eq_left hi] at h2
        have hor := or_step' (leNum (l.take i)) (l[i].toNat : Int) i (by omega) h2.1 h2.2 (by omega) (by have := UInt8.toNat_lt l[i]; omega)
        rw [← h1] at hor
        clear h1 h2
        go_wp2_with fail
        go_round
        case rel => exact ⟨i + 1, by go_num, by omega, rfl⟩
        case measure => simp [intOf]; omega
      · have : i = l.length := by omega
        subst this
        go_wp2_with fail
        go_ret
        exact ⟨rfl, rfl⟩

/-- What a reader's Num tells. -/
def GivesNum (w : World) (g : Nat) (n : Int) (l : List UInt8) (x : Int) (e : Ending) (w' : World) : Prop :=
  e = .returned (.int .u64 n) ∧ RdrAt w' g l x ∧ w.grownBy w' (some g)

theorem rawOut_le (l : List UInt8) (x : Int) (n : Nat) : (rawOut l x n).length ≤ n := by
  unfold rawOut; split
  · split
    · rw [List.length_take]; omega
    · simp
  · simp

set_option maxHeartbeats 1600000 in
theorem rnumr_any (g : Nat) (l : List UInt8) (x : Int) (w : World) (hr : RdrAt w g l x) (hl : l.length ≤ 1099511627776) :
    Calls Try.prog 38 #[.pointer (some ⟨g, 0, none⟩)] w (GivesNum w g (leNum (rawOut l x 8)) (rawRest l x 8) (rawErr l x 8)) := by
  have hle := rawOut_le l x 8
  have hraw := raw_any g 8 l x w hr (by omega) hl
  generalize rawOut l x 8 = q at *
  generalize rawRest l x 8 = r at *
  generalize rawErr l x 8 = y at *
  have HR := Lib.hid hraw
  clear hraw hr
  go_enter Try.func38, Try.ntmps38
  go_wp2_with fail
  refine HR.out.mono ?_
  rintro e w1 ⟨v, rfl, ho, hr, hg⟩
  have HO := Lib.hid ho.rd
  have HX := Lib.hid hr
  have HG := Lib.hid hg
  clear ho hr hg
  rcases HO.out with ⟨rfl, rfl⟩ | ⟨b, o, c, rfl, hc, hm, hcell⟩
  · go_wp2_with fail
    refine wp_loop_rounds 1 ?_
    rw [rounds_succ]
    go_wp2_with fail
    go_ret
    exact ⟨rfl, HX.out, HG.out⟩
  · have HC := Lib.hid hcell
    clear hcell
    go_wp2_with fail
    go_loop [3, 9] (fun v3 v8 => ∃ i : Nat, v8 = .int .i64 i ∧ i ≤ q.length ∧ v3 = .int .u64 (leNum (q.take i))) (fun _ v8 => q.length - (intOf v8).toNat)
    case atStart => exact ⟨0, rfl, by omega, rfl⟩
    case round =>
      obtain ⟨i, rfl, hi, rfl⟩ := hrel
      by_cases hlt : i < q.length
      · have hcell := HC.out i hlt
        unfold bv at hcell
        have h1 := leNum_take q i hlt
        have h2 := leNum_bd (q.take i)
        rw [List.length_take, Nat.min_eq_left hi] at h2
        have hor := or_step' (leNum (q.take i)) (q[i].toNat : Int) i (by omega) h2.1 h2.2 (by omega) (by have := UInt8.toNat_lt q[i]; omega)
        rw [← h1] at hor
        clear h1 h2
        go_wp2_with fail
        go_round
        case rel => exact ⟨i + 1, by go_num, by omega, rfl⟩
        case measure => simp [intOf]; omega
      · have : i = q.length := by omega
        subst this
        go_wp2_with fail
        go_ret
        exact ⟨rfl, HX.out, HG.out⟩

theorem leNum_drop (l : List UInt8) (i : Nat) (h : i < l.length) : leNum (l.drop i) = (l[i].toNat : Int) + 256 * leNum (l.drop (i + 1)) := by
  rw [List.drop_eq_getElem_cons h]; rfl
theorem or_low (N c : Int) (h0 : 0 ≤ N) (h1 : N < 72057594037927936) (c0 : 0 ≤ c) (c1 : c < 256) : bits .or .u64 (N * 256) (IntKind.u64.wrap c) = c + 256 * N := by
  rw [show IntKind.u64.wrap c = c by rw [IntKind.wrap_u64]; omega]
  rw [u64_or _ _ (by omega) (by omega) (by omega) (by omega), nat_join 8 _ _ (by omega) (by omega)]
  omega

set_option maxHeartbeats 1600000 in
theorem rword_any (v : Value) (l : List UInt8) (w : World) (hv : Rd w v l) (hl : l.length = 8) :
    Calls Try.prog 64 #[v] w fun e w' => e = .returned (.int .u64 (leNum l)) ∧ w = w' := by
  rcases hv with ⟨rfl, rfl⟩ | ⟨b, o, c, rfl, hc, hm, hcell⟩
  · simp at hl
  · have HC := Lib.hid hcell
    clear hcell
    go_enter Try.func64, Try.ntmps64
    go_wp2_with fail
    go_loop [3, 4] (fun v3 v4 => ∃ i : Nat, v4 = .int .i64 ((i : Int) - 1) ∧ i ≤ 8 ∧ v3 = .int .u64 (leNum (l.drop i))) (fun _ v4 => (intOf v4 + 1).toNat)
    case atStart => exact ⟨8, rfl, by omega, by rw [List.drop_of_length_le (by omega)]; rfl⟩
    case round =>
      obtain ⟨j, rfl, hj, rfl⟩ := hrel
      by_cases hlt : 0 < j
      · obtain ⟨i, rfl⟩ : ∃ i, j = i + 1 := ⟨j - 1, by omega⟩
        have hlt2 : i < l.length := by omega
        have hcell := HC.out i hlt2
        unfold bv at hcell
        have h1 := leNum_drop l i hlt2
        have h2 := leNum_bd (l.drop (i + 1))
        have h3 : (256 : Int) ^ (l.drop (i + 1)).length ≤ 256 ^ 7 := by
          rw [← p256, ← p256]
          have : 256 ^ (l.drop (i + 1)).length ≤ 256 ^ 7 := Nat.pow_le_pow_right (by omega) (by rw [List.length_drop]; omega)
          omega
        have h4 : (256 : Int) ^ 7 = 72057594037927936 := rfl
        rw [h4] at h3
        have hor := or_low (leNum (l.drop (i + 1))) (l[i].toNat : Int) h2.1 (by omega) (by omega) (by have := UInt8.toNat_lt l[i]; omega)
        rw [← h1] at hor
        have b0 : 0 ≤ leNum (l.drop (i + 1)) := h2.1
        have b1 : leNum (l.drop (i + 1)) < 72057594037927936 := by omega
        have hidx : ((i + 1 : Nat) : Int) - 1 = i := by omega
        rw [hidx]
        clear h1 h2 h3 h4 hidx
        go_wp2_with fail
        go_round
        case rel => exact ⟨i, rfl, by omega, rfl⟩
        case measure => simp [intOf]
      · have : j = 0 := by omega
        subst this
        go_wp2_with fail
        go_ret
        exact ⟨rfl, rfl⟩
end Go.Proofs.Yteapoemockimfaa
