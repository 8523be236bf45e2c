/-
  Concat and Join of slices of bytes; Clone of bytes.
-/
import Derived.Test.YteapoemockimfaaCat
namespace Go.Proofs.Yteapoemockimfaa
set_option linter.unusedVariables false
set_option linter.unusedSimpArgs false
open Go.RowKit

theorem take_snoc_at (ls : List (List UInt8)) (i : Nat) (h : i < ls.length) : ls.take (i + 1) = ls.take i ++ [ls[i]] := List.take_succ_eq_append_getElem h
theorem total_append (a b : List (List UInt8)) : totalLen (a ++ b) = totalLen a + totalLen b := by unfold totalLen; rw [List.map_append, List.sum_append]
theorem total_take (ls : List (List UInt8)) (i : Nat) (h : i < ls.length) : totalLen (ls.take (i + 1)) = totalLen (ls.take i) + ls[i].length := by
  rw [take_snoc_at ls i h, total_append]; rfl
theorem total_take_le (ls : List (List UInt8)) (i : Nat) : totalLen (ls.take i) ≤ totalLen ls := by
  have h := total_append (ls.take i) (ls.drop i)
  rw [List.take_append_drop] at h
  omega
theorem flat_take (ls : List (List UInt8)) (i : Nat) (h : i < ls.length) : (ls.take (i + 1)).flatten = (ls.take i).flatten ++ ls[i] := by
  rw [take_snoc_at ls i h, List.flatten_append]; simp only [List.flatten_cons, List.flatten_nil, List.append_nil]
theorem flat_len (ls : List (List UInt8)) : ls.flatten.length = totalLen ls := by simp [totalLen, List.length_flatten]

set_option maxHeartbeats 1600000 in
theorem concat_any (v : Value) (ls : List (List UInt8)) (w : World) (hv : RdL w v ls) (hl : totalLen ls ≤ 1099511627776) (hn : ls.length ≤ 1099511627776) :
    Calls Try.prog 51 #[v] w (GivesOwn w ls.flatten) := by
  rcases hv with ⟨rfl, rfl⟩ | ⟨b, o, c, rfl, hc, hm, hcell⟩
  · go_enter Try.func51, Try.ntmps51
    go_wp2_with fail
    refine wp_loop_rounds 1 ?_
    rw [rounds_succ]
    go_wp2_with fail
    refine (grow_any 0 _ (by omega)).mono ?_
    rintro e w1 ⟨u, rfl, hu, hb⟩
    go_wp2_with fail
    refine wp_loop_rounds 1 ?_
    rw [rounds_succ]
    go_wp2_with fail
    go_ret
    exact ⟨_, rfl, hu, hb⟩
  · have HC := Lib.hid hcell
    clear hcell
    go_enter Try.func51, Try.ntmps51
    go_wp2_with fail
    go_loop [3, 11] (fun v3 v11 => ∃ i : Nat, v11 = .int .i64 i ∧ i ≤ ls.length ∧ v3 = .int .i64 (totalLen (ls.take i))) (fun _ v11 => ls.length - (intOf v11).toNat)
    case atStart => exact ⟨0, rfl, by omega, rfl⟩
    case round =>
      obtain ⟨i, rfl, hi, rfl⟩ := hrel
      by_cases hlt : i < ls.length
      · obtain ⟨u, hu, hr⟩ := HC.out i hlt
        obtain ⟨a', c', rfl⟩ := hr.shape
        have ht := total_take_le ls (i + 1)
        have ht2 := total_take ls i hlt
        clear hr
        rw [ht2] at ht
        have HT := Lib.hid ht2
        clear ht2
        have hneg : decide ((totalLen (ls.take i) : Int) + (ls[i].length : Int) < 0) = false := by simp; omega
        go_wp2_with fail
        go_round
        case rel => exact ⟨i + 1, by go_num, by omega, by rw [HT.out]; go_num⟩
        case measure => simp [intOf]; omega
      · have : i = ls.length := by omega
        subst this
        have he : ls.take ls.length = ls := List.take_length
        rw [he]
        clear he
        go_wp2_with fail
        refine (grow_any (totalLen ls) _ hl).mono ?_
        rintro e w1 ⟨u, rfl, hu, hb⟩
        have HU := Lib.hid hu
        have HB := Lib.hid hb
        clear hu hb
        go_wp2_with fail
        go_loopw [6, 27] (fun v6 v27 wr => ∃ i : Nat, v27 = .int .i64 i ∧ i ≤ ls.length ∧ Own wr w.heap.size v6 (ls.take i).flatten ∧ Below w.heap.size w wr) (fun _ v27 _ => ls.length - (intOf v27).toNat)
        case atStart => exact ⟨0, rfl, by omega, HU.out, HB.out⟩
        case round =>
          obtain ⟨i, rfl, hi, ho, hbw⟩ := hrel
          have HO := Lib.hid ho
          have HB2 := Lib.hid hbw
          clear ho hbw
          by_cases hlt : i < ls.length
          · obtain ⟨u2, hu2, hr⟩ := HC.out i hlt
            have hu3 : wr.cell? ⟨b, o + i, none⟩ = some u2 := by rw [HB2.out.cell (World.block_lt_of_cell? w _ hu2)]; exact hu2
            have HR := Lib.hid (hr.below HB2.out)
            have ht := total_take_le ls (i + 1)
            rw [total_take ls i hlt] at ht
            have hfl : (ls.take i).flatten.length = totalLen (ls.take i) := flat_len _
            have hlen : (ls.take i).flatten.length + ls[i].length ≤ 1099511627776 := by omega
            have HL := Lib.hid hlen
            clear hr hu2 ht hlen hfl
            go_wp2_with (at_builtin; refine wpList_append_bytes rfl (.tmp 31) (.tmp 32) rfl w.heap.size rfl rfl HO.out HR.out HL.out HB2.out.size ?_; intro v' w' ho hg)
            go_roundw
            case rel => exact ⟨i + 1, by go_num, by omega, by rw [flat_take ls i hlt]; exact ho, below_grown HB2.out hg HO.out.row⟩
            case measure => simp [intOf]; omega
          · have : i = ls.length := by omega
            subst this
            go_wp2_with fail
            go_ret
            have ho := HO.out
            rw [List.take_length] at ho
            exact ⟨_, rfl, ho, HB2.out⟩

set_option maxHeartbeats 400000 in
theorem join_any (v : Value) (ls : List (List UInt8)) (w : World) (hv : RdL w v ls) (hl : totalLen ls ≤ 1099511627776) (hn : ls.length ≤ 1099511627776) :
    Calls Try.prog 28 #[v] w (GivesOwn w ls.flatten) := by
  obtain ⟨a, c, rfl⟩ := hv.shape
  go_enter Try.func28, Try.ntmps28
  go_wp2_with fail
  refine (concat_any _ ls _ hv hl hn).mono ?_
  rintro e w1 ⟨u, rfl, hu, hb⟩
  go_wp2_with fail
  go_ret
  exact ⟨_, rfl, hu, hb⟩
end Go.Proofs.Yteapoemockimfaa
