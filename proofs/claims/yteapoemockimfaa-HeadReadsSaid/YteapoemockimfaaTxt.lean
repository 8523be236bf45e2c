/-
  A tag and lumps as bytes: the sponge's Text, the reference's Text.
-/
import Derived.Test.YteapoemockimfaaWrw
namespace Go.Proofs.Yteapoemockimfaa
set_option linter.unusedVariables false
set_option linter.unusedSimpArgs false
open Go.RowKit

def textB (tag : Int) (ls : List (List UInt8)) : List UInt8 := byt tag :: (ls.map lumpB).flatten
def textLen (ls : List (List UInt8)) : Nat := 1 + 8 * ls.length + totalLen ls
theorem textB_len (tag : Int) (ls : List (List UInt8)) : (textB tag ls).length = textLen ls := by
  unfold textB textLen
  rw [List.length_cons]
  induction ls with
  | nil => rfl
  | cons a r ih =>
    have e : totalLen (a :: r) = a.length + totalLen r := by simp [totalLen]
    rw [List.map_cons, List.flatten_cons, List.length_append, lumpB_length, List.length_cons, e]
    omega
theorem textB_take (tag : Int) (ls : List (List UInt8)) (i : Nat) (h : i < ls.length) : textB tag (ls.take (i + 1)) = textB tag (ls.take i) ++ lumpB ls[i] := by
  unfold textB
  rw [take_snoc_at ls i h, List.map_append, List.flatten_append, List.cons_append]
  simp only [List.map_cons, List.map_nil, List.flatten_cons, List.flatten_nil, List.append_nil]
theorem textLen_take (ls : List (List UInt8)) (i : Nat) (h : i < ls.length) : textLen (ls.take i) + 8 + ls[i].length ≤ textLen ls := by
  have h1 := total_take ls i h
  have h2 := total_take_le ls (i + 1)
  unfold textLen
  rw [List.length_take]
  omega

set_option maxHeartbeats 1600000 in
theorem text_any (tag : Int) (v : Value) (ls : List (List UInt8)) (w : World) (h0 : 0 ≤ tag) (h1 : tag < 256) (hv : RdL w v ls) (hl : textLen ls ≤ 549755813888) :
    Calls Try.prog 74 #[.int .u8 tag, v] w (GivesOwn w (textB tag ls)) := by
  have hone := own_lit w w.heap.size [byt tag] (Nat.le_refl _) (by simp [maxLen])
  have e1 : bvs [byt tag] = [.int .u8 tag] := by simp [bvs, bv_byt tag h0 h1]
  rw [e1] at hone
  have HONE := Lib.hid hone
  clear hone e1
  rcases hv with ⟨rfl, rfl⟩ | ⟨b, o, c, rfl, hc, hm, hcell⟩
  · go_enter Try.func74, Try.ntmps74
    go_wp2_with fail
    refine wp_loop_rounds 1 ?_
    rw [rounds_succ]
    go_wp2_with fail
    go_ret
    exact ⟨_, rfl, HONE.out, bl_alloc (Below.refl _ _) _⟩
  · have hn : ls.length ≤ 549755813888 := by unfold textLen at hl; omega
    have HC := Lib.hid hcell
    clear hcell
    go_enter Try.func74, Try.ntmps74
    go_wp2_with fail
    go_loopw [5, 12] (fun v5 vi wr => ∃ i : Nat, vi = .int .i64 i ∧ i ≤ ls.length ∧ Own wr w.heap.size v5 (textB tag (ls.take i)) ∧ Below w.heap.size w wr) (fun _ vi _ => ls.length - (intOf vi).toNat)
    case atStart => exact ⟨0, rfl, by omega, HONE.out, bl_alloc (Below.refl _ _) _⟩
    case round =>
      obtain ⟨i, rfl, hi, ho, hb⟩ := hrel
      have HO := Lib.hid ho
      have HB := Lib.hid hb
      clear ho hb
      by_cases hlt : i < ls.length
      · obtain ⟨u, hu, hr⟩ := HC.out i hlt
        have hu3 : wr.cell? ⟨b, o + i, none⟩ = some u := by rw [HB.out.cell (World.block_lt_of_cell? w _ hu)]; exact hu
        have HR := Lib.hid (hr.below HB.out)
        have HLe := Lib.hid (textLen_take ls i hlt)
        have HTl := Lib.hid (textB_len tag (ls.take i))
        clear hr hu
        go_wp2_with fail
        refine (lump_any u ls[i] _ HR.out (by have := HLe.out; omega)).mono ?_
        rintro e w1 ⟨u1, rfl, hu1, hb1⟩
        have HU1 := Lib.hid hu1
        have HB1 := Lib.hid hb1
        clear hu1 hb1
        go_wp2_with (at_builtin; refine wpList_append_bytes rfl (.tmp 16) (.tmp 18) rfl w.heap.size rfl rfl (HO.out.below HB1.out) HU1.out.rd (by have h3 := HTl.out; have h4 := HLe.out; have h5 := lumpB_length ls[i]; omega) (Nat.le_trans HB.out.size HB1.out.size) ?_; intro v' w' ho hg)
        go_roundw
        case rel => exact ⟨i + 1, by go_num, by omega, by rw [textB_take tag ls i hlt]; exact ho, below_grown (bl_bl HB.out HB1.out) hg HO.out.row⟩
        case measure => simp [intOf]; omega
      · have : i = ls.length := by omega
        subst this
        go_wp2_with fail
        go_ret
        have ho := HO.out
        rw [List.take_length] at ho
        exact ⟨_, rfl, ho, HB.out⟩

set_option maxHeartbeats 1600000 in
theorem rtext_any (tag : Int) (v : Value) (ls : List (List UInt8)) (w : World) (h0 : 0 ≤ tag) (h1 : tag < 256) (hv : RdL w v ls) (hl : textLen ls ≤ 549755813888) :
    Calls Try.prog 66 #[.int .u8 tag, v] w (GivesOwn w (textB tag ls)) := by
  have hone := own_lit w w.heap.size [byt tag] (Nat.le_refl _) (by simp [maxLen])
  have e1 : bvs [byt tag] = [.int .u8 tag] := by simp [bvs, bv_byt tag h0 h1]
  rw [e1] at hone
  have HONE := Lib.hid hone
  clear hone e1
  rcases hv with ⟨rfl, rfl⟩ | ⟨b, o, c, rfl, hc, hm, hcell⟩
  · go_enter Try.func66, Try.ntmps66
    go_wp2_with fail
    refine wp_loop_rounds 1 ?_
    rw [rounds_succ]
    go_wp2_with fail
    go_ret
    exact ⟨_, rfl, HONE.out, bl_alloc (Below.refl _ _) _⟩
  · have hn : ls.length ≤ 549755813888 := by unfold textLen at hl; omega
    have HC := Lib.hid hcell
    clear hcell
    go_enter Try.func66, Try.ntmps66
    go_wp2_with fail
    go_loopw [5, 6] (fun v5 vi wr => ∃ i : Nat, vi = .int .i64 i ∧ i ≤ ls.length ∧ Own wr w.heap.size v5 (textB tag (ls.take i)) ∧ Below w.heap.size w wr) (fun _ vi _ => ls.length - (intOf vi).toNat)
    case atStart => exact ⟨0, rfl, by omega, HONE.out, bl_alloc (Below.refl _ _) _⟩
    case round =>
      obtain ⟨i, rfl, hi, ho, hb⟩ := hrel
      have HO := Lib.hid ho
      have HB := Lib.hid hb
      clear ho hb
      by_cases hlt : i < ls.length
      · obtain ⟨u, hu, hr⟩ := HC.out i hlt
        have hu3 : wr.cell? ⟨b, o + i, none⟩ = some u := by rw [HB.out.cell (World.block_lt_of_cell? w _ hu)]; exact hu
        have HR := Lib.hid (hr.below HB.out)
        have HLe := Lib.hid (textLen_take ls i hlt)
        have HTl := Lib.hid (textB_len tag (ls.take i))
        clear hr hu
        go_wp2_with fail
        refine (rlump_any u ls[i] _ HR.out (by have := HLe.out; omega)).mono ?_
        rintro e w1 ⟨u1, rfl, hu1, hb1⟩
        have HU1 := Lib.hid hu1
        have HB1 := Lib.hid hb1
        clear hu1 hb1
        go_wp2_with (at_builtin; refine wpList_append_bytes rfl (.tmp 15) (.tmp 20) rfl w.heap.size rfl rfl (HO.out.below HB1.out) HU1.out.rd (by have h3 := HTl.out; have h4 := HLe.out; have h5 := lumpB_length ls[i]; omega) (Nat.le_trans HB.out.size HB1.out.size) ?_; intro v' w' ho hg)
        go_roundw
        case rel => exact ⟨i + 1, by go_num, by omega, by rw [textB_take tag ls i hlt]; exact ho, below_grown (bl_bl HB.out HB1.out) hg HO.out.row⟩
        case measure => simp [intOf]; omega
      · have : i = ls.length := by omega
        subst this
        go_wp2_with fail
        go_ret
        have ho := HO.out
        rw [List.take_length] at ho
        exact ⟨_, rfl, ho, HB.out⟩
end Go.Proofs.Yteapoemockimfaa
