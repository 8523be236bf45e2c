/-
  Numbers as bytes: what Num and the reference's Num come to.
-/
import Derived.Test.YteapoemockimfaaByt
namespace Go.Proofs.Yteapoemockimfaa
set_option linter.unusedVariables false
set_option linter.unusedSimpArgs false
open Go.RowKit

def byt (x : Int) : UInt8 := UInt8.ofNat x.toNat
theorem bv_byt (x : Int) (h0 : 0 ≤ x) (h1 : x < 256) : bv (byt x) = .int .u8 x := by
  unfold bv byt
  rw [UInt8.toNat_ofNat_of_lt' (by show x.toNat < 256; omega)]
  congr 1; omega

/-- The eight bytes of a number, the lowest first. -/
def numB (n : Int) : List UInt8 := [byt (n % 256), byt (n / 256 % 256), byt (n / 65536 % 256), byt (n / 16777216 % 256), byt (n / 4294967296 % 256), byt (n / 1099511627776 % 256), byt (n / 281474976710656 % 256), byt (n / 72057594037927936 % 256)]
theorem numB_length (n : Int) : (numB n).length = 8 := rfl

def numCells (n : Int) : Nat → Array Value
  | 0 => #[.int .u8 0, .int .u8 0, .int .u8 0, .int .u8 0, .int .u8 0, .int .u8 0, .int .u8 0, .int .u8 0]
  | 1 => #[.int .u8 (n % 256), .int .u8 0, .int .u8 0, .int .u8 0, .int .u8 0, .int .u8 0, .int .u8 0, .int .u8 0]
  | 2 => #[.int .u8 (n % 256), .int .u8 (n / 256 % 256), .int .u8 0, .int .u8 0, .int .u8 0, .int .u8 0, .int .u8 0, .int .u8 0]
  | 3 => #[.int .u8 (n % 256), .int .u8 (n / 256 % 256), .int .u8 (n / 65536 % 256), .int .u8 0, .int .u8 0, .int .u8 0, .int .u8 0, .int .u8 0]
  | 4 => #[.int .u8 (n % 256), .int .u8 (n / 256 % 256), .int .u8 (n / 65536 % 256), .int .u8 (n / 16777216 % 256), .int .u8 0, .int .u8 0, .int .u8 0, .int .u8 0]
  | 5 => #[.int .u8 (n % 256), .int .u8 (n / 256 % 256), .int .u8 (n / 65536 % 256), .int .u8 (n / 16777216 % 256), .int .u8 (n / 4294967296 % 256), .int .u8 0, .int .u8 0, .int .u8 0]
  | 6 => #[.int .u8 (n % 256), .int .u8 (n / 256 % 256), .int .u8 (n / 65536 % 256), .int .u8 (n / 16777216 % 256), .int .u8 (n / 4294967296 % 256), .int .u8 (n / 1099511627776 % 256), .int .u8 0, .int .u8 0]
  | 7 => #[.int .u8 (n % 256), .int .u8 (n / 256 % 256), .int .u8 (n / 65536 % 256), .int .u8 (n / 16777216 % 256), .int .u8 (n / 4294967296 % 256), .int .u8 (n / 1099511627776 % 256), .int .u8 (n / 281474976710656 % 256), .int .u8 0]
  | _ => #[.int .u8 (n % 256), .int .u8 (n / 256 % 256), .int .u8 (n / 65536 % 256), .int .u8 (n / 16777216 % 256), .int .u8 (n / 4294967296 % 256), .int .u8 (n / 1099511627776 % 256), .int .u8 (n / 281474976710656 % 256), .int .u8 (n / 72057594037927936 % 256)]

theorem numCells_all (n : Int) (h : 0 ≤ n) : numCells n 8 = (bvs (numB n)).toArray := by
  simp only [numCells, numB, bvs, List.map_cons, List.map_nil]
  repeat rw [bv_byt _ (by omega) (by omega)]

set_option maxRecDepth 100000 in
set_option maxHeartbeats 4000000 in
theorem num_any (n : Int) (w : World) (h0 : 0 ≤ n) (h1 : n < 18446744073709551616) :
    Calls Try.prog 30 #[.int .u64 n] w fun e w' => e = .returned (.slice (some ⟨w.heap.size, 0, none⟩) 8 8) ∧ w' = w.alloc (.cells (bvs (numB n)).toArray 5) := by
  rw [← numCells_all n h0]
  have hmk : ∀ w : World, (Instr.makeSlice 29 (.int .i64 8) (.int .i64 8)).run Try.prog w = .ok (.slice (some ⟨w.heap.size, 0, none⟩) 8 8) (w.alloc (.cells (numCells n 0) 5)) := fun _ => by kernel_rfl
  go_enter Try.func30, Try.ntmps30
  go_wp2_with fail
  go_loopw [8] (fun v8 wr => ∃ i : Nat, v8 = .int .i64 i ∧ i ≤ 8 ∧ wr = w.alloc (.cells (numCells n i) 5)) (fun v8 _ => 8 - (intOf v8).toNat)
  case atStart => exact ⟨0, rfl, by omega, rfl⟩
  case round =>
    obtain ⟨i, rfl, hi, rfl⟩ := hrel
    obtain rfl | rfl | rfl | rfl | rfl | rfl | rfl | rfl | rfl : i = 0 ∨ i = 1 ∨ i = 2 ∨ i = 3 ∨ i = 4 ∨ i = 5 ∨ i = 6 ∨ i = 7 ∨ i = 8 := by omega
    all_goals (simp only [numCells])
    all_goals clear hi
    · go_wp2_with fail
      go_roundw
      case rel => exact ⟨1, rfl, by omega, by simp [numCells, IntKind.wrap_u8]⟩
      case measure => simp [intOf]
    · go_wp2_with fail
      go_roundw
      case rel => exact ⟨2, rfl, by omega, by simp [numCells, IntKind.wrap_u8]⟩
      case measure => simp [intOf]
    · go_wp2_with fail
      go_roundw
      case rel => exact ⟨3, rfl, by omega, by simp [numCells, IntKind.wrap_u8]⟩
      case measure => simp [intOf]
    · go_wp2_with fail
      go_roundw
      case rel => exact ⟨4, rfl, by omega, by simp [numCells, IntKind.wrap_u8]⟩
      case measure => simp [intOf]
    · go_wp2_with fail
      go_roundw
      case rel => exact ⟨5, rfl, by omega, by simp [numCells, IntKind.wrap_u8]⟩
      case measure => simp [intOf]
    · go_wp2_with fail
      go_roundw
      case rel => exact ⟨6, rfl, by omega, by simp [numCells, IntKind.wrap_u8]⟩
      case measure => simp [intOf]
    · go_wp2_with fail
      go_roundw
      case rel => exact ⟨7, rfl, by omega, by simp [numCells, IntKind.wrap_u8]⟩
      case measure => simp [intOf]
    · go_wp2_with fail
      go_roundw
      case rel => exact ⟨8, rfl, by omega, by simp only [numCells, IntKind.wrap_u8]; rw [show n / 72057594037927936 % 256 = n / 72057594037927936 by omega]⟩
      case measure => simp [intOf]
    · go_wp2_with fail
      go_ret
      exact ⟨rfl, rfl⟩

/-- A slice of one's own that holds these bytes is handed back; what was there stays. -/
def GivesOwn (w : World) (l : List UInt8) (e : Ending) (w' : World) : Prop := ∃ v, e = .returned v ∧ Own w' w.heap.size v l ∧ Below w.heap.size w w'

theorem rd_one (w : World) (x : Int) (h0 : 0 ≤ x) (h1 : x < 256) : Rd (w.alloc (.cells #[.int .u8 x] 5)) (.slice (some ⟨w.heap.size, 0, none⟩) 1 1) [byt x] := by
  rw [← bv_byt x h0 h1]
  exact (own_lit w 0 [byt x] (by omega) (by simp [maxLen])).rd

set_option maxRecDepth 100000 in
set_option maxHeartbeats 4000000 in
theorem rnum_any (n : Int) (w : World) (h0 : 0 ≤ n) (h1 : n < 18446744073709551616) :
    Calls Try.prog 31 #[.int .u64 n] w (GivesOwn w (numB n)) := by
  go_enter Try.func31, Try.ntmps31
  go_wp2_with fail
  go_loopw [3, 4] (fun v3 v4 wr => ∃ i : Nat, v4 = .int .i64 i ∧ i ≤ 8 ∧ Own wr w.heap.size v3 ((numB n).take i) ∧ Below w.heap.size w wr) (fun _ v4 _ => 8 - (intOf v4).toNat)
  case atStart => exact ⟨0, rfl, by omega, Own.nil _ _, Below.refl _ _⟩
  case round =>
    obtain ⟨i, rfl, hi, ho, hb⟩ := hrel
    obtain rfl | rfl | rfl | rfl | rfl | rfl | rfl | rfl | rfl : i = 0 ∨ i = 1 ∨ i = 2 ∨ i = 3 ∨ i = 4 ∨ i = 5 ∨ i = 6 ∨ i = 7 ∨ i = 8 := by omega
    all_goals clear hi
    · have HO := Lib.hid ho
      have HB := Lib.hid hb
      clear ho hb
      have hw : IntKind.u8.wrap (n) = n % 256 := by rw [IntKind.wrap_u8]
      go_wp2_with (at_builtin; refine wpList_append_bytes rfl (.tmp 9) (.tmp 15) rfl w.heap.size rfl rfl (HO.out.alloc _) (rd_one _ (n % 256) (by omega) (by omega)) (by simp [numB]) (by have := HB.out.size; simp; omega) ?_; intro v' w' ho hg)
      go_roundw
      case rel => exact ⟨1, rfl, by omega, ho, below_grown (bl_alloc HB.out _) hg HO.out.row⟩
      case measure => simp [intOf]
    · have HO := Lib.hid ho
      have HB := Lib.hid hb
      clear ho hb
      have hw : IntKind.u8.wrap (n / 256) = n / 256 % 256 := by rw [IntKind.wrap_u8]
      go_wp2_with (at_builtin; refine wpList_append_bytes rfl (.tmp 9) (.tmp 15) rfl w.heap.size rfl rfl (HO.out.alloc _) (rd_one _ (n / 256 % 256) (by omega) (by omega)) (by simp [numB]) (by have := HB.out.size; simp; omega) ?_; intro v' w' ho hg)
      go_roundw
      case rel => exact ⟨2, rfl, by omega, ho, below_grown (bl_alloc HB.out _) hg HO.out.row⟩
      case measure => simp [intOf]
    · have HO := Lib.hid ho
      have HB := Lib.hid hb
      clear ho hb
      have hw : IntKind.u8.wrap (n / 65536) = n / 65536 % 256 := by rw [IntKind.wrap_u8]
      go_wp2_with (at_builtin; refine wpList_append_bytes rfl (.tmp 9) (.tmp 15) rfl w.heap.size rfl rfl (HO.out.alloc _) (rd_one _ (n / 65536 % 256) (by omega) (by omega)) (by simp [numB]) (by have := HB.out.size; simp; omega) ?_; intro v' w' ho hg)
      go_roundw
      case rel => exact ⟨3, rfl, by omega, ho, below_grown (bl_alloc HB.out _) hg HO.out.row⟩
      case measure => simp [intOf]
    · have HO := Lib.hid ho
      have HB := Lib.hid hb
      clear ho hb
      have hw : IntKind.u8.wrap (n / 16777216) = n / 16777216 % 256 := by rw [IntKind.wrap_u8]
      go_wp2_with (at_builtin; refine wpList_append_bytes rfl (.tmp 9) (.tmp 15) rfl w.heap.size rfl rfl (HO.out.alloc _) (rd_one _ (n / 16777216 % 256) (by omega) (by omega)) (by simp [numB]) (by have := HB.out.size; simp; omega) ?_; intro v' w' ho hg)
      go_roundw
      case rel => exact ⟨4, rfl, by omega, ho, below_grown (bl_alloc HB.out _) hg HO.out.row⟩
      case measure => simp [intOf]
    · have HO := Lib.hid ho
      have HB := Lib.hid hb
      clear ho hb
      have hw : IntKind.u8.wrap (n / 4294967296) = n / 4294967296 % 256 := by rw [IntKind.wrap_u8]
      go_wp2_with (at_builtin; refine wpList_append_bytes rfl (.tmp 9) (.tmp 15) rfl w.heap.size rfl rfl (HO.out.alloc _) (rd_one _ (n / 4294967296 % 256) (by omega) (by omega)) (by simp [numB]) (by have := HB.out.size; simp; omega) ?_; intro v' w' ho hg)
      go_roundw
      case rel => exact ⟨5, rfl, by omega, ho, below_grown (bl_alloc HB.out _) hg HO.out.row⟩
      case measure => simp [intOf]
    · have HO := Lib.hid ho
      have HB := Lib.hid hb
      clear ho hb
      have hw : IntKind.u8.wrap (n / 1099511627776) = n / 1099511627776 % 256 := by rw [IntKind.wrap_u8]
      go_wp2_with (at_builtin; refine wpList_append_bytes rfl (.tmp 9) (.tmp 15) rfl w.heap.size rfl rfl (HO.out.alloc _) (rd_one _ (n / 1099511627776 % 256) (by omega) (by omega)) (by simp [numB]) (by have := HB.out.size; simp; omega) ?_; intro v' w' ho hg)
      go_roundw
      case rel => exact ⟨6, rfl, by omega, ho, below_grown (bl_alloc HB.out _) hg HO.out.row⟩
      case measure => simp [intOf]
    · have HO := Lib.hid ho
      have HB := Lib.hid hb
      clear ho hb
      have hw : IntKind.u8.wrap (n / 281474976710656) = n / 281474976710656 % 256 := by rw [IntKind.wrap_u8]
      go_wp2_with (at_builtin; refine wpList_append_bytes rfl (.tmp 9) (.tmp 15) rfl w.heap.size rfl rfl (HO.out.alloc _) (rd_one _ (n / 281474976710656 % 256) (by omega) (by omega)) (by simp [numB]) (by have := HB.out.size; simp; omega) ?_; intro v' w' ho hg)
      go_roundw
      case rel => exact ⟨7, rfl, by omega, ho, below_grown (bl_alloc HB.out _) hg HO.out.row⟩
      case measure => simp [intOf]
    · have HO := Lib.hid ho
      have HB := Lib.hid hb
      clear ho hb
      have hw : IntKind.u8.wrap (n / 72057594037927936) = n / 72057594037927936 % 256 := by rw [IntKind.wrap_u8]
      go_wp2_with (at_builtin; refine wpList_append_bytes rfl (.tmp 9) (.tmp 15) rfl w.heap.size rfl rfl (HO.out.alloc _) (rd_one _ (n / 72057594037927936 % 256) (by omega) (by omega)) (by simp [numB]) (by have := HB.out.size; simp; omega) ?_; intro v' w' ho hg)
      go_roundw
      case rel => exact ⟨8, rfl, by omega, ho, below_grown (bl_alloc HB.out _) hg HO.out.row⟩
      case measure => simp [intOf]
    · go_wp2_with fail
      go_ret
      exact ⟨_, rfl, ho, hb⟩
end Go.Proofs.Yteapoemockimfaa
