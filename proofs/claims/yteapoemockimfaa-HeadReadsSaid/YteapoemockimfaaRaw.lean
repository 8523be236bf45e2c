/-
  The reader's Raw and Num.
-/
import Derived.Test.YteapoemockimfaaRdr
namespace Go.Proofs.Yteapoemockimfaa
set_option linter.unusedVariables false
set_option linter.unusedSimpArgs false
open Go.RowKit

/-- A slice of one's own is handed back; the reader is turned; what was there else stays. -/
def GivesRaw (w : World) (g : Nat) (out l : List UInt8) (x : Int) (e : Ending) (w' : World) : Prop :=
  ∃ v, e = .returned v ∧ Own w' w.heap.size v out ∧ RdrAt w' g l x ∧ w.grownBy w' (some g)

theorem Rd.take {w : World} {a : Option Addr} {c : Nat} {l : List UInt8} (h : Rd w (.slice a l.length c) l) (n : Nat) (hn : n ≤ l.length) : Rd w (.slice a n c) (l.take n) := by
  rcases h with ⟨h, rfl⟩ | ⟨b, o, c', h, hc, hm, hcell⟩
  · have : n = 0 := by simpa using hn
    subst this
    simp at h; obtain ⟨rfl, rfl⟩ := h
    exact .inl ⟨rfl, by simp⟩
  · simp at h; obtain ⟨rfl, rfl⟩ := h
    refine .inr ⟨b, o, c, by rw [List.length_take, Nat.min_eq_left hn], by rw [List.length_take]; omega, hm, fun i hi => ?_⟩
    have h2 : i < l.length := by rw [List.length_take] at hi; omega
    rw [hcell i h2, List.getElem_take]

theorem Rd.drop {w : World} {b o c : Nat} {l : List UInt8} (h : Rd w (.slice (some ⟨b, o, none⟩) l.length c) l) (n : Nat) (hn : n ≤ l.length) (q : Addr) (hq : n < l.length → q = ⟨b, o + n, none⟩) (hq2 : ∃ b' o', q = ⟨b', o', none⟩) : Rd w (.slice (some q) (l.length - n) (c - n)) (l.drop n) := by
  rcases h with ⟨h, rfl⟩ | ⟨b', o', c', h, hc, hm, hcell⟩
  · simp at h
  · simp at h; obtain ⟨⟨rfl, rfl⟩, rfl⟩ := h
    obtain ⟨b2, o2, rfl⟩ := hq2
    refine .inr ⟨b2, o2, c - n, by rw [List.length_drop], by rw [List.length_drop]; omega, by omega, fun i hi => ?_⟩
    have h2 : n + i < l.length := by rw [List.length_drop] at hi; omega
    have := hq (by omega)
    simp at this; obtain ⟨rfl, rfl⟩ := this
    rw [Nat.add_assoc, hcell (n + i) h2, List.getElem_drop]

set_option maxHeartbeats 1600000 in
theorem raw_err (g n : Nat) (l : List UInt8) (x : Int) (w : World) (hr : RdrAt w g l x) (hx : x ≠ 0) :
    Calls Try.prog 62 #[.pointer (some ⟨g, 0, none⟩), .int .i64 (n : Int)] w (GivesRaw w g [] l x) := by
  have HR := Lib.hid hr
  obtain ⟨u, hg, hu, hold⟩ := hr
  obtain ⟨c0, c1, f0, f1⟩ := cell_two w g u _ _ hg
  have hx1 : (x != 0) = true := by simpa using hx
  clear hg hu hx hold
  go_enter Try.func62, Try.ntmps62
  go_wp2_with fail
  go_ret
  exact ⟨_, rfl, Own.nil _ _, HR.out, World.grownBy.refl _ _⟩

set_option maxHeartbeats 1600000 in
theorem raw_short (g n : Nat) (l : List UInt8) (w : World) (hr : RdrAt w g l 0) (hn : l.length < n) (hn1 : n ≤ 9223372036854775807) :
    Calls Try.prog 62 #[.pointer (some ⟨g, 0, none⟩), .int .i64 (n : Int)] w (GivesRaw w g [] [] 21) := by
  have HR := Lib.hid hr
  obtain ⟨u, hg, hu, hold⟩ := hr
  obtain ⟨a, c, rfl⟩ := hu.shape
  obtain ⟨c0, c1, f0, f1⟩ := cell_two w g _ _ _ hg
  have hmax : max (n : Int) 0 = n := by omega
  clear hg hu hold
  go_enter Try.func62, Try.ntmps62
  go_wp2_with fail
  refine (fail_any g l 0 21 _ HR.out).mono ?_
  rintro e w1 ⟨rfl, h1, h2⟩
  go_wp2_with fail
  go_ret
  exact ⟨_, rfl, Own.nil _ _, h1, h2⟩

/-- Bytes stay readable while a cell of a block that holds no byte is written. -/
theorem Rd.setNon {w : World} {v : Value} {l : List UInt8} (h : Rd w v l) {g o' : Nat} {cs : Array Value} {T : TypeId} {fr : Nat × Nat} (hg : w.heap[g]? = some (.cells cs T fr)) (hno : ∀ (j : Nat) (b : UInt8), cs[j]? ≠ some (bv b)) (x : Value) : Rd (w.setCell ⟨g, o', none⟩ x) v l := by
  rcases h with h | ⟨b, o, c, hv, hc, hm, hcell⟩
  · exact .inl h
  · refine .inr ⟨b, o, c, hv, hc, hm, fun i hi => ?_⟩
    have hb : g ≠ b := by
      intro e; subst e
      have h1 := hcell i hi
      rw [cell_of_row w g _ cs T fr hg] at h1
      exact hno _ _ h1
    rw [cell_far _ _ _ _ _ _ hb]
    exact hcell i hi
theorem rdr_non (a : Option Addr) (n c : Nat) (e : Int) : ∀ (j : Nat) (b : UInt8), (#[Value.slice a n c, .int .i64 e] : Array Value)[j]? ≠ some (bv b) := by
  intro j b h
  match j with
  | 0 => simp [bv] at h
  | 1 => simp [bv] at h
  | j + 2 => simp at h
theorem own_setCell {w : World} {B : Nat} {v : Value} {l : List UInt8} (h : Own w B v l) {g o : Nat} (hg : g < B) (x : Value) : Own (w.setCell ⟨g, o, none⟩ x) B v l := ownsRow_setCell_below h hg x

set_option maxHeartbeats 1600000 in
theorem raw_ok (g n : Nat) (l : List UInt8) (w : World) (hr : RdrAt w g l 0) (hn : n ≤ l.length) (hl : l.length ≤ 1099511627776) :
    Calls Try.prog 62 #[.pointer (some ⟨g, 0, none⟩), .int .i64 (n : Int)] w (GivesRaw w g (l.take n) (l.drop n) 0) := by
  obtain ⟨u, hg, hu, hold⟩ := hr
  obtain ⟨a, c, rfl⟩ := hu.shape
  obtain ⟨c0, c1, f0, f1⟩ := cell_two w g _ _ _ hg
  have hmax : max (n : Int) 0 = n := by omega
  have hlc : l.length ≤ c := by
    rcases hu with ⟨h, rfl⟩ | ⟨b, o, c', h, hc, _⟩
    · simp
    · simp at h; omega
  have hnc : n ≤ c := by omega
  have HT := Lib.hid (hu.take n hn)
  have hB : g < w.heap.size := (Array.getElem?_eq_some_iff.1 hg).1
  have HB := Lib.hid hB
  have HG := Lib.hid hg
  have HU := Lib.hid hu
  have hnon := rdr_non a l.length c 0
  have HN := Lib.hid hnon
  have HOLD := Lib.hid hold
  clear hg hu hB hnon hold
  by_cases hcn : c = n
  · subst hcn
    have hD : Rd w (.slice a (l.length - c) (c - c)) (l.drop c) := by
      rcases HU.out with ⟨h, rfl⟩ | ⟨b, o, c', h, hc, hm, _⟩
      · simp at h; obtain ⟨rfl, rfl⟩ := h; exact .inl ⟨by simp, by simp⟩
      · simp at h; obtain ⟨rfl, rfl⟩ := h
        exact HU.out.drop c hn _ (by intro h; omega) ⟨_, _, rfl⟩
    have e1 : l.length - c = 0 := by omega
    have e2 : c - c = 0 := by omega
    rw [e1, e2] at hD
    have HD := Lib.hid hD
    clear hD e1 e2
    go_enter Try.func62, Try.ntmps62
    go_wp2_with fail
    refine (clone_any _ (l.take c) _ HT.out (by rw [List.length_take]; omega)).mono ?_
    rintro e w1 ⟨v, rfl, hv, hb⟩
    have k0 : w1.cell? ⟨g, 0, none⟩ = w.cell? ⟨g, 0, none⟩ := hb.cell (p := ⟨g, 0, none⟩) HB.out
    have k1 : w1.frozen? ⟨g, 0, none⟩ = w.frozen? ⟨g, 0, none⟩ := hb.frozen (p := ⟨g, 0, none⟩) HB.out
    have HV := Lib.hid hv
    have HBB := Lib.hid hb
    clear hv hb
    go_wp2_with fail
    go_ret
    have hg1 := HBB.out.block g HB.out
    rw [HG.out] at hg1
    exact ⟨_, rfl, own_setCell HV.out HB.out _, ⟨_, heap_setCell_same _ _ _ _ _ _ hg1, (HD.out.below HBB.out).setNon hg1 HN.out _, HOLD.out.slice _ _⟩, grown_trans ⟨HBB.out.os, HBB.out.tape, HBB.out.output, HBB.out.size, fun k hk _ => HBB.out.block k hk⟩ (grown_set _ _ _ _)⟩
  · rcases HU.out with ⟨h, rfl⟩ | ⟨b, o, c', h, hc, hm, _⟩
    · exfalso; simp at h; simp at hn; omega
    · simp at h; obtain ⟨rfl, rfl⟩ := h
      have HD := Lib.hid (HU.out.drop n hn ⟨b, o + n, none⟩ (fun _ => rfl) ⟨_, _, rfl⟩)
      clear hc hm
      go_enter Try.func62, Try.ntmps62
      go_wp2_with fail
      refine (clone_any _ (l.take n) _ HT.out (by rw [List.length_take]; omega)).mono ?_
      rintro e w1 ⟨v, rfl, hv, hb⟩
      have k0 : w1.cell? ⟨g, 0, none⟩ = w.cell? ⟨g, 0, none⟩ := hb.cell (p := ⟨g, 0, none⟩) HB.out
      have k1 : w1.frozen? ⟨g, 0, none⟩ = w.frozen? ⟨g, 0, none⟩ := hb.frozen (p := ⟨g, 0, none⟩) HB.out
      have HV := Lib.hid hv
      have HBB := Lib.hid hb
      clear hv hb
      go_wp2_with fail
      go_ret
      have hg1 := HBB.out.block g HB.out
      rw [HG.out] at hg1
      exact ⟨_, rfl, own_setCell HV.out HB.out _, ⟨_, heap_setCell_same _ _ _ _ _ _ hg1, (HD.out.below HBB.out).setNon hg1 HN.out _, fun x m d e => by cases e; exact HOLD.out ⟨b, o, none⟩ _ _ rfl⟩, grown_trans ⟨HBB.out.os, HBB.out.tape, HBB.out.output, HBB.out.size, fun k hk _ => HBB.out.block k hk⟩ (grown_set _ _ _ _)⟩

/-- What Raw does to a reader. -/
def rawOut (l : List UInt8) (x : Int) (n : Nat) : List UInt8 := if x = 0 then (if n ≤ l.length then l.take n else []) else []
def rawRest (l : List UInt8) (x : Int) (n : Nat) : List UInt8 := if x = 0 then (if n ≤ l.length then l.drop n else []) else l
def rawErr (l : List UInt8) (x : Int) (n : Nat) : Int := if x = 0 then (if n ≤ l.length then 0 else 21) else x

theorem raw_any (g n : Nat) (l : List UInt8) (x : Int) (w : World) (hr : RdrAt w g l x) (hn1 : n ≤ 9223372036854775807) (hl : l.length ≤ 1099511627776) :
    Calls Try.prog 62 #[.pointer (some ⟨g, 0, none⟩), .int .i64 (n : Int)] w (GivesRaw w g (rawOut l x n) (rawRest l x n) (rawErr l x n)) := by
  unfold rawOut rawRest rawErr
  by_cases hx : x = 0
  · subst hx
    simp only [if_true]
    by_cases hn : n ≤ l.length
    · simp only [if_pos hn]; exact raw_ok g n l w hr hn hl
    · simp only [if_neg hn]; exact raw_short g n l w hr (by omega) hn1
  · simp only [if_neg hx]; exact raw_err g n l x w hr hx
end Go.Proofs.Yteapoemockimfaa
