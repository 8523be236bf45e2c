/-
  Clone of bytes; the reader of bytes.
-/
import Derived.Test.YteapoemockimfaaCon
namespace Go.Proofs.Yteapoemockimfaa
set_option linter.unusedVariables false
set_option linter.unusedSimpArgs false
open Go.RowKit

set_option maxHeartbeats 800000 in
theorem clone_any (v : Value) (l : List UInt8) (w : World) (hv : Rd w v l) (hl : l.length ≤ 1099511627776) :
    Calls Try.prog 61 #[v] w (GivesOwn w l) := by
  rcases hv with ⟨rfl, rfl⟩ | ⟨b, o, c, rfl, hc, hm, hcell⟩
  · have heq := fun w : World => Lib.run_eql_slice_nil (P := Try.prog) w 29 5 none 0 0 0 0 Try.underlying29
    go_enter Try.func61, Try.ntmps61
    go_wp2
    go_ret
    exact ⟨_, rfl, Own.nil _ _, Below.refl _ _⟩
  · have HV : Hid (Rd w (.slice (some ⟨b, o, none⟩) l.length c) l) := Lib.hid (.inr ⟨b, o, c, rfl, hc, hm, hcell⟩)
    clear hcell
    have heq := fun w : World => Lib.run_eql_slice_nil (P := Try.prog) w 29 5 (some ⟨b, o, none⟩) l.length c 0 0 Try.underlying29
    go_enter Try.func61, Try.ntmps61
    go_wp2_with (at_builtin; refine wpList_append_bytes rfl (.tmp 5) (.tmp 6) rfl w.heap.size (l := []) rfl rfl (own_lit w _ [] (Nat.le_refl _) (by decide)) (HV.out.below (bl_alloc (Below.refl _ _) _)) (by simp; omega) (by simp) ?_; intro v' w' ho hg)
    go_ret
    exact ⟨_, rfl, ho, below_grown (bl_alloc (Below.refl _ _) _) hg (Own.row (own_lit w _ [] (Nat.le_refl _) (by decide)))⟩

/-- A slice into an older block. -/
def OldThan (u : Value) (g : Nat) : Prop := ∀ a n c, u = .slice (some a) n c → a.block < g
theorem OldThan.none (g n c : Nat) : OldThan (.slice none n c) g := fun a n c h => by cases h
theorem OldThan.slice {a : Option Addr} {g n c : Nat} (h : OldThan (.slice a n c) g) (n' c' : Nat) : OldThan (.slice a n' c') g := fun x m d e => by
  cases e
  exact h x n c rfl
/-- A reader at a block: the bytes that are left (in an older block), the first error. -/
def RdrAt (w : World) (g : Nat) (l : List UInt8) (e : Int) : Prop :=
  ∃ u, w.heap[g]? = some (.cells #[u, .int .i64 e] 98 (0, 0)) ∧ Rd w u l ∧ OldThan u g
theorem RdrAt.below {w w' : World} {g : Nat} {l : List UInt8} {e : Int} (h : RdrAt w g l e) (hb : Below w.heap.size w w') : RdrAt w' g l e := by
  obtain ⟨u, hg, hu, ho⟩ := h
  exact ⟨u, by rw [hb.block g (Array.getElem?_eq_some_iff.1 hg).1]; exact hg, hu.below hb, ho⟩
/-- What a reader hands back that was made. -/
def GivesRdr (w : World) (l : List UInt8) (e : Ending) (w' : World) : Prop := ∃ g, e = .returned (.pointer (some ⟨g, 0, none⟩)) ∧ w.heap.size ≤ g ∧ RdrAt w' g l 0 ∧ Below w.heap.size w w'

set_option maxHeartbeats 800000 in
theorem new_any (v : Value) (l : List UInt8) (w : World) (hv : Rd w v l) (hl : l.length ≤ 1099511627776) :
    Calls Try.prog 36 #[v] w (GivesRdr w l) := by
  obtain ⟨a, c, rfl⟩ := hv.shape
  have HV := Lib.hid hv
  clear hv
  go_enter Try.func36, Try.ntmps36
  go_wp2_with fail
  refine (clone_any _ l _ HV.out hl).mono ?_
  rintro e w1 ⟨u, rfl, hu, hb⟩
  have HU := Lib.hid hu
  have HB := Lib.hid hb
  obtain ⟨a', c', rfl⟩ := hu.rd.shape
  clear hu hb
  go_wp2_with fail
  go_ret
  exact ⟨_, rfl, HB.out.size, ⟨_, heap_alloc_new _ _, HU.out.rd.below (bl_alloc (Below.refl _ _) _), fun a n c e => by cases e; exact (World.ownsRow.lt HU.out _ rfl).2⟩, bl_alloc HB.out _⟩

theorem cell_two (w : World) (g : Nat) (u x : Value) (T : TypeId) (h : w.heap[g]? = some (.cells #[u, x] T (0, 0))) : w.cell? ⟨g, 0, none⟩ = some u ∧ w.cell? ⟨g, 1, none⟩ = some x ∧ w.frozen? ⟨g, 0, none⟩ = false ∧ w.frozen? ⟨g, 1, none⟩ = false :=
  ⟨by rw [cell_of_row w g 0 _ T _ h]; rfl, by rw [cell_of_row w g 1 _ T _ h]; rfl, frozen_of_row w g 0 _ T h, frozen_of_row w g 1 _ T h⟩
theorem grown_set (w : World) (g o : Nat) (v : Value) : w.grownBy (w.setCell ⟨g, o, none⟩ v) (some g) :=
  ⟨rfl, rfl, rfl, by simp, fun k hk hne => heap_setCell_other _ _ _ _ (fun e => hne (by rw [e]))⟩
theorem grown_trans {a b c : World} {r : Option Nat} (h : a.grownBy b r) (k : b.grownBy c r) : a.grownBy c r :=
  ⟨k.os.trans h.os, k.tape.trans h.tape, k.output.trans h.output, Nat.le_trans h.size k.size, fun i hi hr => (k.block i (Nat.lt_of_lt_of_le hi h.size) hr).trans (h.block i hi hr)⟩

def GivesNone (w : World) (g : Nat) (l : List UInt8) (x : Int) (e : Ending) (w' : World) : Prop := e = .returned (.tuple #[]) ∧ RdrAt w' g l x ∧ w.grownBy w' (some g)

set_option maxHeartbeats 800000 in
theorem fail_any (g : Nat) (l : List UInt8) (x y : Int) (w : World) (hr : RdrAt w g l x) :
    Calls Try.prog 78 #[.pointer (some ⟨g, 0, none⟩), .int .i64 y] w (GivesNone w g [] y) := by
  obtain ⟨u, hg, hu, ho⟩ := hr
  obtain ⟨c0, c1, f0, f1⟩ := cell_two w g u _ _ hg
  have HG := Lib.hid hg
  clear hg hu ho
  go_enter Try.func78, Try.ntmps78
  go_wp2_with fail
  go_end0
  refine ⟨rfl, ⟨_, heap_setCell_same _ _ _ _ _ _ (heap_setCell_same _ _ _ _ _ _ HG.out), Rd.nil _, OldThan.none _ _ _⟩, grown_trans (grown_set _ _ _ _) (grown_set _ _ _ _)⟩
end Go.Proofs.Yteapoemockimfaa
