/-
  Small words that the walks of this seat share: a world behind some draws. What the functions of the package field and those of the reference's numbers come to. The product of two words of 64 bits as Mul64 tells it; the leading zeros of both moduli. Div64 at both moduli: the remainder that it tells. Plain laws of numbers modulo a number. Rem64, Mul, Pow and Inv of the package field. The reference: Add, Mul, Pow and Inv. Every number but 0 to the power of the order is 1 modulo the prime. The plain laws of the numbers modulo the prime and the order.
-/
import Derived.Test.YtejhgijjegnmnaaProg
import Derived.WalkKit
import Derived.WalkSpells
import Derived.WalkLawsBesides
import Derived.Handy
import Derived.Deep.Draws
import Derived.Deep.QuietTactic
import Derived.BigQuiet
import Derived.KernelRfl
import Derived.StillTailTactics
import Derived.Deep.RegionHeld3
import Derived.Deep.LoopGhost
import Derived.Deep.DeepCutAuto
import Derived.Deep.CutBlock
import Derived.Lib.Hide
section
namespace Go.Proofs.Ytejhgijjegnmnaa
set_option linter.unusedVariables false
set_option linter.unusedSimpArgs false
open Go.RowKit
/-- The world has moved on by draws alone. -/
def Dr (w w' : World) : Prop := ∃ n, w' = w.drewN n
theorem Dr.refl (w : World) : Dr w w := ⟨0, rfl⟩
theorem Dr.drewN {w w' : World} (h : Dr w w') (n : Nat) : Dr w (w'.drewN n) := by
  obtain ⟨m, rfl⟩ := h; exact ⟨m + n, World.drewN_drewN ..⟩
theorem Dr.drew {w w' : World} (h : Dr w w') : Dr w w'.drew := by
  obtain ⟨m, rfl⟩ := h; exact ⟨m + 1, rfl⟩
theorem Dr.trans {a b c : World} (h : Dr a b) (k : Dr b c) : Dr a c := by
  obtain ⟨m, rfl⟩ := k; exact h.drewN m
theorem Dr.below {w w' : World} (h : Dr w w') (B : Nat) : Below B w w' := by
  obtain ⟨m, rfl⟩ := h; exact ⟨rfl, rfl, rfl, Nat.le_refl _, fun _ _ => rfl⟩
theorem bl_bl {a b c : World} (h : Below a.heap.size a b) (k : Below b.heap.size b c) : Below a.heap.size a c := h.trans (k.mono h.size)
theorem bl_dr {a b c : World} (h : Below a.heap.size a b) (k : Dr b c) : Below a.heap.size a c := h.trans (k.below _)
theorem bl_drewN {a b : World} (h : Below a.heap.size a b) (n : Nat) : Below a.heap.size a (b.drewN n) := bl_dr h (Dr.drewN (Dr.refl _) n)
theorem bl_alloc {a b : World} (h : Below a.heap.size a b) (o : Obj) : Below a.heap.size a (b.alloc o) := h.alloc h.size o
/-- The world behind a letter, with what is known of it. -/
theorem wp_world {P : Program} {c : Code} {Q : Exit → Act → World → Prop} {a : Act} {w : World} (S : World → Prop) (hS : S w) (h : ∀ W, S W → Code.wp P c Q a W) : Code.wp P c Q a w := h w hS
@[go_sem] theorem setCell_drewN (w : World) (n : Nat) (a : Addr) (v : Value) : (w.drewN n).setCell a v = (w.setCell a v).drewN n := rfl
theorem cell_far (w : World) (b o b' o' : Nat) (v : Value) (h : b ≠ b') : (w.setCell ⟨b, o, none⟩ v).cell? ⟨b', o', none⟩ = w.cell? ⟨b', o', none⟩ := World.cell?_setCell_far _ _ _ _ h
theorem cell_far2 (w : World) (b o o' : Nat) (v : Value) (h : o ≠ o') : (w.setCell ⟨b, o, none⟩ v).cell? ⟨b, o', none⟩ = w.cell? ⟨b, o', none⟩ := World.cell?_setCell_other _ _ _ _ (fun e => h (congrArg Addr.off e))
theorem below_setRow {a b : World} (h : Below a.heap.size a b) {g : Nat} {cs : Array Value} (hg : a.heap.size ≤ g) : Below a.heap.size a (b.setRow g cs) :=
  h.trans ⟨rfl, rfl, rfl, by simp [World.setRow], fun k hk => setRow_other _ _ _ _ (by omega)⟩
theorem heap_far (w : World) (b o k : Nat) (v : Value) (h : b ≠ k) : (w.setCell ⟨b, o, none⟩ v).heap[k]? = w.heap[k]? := heap_setCell_other _ _ _ _ (Ne.symm h)
end Go.Proofs.Ytejhgijjegnmnaa
end
section
namespace Go.Proofs.Ytejhgijjegnmnaa
set_option linter.unusedVariables false
set_option linter.unusedSimpArgs false
open Go.RowKit
end Go.Proofs.Ytejhgijjegnmnaa
end
section
namespace Go.Proofs.Ytejhgijjegnmnaa
set_option linter.unusedVariables false
set_option linter.unusedSimpArgs false
open Go.RowKit
end Go.Proofs.Ytejhgijjegnmnaa
end
section
namespace Go.Proofs.Ytejhgijjegnmnaa
set_option linter.unusedVariables false
set_option linter.unusedSimpArgs false
open Go.RowKit
end Go.Proofs.Ytejhgijjegnmnaa
end
section
namespace Go.Proofs.Ytejhgijjegnmnaa
set_option linter.unusedVariables false
set_option linter.unusedSimpArgs false
end Go.Proofs.Ytejhgijjegnmnaa
end
section
namespace Go.Proofs.Ytejhgijjegnmnaa
set_option linter.unusedVariables false
set_option linter.unusedSimpArgs false
open Go.RowKit
end Go.Proofs.Ytejhgijjegnmnaa
end
section
namespace Go.Proofs.Ytejhgijjegnmnaa
set_option linter.unusedVariables false
set_option linter.unusedSimpArgs false
open Go.RowKit
end Go.Proofs.Ytejhgijjegnmnaa
end
section
namespace Go.Proofs.Ytejhgijjegnmnaa.Ferm
set_option linter.unusedVariables false
set_option linter.unusedSimpArgs false
theorem coprime_of {k q : Nat} (hq : ∀ d, d < q + 1 → d ∣ q → d = 1 ∨ d = q) (h : ¬ q ∣ k) (h0 : 0 < q) : Nat.Coprime k q := by
  have h1 := Nat.gcd_dvd_right k q
  have h2 := Nat.le_of_dvd h0 h1
  rcases hq _ (by omega) h1 with e | e
  · exact e
  · exact absurd (e ▸ Nat.gcd_dvd_left k q) h
def P : Nat := 2305843009213693951
theorem cut {k m q : Nat} (hk : k ∣ q * m) (hq : ∀ d, d < q + 1 → d ∣ q → d = 1 ∨ d = q) (h0 : 0 < q) (h : ¬ q ∣ k) : k ∣ m :=
  (coprime_of hq h h0).dvd_of_dvd_mul_left hk
theorem one_of {k : Nat} (hk : k ∣ 2305843009213693950)
    (h2 : ¬ 2 ∣ k) (h3 : ¬ 3 ∣ k) (h5 : ¬ 5 ∣ k) (h7 : ¬ 7 ∣ k) (h11 : ¬ 11 ∣ k) (h13 : ¬ 13 ∣ k) (h31 : ¬ 31 ∣ k) (h41 : ¬ 41 ∣ k) (h61 : ¬ 61 ∣ k)
    (h151 : ¬ 151 ∣ k) (h331 : ¬ 331 ∣ k) (h1321 : ¬ 1321 ∣ k) : k = 1 := by
  have a := cut (q := 2) (m := 1152921504606846975) hk (by decide) (by decide) h2
  have a := cut (q := 3) (m := 384307168202282325) a (by decide) (by decide) h3
  have a := cut (q := 3) (m := 128102389400760775) a (by decide) (by decide) h3
  have a := cut (q := 5) (m := 25620477880152155) a (by decide) (by decide) h5
  have a := cut (q := 5) (m := 5124095576030431) a (by decide) (by decide) h5
  have a := cut (q := 7) (m := 732013653718633) a (by decide) (by decide) h7
  have a := cut (q := 11) (m := 66546695792603) a (by decide) (by decide) h11
  have a := cut (q := 13) (m := 5118976599431) a (by decide) (by decide) h13
  have a := cut (q := 31) (m := 165128277401) a (by decide +kernel) (by decide) h31
  have a := cut (q := 41) (m := 4027518961) a (by decide +kernel) (by decide) h41
  have a := cut (q := 61) (m := 66024901) a (by decide +kernel) (by decide) h61
  have a := cut (q := 151) (m := 437251) a (by decide +kernel) (by decide) h151
  have a := cut (q := 331) (m := 1321) a (by decide +kernel) (by decide) h331
  have a := cut (q := 1321) (m := 1) a (by decide +kernel) (by decide) h1321
  exact Nat.dvd_one.1 a
section
variable {N : Nat} (hN : N = 2305843009213693950)
include hN
end
end Go.Proofs.Ytejhgijjegnmnaa.Ferm
end
section
namespace Go.Proofs.Ytejhgijjegnmnaa
set_option linter.unusedVariables false
set_option linter.unusedSimpArgs false
end Go.Proofs.Ytejhgijjegnmnaa
end

