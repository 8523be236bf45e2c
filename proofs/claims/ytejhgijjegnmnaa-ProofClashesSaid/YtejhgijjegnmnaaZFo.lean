/-
  What a set's own items' proofs prove.
-/
import Derived.Test.YtejhgijjegnmnaaZFn
namespace Go.Proofs.Ytejhgijjegnmnaa
set_option linter.unusedVariables false
set_option linter.unusedSimpArgs false
open Go.RowKit Pl
theorem check_mine {X : List It} (hs : Str X) {x : It} (hx : x ∈ X) : checkV (rootH X) x.ix (mkP x.ix X) = (x.vl, true, true) := by
  obtain ⟨h1, h2, h3, h4, _⟩ := mkP_all (ix := x.ix) hs
  have e := check_made x.ix X
  rw [setR_self hs, if_pos (thereB_iff.2 ⟨x, hx, rfl⟩), h4 x hx rfl] at e
  exact e
theorem check_any {X : List It} (hs : Str X) (ix : H) : ∃ v, checkV (rootH X) ix (mkP ix X) = (v, thereB ix X, true) := by
  obtain ⟨v, h, _⟩ := check_made' ix X
  rw [setR_self hs] at h
  exact ⟨v, h⟩
theorem own_it {X : List It} (hs : Str X) {x : It} (hx : x ∈ X) : (mkP x.ix X).it = x := (mkP_all (ix := x.ix) hs).2.2.2.1 x hx rfl
/-- A proof with another value. -/
def revP (p : Pf) (v : H) : Pf := ⟨p.path, p.en, ⟨p.it.ix, v⟩⟩
theorem rev_own {X : List It} (hs : Str X) {x : It} (hx : x ∈ X) : revP (mkP x.ix X) x.vl = mkP x.ix X := by
  have h := own_it hs hx
  unfold revP
  generalize mkP x.ix X = p at *
  obtain ⟨a, b, c⟩ := p
  simp only at h
  subst h; rfl
theorem set_ne {l : List It} (h : ¬ l.length = 0) : 0 < (setR l []).length := by
  cases l with
  | nil => exact absurd rfl h
  | cons y r =>
    obtain ⟨x, hx, _⟩ := (there_set y.ix (y :: r)).2 ⟨y, by simp, rfl⟩
    exact List.length_pos_of_mem hx
def mB (b : UInt8) : UInt8 := UInt8.ofNat (128 / 2 ^ (b.toNat % 8))
theorem mB_shr (b : UInt8) : (128 : Int).fdiv (2 ^ (min ((b.toNat % 8 : Nat) : Int).toNat IntKind.u8.bits)) = (((mB b).toNat : Nat) : Int) := by
  have : ∀ c : Fin 8, (128 : Int).fdiv (2 ^ (min ((c.val : Nat) : Int).toNat IntKind.u8.bits)) = (((UInt8.ofNat (128 / 2 ^ c.val)).toNat : Nat) : Int) := by decide
  exact this ⟨b.toNat % 8, by omega⟩
end Go.Proofs.Ytejhgijjegnmnaa

