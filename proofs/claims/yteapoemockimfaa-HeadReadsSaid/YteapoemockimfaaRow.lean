/-
  Opening the arguments of a law: a slice of bytes, a signature.
-/
import Derived.Test.YteapoemockimfaaPut
import Derived.ChangeSlices
import Derived.Lib.SmallJoins
import Derived.WideShapes
import Derived.Below
namespace Go.Proofs.Yteapoemockimfaa
set_option linter.unusedVariables false
set_option maxRecDepth 100000
set_option linter.unusedSimpArgs false
open Go.RowKit Go.ChangeShapes Go.WideShapes Go.ChangeAt

theorem laidOut : laidOutB Try.prog = true := by kernel_rfl
theorem spot_none {t e : TypeId} {W : World} {base : Nat} {a : Addr} {len cap : Nat} (ht : Try.prog.underlying t = some (.slice e)) (hval : Value.okWide Try.prog W .any base t (.slice (some a) len cap)) : a.spot = none := by
  unfold Value.okWide at hval
  rw [ht] at hval
  simp only at hval
  unfold Cell.okWide at hval
  rw [ht] at hval
  simp only at hval
  unfold Cell.ok at hval
  rw [ht] at hval
  simp only at hval
  exact hval.2.2.2.1

/-- A slice of bytes that comes in reads as some bytes. -/
theorem open_rd {H : Type} {enc : TypeId × Value → H} {W : World} {base : Nat} {t : TypeId} {v : Value} {d : DataW H} {ps : List MemPlace} (ht : Try.prog.underlying t = some (.slice 5))
    (hval : Value.okWide Try.prog W .any base t v) (h : DataW.Trod enc Try.prog W 0 (fun _ => true) true t v d ps) : ∃ l, Rd W v l := by
  obtain ⟨a, len, cap, rfl⟩ := okWide_slice ht hval
  obtain ⟨fuel, hf⟩ := h
  rcases open_ints ht Try.underlying5 (by kernel_rfl) hf with ⟨hcs, _⟩ | ⟨x, l, c, zs, hcs, _, hl, hm, hz, _, hcell, hwz⟩
  · simp [Value.cells] at hcs
    obtain ⟨rfl, rfl, rfl⟩ := hcs
    exact ⟨[], .inl ⟨rfl, rfl⟩⟩
  · simp [Value.cells] at hcs
    obtain ⟨rfl, rfl, rfl⟩ := hcs
    obtain ⟨b, o, sp⟩ := x
    obtain rfl : sp = none := spot_none ht hval
    simp only [if_true] at hz
    have hlen : ((zs.take len).map byt).length = len := by simp; omega
    refine ⟨(zs.take len).map byt, .inr ⟨b, o, cap, by rw [hlen], by omega, hm, fun i hi => ?_⟩⟩
    have hi' : i < len := by omega
    have hiz : i < zs.length := by omega
    have h1 := hcell i hiz
    rw [addr_add] at h1
    rw [h1]
    have hw := bounds_u8 (hwz (zs[i]) (List.getElem_mem hiz))
    simp only [List.getElem_map, List.getElem_take]
    rw [bv_byt _ hw.1 (by omega), List.getD_eq_getElem?_getD, List.getElem?_eq_getElem hiz]
    rfl

/-- A signature that comes in. -/
theorem open_sig {H : Type} {enc : TypeId × Value → H} {W : World} {base : Nat} {v : Value} {d : DataW H} {ps : List MemPlace}
    (hval : Value.okWide Try.prog W .any base 26 v) (h : DataW.Trod enc Try.prog W 0 (fun _ => true) true 26 v d ps) :
    ∃ r s, v = sigV r s ∧ (0 ≤ r ∧ r < 18446744073709551616) ∧ (0 ≤ s ∧ s < 18446744073709551616) := by
  obtain ⟨v0, v1, y0, y1, n, rfl, rfl, rfl, h0, h1⟩ := Joins.open_agg2 Try.underlying26 (by kernel_rfl) (by kernel_rfl) hval h
  obtain ⟨r, e0, rfl, wr⟩ := DataW.trod_int Try.underlying24 h0
  obtain ⟨s, e1, rfl, ws⟩ := DataW.trod_int Try.underlying24 h1
  simp only [List.cons.injEq, and_true] at e0 e1
  subst e0 e1
  have := bounds_u64 wr
  have := bounds_u64 ws
  exact ⟨r, s, rfl, by omega, by omega⟩
end Go.Proofs.Yteapoemockimfaa
