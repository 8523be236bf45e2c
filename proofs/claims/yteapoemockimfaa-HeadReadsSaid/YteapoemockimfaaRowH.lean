/-
  Opening a hash that comes in.
-/
import Derived.Test.YteapoemockimfaaRow
import Derived.OpenShut
import Derived.ChangeArms
namespace Go.Proofs.Yteapoemockimfaa
set_option linter.unusedVariables false
set_option linter.unusedSimpArgs false
set_option maxRecDepth 100000
open Go.RowKit Go.ChangeShapes Go.WideShapes Go.ChangeAt

def byteOf' : Value → UInt8
  | .int _ n => byt n
  | _ => 0
theorem hash_of_trod {H : Type} {enc : TypeId × Value → H} {W : World} {base fuel : Nat} {sp : Nat → Bool} {held : Bool} {cs : List Value} {x : DataW H × List MemPlace}
    (h : DataW.trod enc Try.prog W base sp held fuel 23 cs = some x) : ∃ l : List UInt8, l.length = 32 ∧ cs = bvs l := by
  obtain ⟨xs, m, rfl, rfl, hlen, hxs, hel⟩ := DataW.trod_array Try.underlying23 h
  have h32 : cs.length = 32 := by rw [hlen]; kernel_rfl
  have h1 : Try.prog.cellsOf 5 = 1 := by kernel_rfl
  rw [h1] at hel
  refine ⟨cs.map byteOf', by simp [h32], ?_⟩
  apply List.ext_getElem
  · simp [bvs]
  intro i hi hi2
  have hx : i < xs.length := by rw [hxs]; omega
  have he := hel i (by omega)
  rw [Nat.mul_one, List.getElem?_eq_getElem hx, List.drop_eq_getElem_cons hi] at he
  simp only [List.take_succ_cons, List.take_zero] at he
  obtain ⟨n, e0, _, wn⟩ := DataW.trod_int Try.underlying5 he
  simp only [List.cons.injEq, and_true] at e0
  have hb := bounds_u8 wn
  simp only [bvs, List.getElem_map, e0, byteOf']
  exact (bv_byt n hb.1 (by omega)).symm

/-- A hash that comes in. -/
theorem open_hash {H : Type} {enc : TypeId × Value → H} {W : World} {base : Nat} {v : Value} {d : DataW H} {ps : List MemPlace}
    (hval : Value.okWide Try.prog W .any base 23 v) (h : DataW.Trod enc Try.prog W 0 (fun _ => true) true 23 v d ps) :
    ∃ l : List UInt8, v = hashV l ∧ l.length = 32 := by
  unfold Value.okWide at hval
  rw [Try.underlying23] at hval
  simp only at hval
  obtain ⟨cs, rfl, _, _⟩ := hval
  obtain ⟨fuel, hf⟩ := h
  obtain ⟨l, hl, hcs⟩ := hash_of_trod hf
  refine ⟨l, ?_, hl⟩
  simp [Value.cells] at hcs
  unfold hashV
  rw [← hcs]
end Go.Proofs.Yteapoemockimfaa
