/-
  A string's bytes as a slice: the conversion.
-/
import Derived.Test.YtkkgjmfnlabbdaaB3
import Derived.Lib.ConvBytes
namespace Go.Proofs.Ytkkgjmfnlabbdaa
set_option linter.unusedVariables false
set_option linter.unusedSimpArgs false
open Go.RowKit

theorem frz_below (w : World) (l : List UInt8) : Below w.heap.size w (Lib.bytesWorld w 5 ⟨l.toArray⟩) :=
  ⟨by simp [Lib.bytesWorld, World.freeze, World.alloc, World.drew, -World.alloc_eq, -World.drew_eq], rfl, by simp [Lib.bytesWorld, World.freeze, World.alloc, World.drew, -World.alloc_eq, -World.drew_eq], by rw [Lib.bytesWorld_size]; omega, fun k hk => Lib.bytesWorld_at_old w _ _ k hk⟩
theorem conv_sb (w : World) (l : List UInt8) (hl : l.length ≤ 1099511627776) : ∃ v w', (convert 9 22 (.string ⟨l.toArray⟩)).run Try.prog w = .ok v w' ∧ Rd w' v l ∧ Below w.heap.size w w' := by
  refine ⟨_, _, Lib.run_convert_string_bytes w 9 22 5 ⟨l.toArray⟩ Try.underlying9 Try.underlying22 Try.underlying5, ?_, frz_below w l⟩
  have hs : (ByteArray.mk l.toArray).size = l.length := rfl
  rw [hs]
  refine .inr ⟨w.heap.size, 0, _, rfl, grownCap_ge w l.length 0 _, grownCap_le_maxLen w l.length 0 _ (by unfold maxLen; omega), fun i hi => ?_⟩
  rw [Nat.zero_add, Lib.bytesWorld_cell w 5 ⟨l.toArray⟩ i hi]
  simp [bv, hi]
theorem wpList_conv_sb {ops : Array Oper} {rest : List Oper} {o : Oper} {a : Act} {w : World} {Q : Exit → Act → World → Prop} (hg : o.guard = none) (x : Operand) (ho : o.op = .convert 9 22 x)
    {l : List UInt8} (hx : a.eval x = .string ⟨l.toArray⟩) (hl : l.length ≤ 1099511627776)
    (h : ∀ v' w', Rd w' v' l → Below w.heap.size w w' → wpList Try.prog ops Q rest (a.put o.dst v') w') : wpList Try.prog ops Q (o :: rest) a w :=
  wpList_plain hg fun K hK => by
    obtain ⟨v', w', hr, h1, h2⟩ := conv_sb w l hl
    unfold Oper.wp execOp
    simp only [ho, hx, Sem.run_bind, hr, Result.andThen_ok, Sem.run_pure]
    exact hK _ _ (h v' w' h1 h2)
theorem step_conv_sb {w : World} {ops : Array Oper} {o : Oper} {a : Act} {K : Act → World → Prop} {Q : Exit → Act → World → Prop} {E : Prop} (hgd : o.guard = none) (x : Operand) (ho : o.op = .convert 9 22 x)
    {l : List UInt8} (hx : a.eval x = .string ⟨l.toArray⟩) (hl : l.length ≤ 1099511627776)
    (h : ∀ v' w', Rd w' v' l → Below w.heap.size w w' → K (a.put o.dst v') w') : if Region.wanted o (yielded ops a.tmps) = true then Oper.wp Try.prog o a w K Q else E := by
  have hw : Region.wanted o (yielded ops a.tmps) = true := by simp [Region.wanted, hgd]
  rw [if_pos hw]
  obtain ⟨v', w', hr, h1, h2⟩ := conv_sb w l hl
  unfold Oper.wp execOp
  simp only [ho, hx, Sem.run_bind, hr, Result.andThen_ok, Sem.run_pure]
  exact h v' w' h1 h2
end Go.Proofs.Ytkkgjmfnlabbdaa
