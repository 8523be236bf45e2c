/-
  From a law's contract to its walk: the arguments that come in.
-/
import Derived.Test.YtkkgjmfnlabbdaaDt
import Derived.Test.YtkkgjmfnlabbdaaRowU
namespace Go.Proofs.Ytkkgjmfnlabbdaa
set_option linter.unusedVariables false
set_option linter.unusedSimpArgs false
open Go.RowKit Pl

def bdv (b : UInt8) : List DV := [.v (.int .u8 b.toNat)]
theorem rep_v {K : Nat → Prop} {w : World} (u : Value) : (DV.v u).rep K w u := by unfold DV.rep; rfl
theorem repl_nil {K : Nat → Prop} {w : World} : repL K w [] [] := by unfold repL; rfl
theorem repl_cons {K : Nat → Prop} {w : World} {X : DV} {Xs : List DV} {u : Value} {us : List Value} (h : X.rep K w u) (k : repL K w Xs us) : repL K w (X :: Xs) (u :: us) := by unfold repL; exact ⟨u, us, rfl, h, k⟩
theorem rd_rep {w : World} {v : Value} {l : List UInt8} (h : Rd w v l) : (slT bdv 1 l).rep noK w v := by
  unfold slT DV.rep
  rcases h with ⟨rfl, rfl⟩ | ⟨b, o, c, hv, hc, hm, hcell⟩
  · exact .inl ⟨rfl, rfl, rfl⟩
  · refine .inr ⟨b, o, c, hv, hc, hm, flat_length (enc := bdv) (fun _ => rfl) l, ?_, ?_⟩
    · cases l with
      | nil => exact .inl rfl
      | cons x r => exact .inr ⟨World.block_lt_of_cell? w _ (hcell 0 (by simp)), fun h => h⟩
    · refine repAt_of_cells (us := l.map bv) ?_ (fun j u hj => ?_) (fun u hu => ?_)
      · clear hcell hv hc
        induction l with
        | nil => exact repl_nil
        | cons x r ih => exact repl_cons (rep_v _) ih
      · rw [List.getElem?_map] at hj
        cases e : l[j]? with
        | none => simp [e] at hj
        | some x =>
          obtain ⟨hlt, rfl⟩ := List.getElem?_eq_some_iff.1 e
          simp [e] at hj; subst hj
          exact hcell j hlt
      · obtain ⟨x, _, rfl⟩ := List.mem_map.1 hu; rfl
theorem vs_rep {K : Nat → Prop} {w : World} : ∀ us : List Value, repL K w (us.map .v) us
  | [] => repl_nil
  | u :: r => repl_cons (rep_v u) (vs_rep r)
theorem up_rep {K : Nat → Prop} {w : World} (u : Up) : (DV.ag u.dv).rep K w (upV u) := by unfold DV.rep; exact ⟨u.cells, rfl, vs_rep u.cells⟩
theorem pf_bool {P : Program} {f : FuncId} {Xs : List DV} {us : List Value} {W : World} (h : PF P f Xs (.v (.bool true))) (hr : repL noK W Xs us) : Calls P f us.toArray W fun e W' => e = .returned (.bool true) ∧ Below W.heap.size W W' :=
  (h W us hr).mono fun e w' ⟨u, h1, h2, h3⟩ => by
    have := h3 noK (fun b hb => hb.elim)
    unfold DV.rep at this
    subst this
    exact ⟨h1, h2⟩
theorem u8_of {a : Int} (h : (Lit.int .u8 a).wf = true) : ∃ k : UInt8, ((k.toNat : Nat) : Int) = a := by
  obtain ⟨h0, h1⟩ := bounds_u8 h
  refine ⟨UInt8.ofNat a.toNat, ?_⟩
  rw [UInt8.toNat_ofNat']
  omega
end Go.Proofs.Ytkkgjmfnlabbdaa
