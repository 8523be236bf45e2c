/-
  Readers: what a call of Raw leaves; Clone and Word as contracts of data.
-/
import Derived.Test.YteapoemockimfaaZFe
import Derived.Test.YteapoemockimfaaZQ3
namespace Go.Proofs.Yteapoemockimfaa
set_option linter.unusedVariables false
set_option linter.unusedSimpArgs false
open Go.RowKit Pl
/-- A reader's cells: the bytes that are left, and its error. -/
def rdC (l : List UInt8) (x : Int) : List DV := [slT bdv 1 l, .v (.int .i64 x)]
theorem rd_bad {l : List UInt8} {x : Int} (n : Nat) (h : ¬ x = 0) : rawOut l x n = [] ∧ rawRest l x n = l ∧ rawErr l x n = x := by
  unfold rawOut rawRest rawErr; simp [h]
theorem rd_short {l : List UInt8} {x : Int} {n : Nat} (h : x = 0) (k : ¬ n ≤ l.length) : rawOut l x n = [] ∧ rawRest l x n = [] ∧ rawErr l x n = 21 := by
  unfold rawOut rawRest rawErr; simp [h, k]
theorem rd_ok {l : List UInt8} {x : Int} {n : Nat} (h : x = 0) (k : n ≤ l.length) : rawOut l x n = l.take n ∧ rawRest l x n = l.drop n ∧ rawErr l x n = x := by
  unfold rawOut rawRest rawErr; simp [h, k]
theorem rdC_sub (x : Value) : SubL [.v (.slice none 0 0), .v x] [slT bdv 1 [], .v x] := subL_cons (nil_sub _ _) (subL_cons (fun _ _ _ h => h) subL_nil)
theorem rawRest_le (l : List UInt8) (x : Int) (n : Nat) : (rawRest l x n).length ≤ l.length := by
  unfold rawRest; split
  · split
    · rw [List.length_drop]; omega
    · simp
  · exact Nat.le_refl _
theorem po_own1 {P : Program} {f : FuncId} {X : DV} {l : List UInt8} (hc : ∀ w v, X.rep noK w v → Calls P f #[v] w (GivesOwn w l)) : PO P f [X] 5 1 l.length (l.flatMap bdv) := fun w us hr => by
  unfold repL at hr
  obtain ⟨v, t, rfl, r1, hr⟩ := hr
  unfold repL at hr; subst hr
  exact (hc w v r1).mono fun e w' ⟨v, h1, h2, h3⟩ => ⟨v, bvs l, h1, h3, h2, bvs_one l, fun K _ => repL_u8 l⟩
theorem clone8_pf (l : List UInt8) (hl : l.length ≤ 1099511627776) : PF Try.prog 61 [slT bdv 1 l] (slT bdv 1 l) := (po_own1 fun w v hv => clone_any v l w (rd_of_rep hv) hl).pf
theorem clone8_po (l : List UInt8) (hl : l.length ≤ 1099511627776) : PO Try.prog 61 [slT bdv 1 l] 5 1 l.length (l.flatMap bdv) := po_own1 fun w v hv => clone_any v l w (rd_of_rep hv) hl
theorem join_pf (ls : List (List UInt8)) (hl : totalLen ls ≤ 1099511627776) (hn : ls.length ≤ 1099511627776) : PF Try.prog 28 [slT ldv 1 ls] (slT bdv 1 ls.flatten) := (po_own1 fun w v hv => join_any v ls w (rdl_of_rep hv) hl hn).pf
theorem or_next {q : List UInt8} {i : Nat} (h : i < q.length) (hq : q.length ≤ 8) : bits .or .u64 (leNum (q.take i)) (IntKind.u64.wrap (IntKind.u64.wrap (q[i].toNat : Int) * 2 ^ (8 * i))) = leNum (q.take (i + 1)) := by
  have h2 := leNum_bd (q.take i)
  rw [List.length_take, Nat.min_eq_left (Nat.le_of_lt h)] at h2
  rw [or_step' (leNum (q.take i)) (q[i].toNat : Int) i (by omega) h2.1 h2.2 (by omega) (by have := UInt8.toNat_lt q[i]; omega), ← leNum_take q i h]
theorem ofL_at {l : List UInt8} {j : Nat} (p : j < (H.l (ofL l)).length) : (H.l (ofL l))[j] = l.getD j 0 := List.getElem_ofFn p
theorem ofL_copy {q : List UInt8} {m : Nat} (hm : m = q.length) (hq : q.length ≤ 32) : Pl.splice (hdv zeroH) 0 ((q.flatMap bdv).take (m * 1)) = hdv (ofL q) := by
  have hz : (hdv zeroH) = (List.replicate 32 (0 : UInt8)).flatMap bdv := rfl
  have hl : (q.flatMap bdv).length = q.length := by rw [flat_length (enc := bdv) (sz := 1) (fun _ => rfl)]; omega
  rw [hm, Nat.mul_one, List.take_of_length_le (by omega)]
  unfold Pl.splice
  rw [List.take_zero, List.nil_append, hl, Nat.zero_add]
  unfold hdv
  have e : H.l (ofL q) = q ++ List.replicate (32 - q.length) 0 := by
    apply List.ext_getElem
    · simp [H.l_len]; omega
    · intro j h1 h2
      rw [ofL_at h1, List.getElem_append]
      split
      · next e => simp [List.getD_eq_getElem?_getD, e]
      · next e => simp [List.getD_eq_getElem?_getD, e]
  rw [e, List.flatMap_append]
  congr 1
  have e2 : H.l zeroH = List.replicate 32 0 := rfl
  rw [e2, show (32 : Nat) = q.length + (32 - q.length) by omega, ← List.replicate_append_replicate, List.flatMap_append, show q.length + (32 - q.length) - q.length = 32 - q.length by omega]
  have h3 : ((List.replicate q.length (0 : UInt8)).flatMap bdv).length = q.length := by rw [flat_length (enc := bdv) (sz := 1) (fun _ => rfl)]; simp
  exact List.drop_left' h3
end Go.Proofs.Yteapoemockimfaa

