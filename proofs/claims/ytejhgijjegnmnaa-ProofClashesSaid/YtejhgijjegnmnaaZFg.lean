/-
  Readers: what a call of Raw leaves; Clone and Word as contracts of data.
-/
import Derived.Test.YtejhgijjegnmnaaZFe
import Derived.Test.YtejhgijjegnmnaaZQ3
namespace Go.Proofs.Ytejhgijjegnmnaa
set_option linter.unusedVariables false
set_option linter.unusedSimpArgs false
open Go.RowKit Pl
/-- A reader's cells: the bytes that are left, and its error. -/
def rdC (l : List UInt8) (x : Int) : List DV := [slT bdv 1 l, .v (.int .i64 x)]
theorem rd_bad {l : List UInt8} {x : Int} (n : Nat) (h : ¬ x = 0) : rawOut l x n = [] ∧ rawRest l x n = l ∧ rawErr l x n = x := by
  unfold rawOut rawRest rawErr; simp [h]
theorem rd_short {l : List UInt8} {x : Int} {n : Nat} (h : x = 0) (k : ¬ n ≤ l.length) : rawOut l x n = [] ∧ rawRest l x n = [] ∧ rawErr l x n = 21 := by
  unfold rawOut rawRest rawErr; simp [h, k]
theorem rd_ok {l : List UInt8} {x : Int} {n : Nat} (h : x = 0) (k : n ≤ l.length) : rawOut l x n = l.take n ∧ rawRest l x n = l.drop n ∧ rawErr l x n = x := by
  unfold rawOut rawRest rawErr; simp [h, k]
theorem rd_err {l : List UInt8} {x : Int} {n : Nat} (h : ¬ rawErr l x n = 0) : rawOut l x n = [] := by
  by_cases e : x = 0
  · by_cases k : n ≤ l.length
    · rw [(rd_ok e k).2.2] at h; exact absurd e h
    · exact (rd_short e k).1
  · exact (rd_bad n e).1
theorem rd_no {l : List UInt8} {x : Int} {n : Nat} (h : rawErr l x n = 0) : (rawOut l x n).length = n := by
  by_cases e : x = 0
  · by_cases k : n ≤ l.length
    · rw [(rd_ok e k).1, List.length_take]; omega
    · rw [(rd_short e k).2.2] at h; cases h
  · rw [(rd_bad n e).2.2] at h; exact absurd h e
theorem rdC_sub (x : Value) : SubL [.v (.slice none 0 0), .v x] [slT bdv 1 [], .v x] := subL_cons (nil_sub _ _) (subL_cons (fun _ _ _ h => h) subL_nil)
theorem rawRest_le (l : List UInt8) (x : Int) (n : Nat) : (rawRest l x n).length ≤ l.length := by
  unfold rawRest; split
  · split
    · rw [List.length_drop]; omega
    · simp
  · exact Nat.le_refl _
theorem po_own1 {P : Program} {f : FuncId} {X : DV} {l : List UInt8} (hc : ∀ w v, X.rep noK w v → Calls P f #[v] w (GivesOwn w l)) : PO P f [X] 5 1 l.length (l.flatMap bdv) := fun w us hr => by
  unfold repL at hr
  obtain ⟨v, t, rfl, r1, hr⟩ := hr
  unfold repL at hr; subst hr
  exact (hc w v r1).mono fun e w' ⟨v, h1, h2, h3⟩ => ⟨v, bvs l, h1, h3, h2, bvs_one l, fun K _ => repL_u8 l⟩
theorem clone8_pf (l : List UInt8) (hl : l.length ≤ 1099511627776) : PF Try.prog 82 [slT bdv 1 l] (slT bdv 1 l) := (po_own1 fun w v hv => clone_any v l w (rd_of_rep hv) hl).pf
theorem clone8_po (l : List UInt8) (hl : l.length ≤ 1099511627776) : PO Try.prog 82 [slT bdv 1 l] 5 1 l.length (l.flatMap bdv) := po_own1 fun w v hv => clone_any v l w (rd_of_rep hv) hl
theorem join_pf (ls : List (List UInt8)) (hl : totalLen ls ≤ 1099511627776) (hn : ls.length ≤ 1099511627776) : PF Try.prog 45 [slT ldv 1 ls] (slT bdv 1 ls.flatten) := (po_own1 fun w v hv => join_any v ls w (rdl_of_rep hv) hl hn).pf
theorem rword_pf (l : List UInt8) (hl : l.length = 8) : PF Try.prog 79 [slT bdv 1 l] (.v (.int .u64 (leNum l))) := fun w us hr => by
  unfold repL at hr
  obtain ⟨v, t, rfl, r1, hr⟩ := hr
  unfold repL at hr; subst hr
  exact (rword_any v l w (rd_of_rep r1) hl).mono fun e w' ⟨h1, h2⟩ => ⟨_, h1, h2 ▸ Below.refl _ _, fun K _ => by unfold DV.rep; rfl⟩
theorem or_next {q : List UInt8} {i : Nat} (h : i < q.length) (hq : q.length ≤ 8) : bits .or .u64 (leNum (q.take i)) (IntKind.u64.wrap (IntKind.u64.wrap (q[i].toNat : Int) * 2 ^ (8 * i))) = leNum (q.take (i + 1)) := by
  have h2 := leNum_bd (q.take i)
  rw [List.length_take, Nat.min_eq_left (Nat.le_of_lt h)] at h2
  rw [or_step' (leNum (q.take i)) (q[i].toNat : Int) i (by omega) h2.1 h2.2 (by omega) (by have := UInt8.toNat_lt q[i]; omega), ← leNum_take q i h]
theorem ofL_at {l : List UInt8} {j : Nat} (p : j < (H.l (ofL l)).length) : (H.l (ofL l))[j] = l.getD j 0 := List.getElem_ofFn p
/-- The first bytes of a hash's box are turned, one or all. -/
theorem ofL_step {q : List UInt8} {k : Nat} (h : k < q.length) (hq : q.length ≤ 32) : Pl.splice (hdv (ofL (q.take k))) k [.v (.int .u8 (q[k].toNat : Int))] = hdv (ofL (q.take (k + 1))) := by
  have := flat_set (enc := bdv) (sz := 1) (fun _ => rfl) (H.l (ofL (q.take k))) k q[k] (by rw [H.l_len]; omega)
  rw [Nat.mul_one] at this
  unfold hdv
  rw [show ([DV.v (.int .u8 (q[k].toNat : Int))] : List DV) = bdv q[k] from rfl, this]
  congr 1
  apply List.ext_getElem
  · simp [H.l_len]
  · intro j h1 h2
    have hj : j < 32 := by rw [H.l_len] at h2; exact h2
    rw [List.getElem_set]
    rw [ofL_at h2]
    split
    · next e => subst e; simp [List.getD_eq_getElem?_getD, List.getElem?_take, h]
    · next e =>
      rw [ofL_at]
      simp only [List.getD_eq_getElem?_getD, List.getElem?_take]
      by_cases e2 : j < k
      · rw [if_pos e2, if_pos (by omega)]
      · rw [if_neg e2, if_neg (by omega)]
theorem ofL_copy {q : List UInt8} {m : Nat} (hm : m = q.length) (hq : q.length ≤ 32) : Pl.splice (hdv zeroH) 0 ((q.flatMap bdv).take (m * 1)) = hdv (ofL q) := by
  have hz : (hdv zeroH) = (List.replicate 32 (0 : UInt8)).flatMap bdv := rfl
  have hl : (q.flatMap bdv).length = q.length := by rw [flat_length (enc := bdv) (sz := 1) (fun _ => rfl)]; omega
  rw [hm, Nat.mul_one, List.take_of_length_le (by omega)]
  unfold Pl.splice
  rw [List.take_zero, List.nil_append, hl, Nat.zero_add]
  unfold hdv
  have e : H.l (ofL q) = q ++ List.replicate (32 - q.length) 0 := by
    apply List.ext_getElem
    · simp [H.l_len]; omega
    · intro j h1 h2
      rw [ofL_at h1, List.getElem_append]
      split
      · next e => simp [List.getD_eq_getElem?_getD, e]
      · next e => simp [List.getD_eq_getElem?_getD, e]
  rw [e, List.flatMap_append]
  congr 1
  have e2 : H.l zeroH = List.replicate 32 0 := rfl
  rw [e2, show (32 : Nat) = q.length + (32 - q.length) by omega, ← List.replicate_append_replicate, List.flatMap_append, show q.length + (32 - q.length) - q.length = 32 - q.length by omega]
  have h3 : ((List.replicate q.length (0 : UInt8)).flatMap bdv).length = q.length := by rw [flat_length (enc := bdv) (sz := 1) (fun _ => rfl)]; simp
  exact List.drop_left' h3
end Go.Proofs.Ytejhgijjegnmnaa

