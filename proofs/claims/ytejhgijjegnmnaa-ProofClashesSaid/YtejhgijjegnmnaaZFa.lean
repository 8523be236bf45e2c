/-
  Proofs: the plain values; texts and sums of both sides as contracts; lists turned round.
-/
import Derived.Test.YtejhgijjegnmnaaZBn
import Derived.Test.YtejhgijjegnmnaaZQ3
namespace Go.Proofs.Ytejhgijjegnmnaa
set_option linter.unusedVariables false
set_option linter.unusedSimpArgs false
open Go.RowKit Pl
/-- A proof. -/
structure Pf where
  path : List H
  en : Int
  it : It
def Pf.dv (p : Pf) : List DV := slT hdv 32 p.path :: .v (.int .i64 p.en) :: p.it.dv
def sumH (l : List UInt8) : H := ofL (sumB l)
/-- The text of a way's end. -/
def endT (p : Pf) : List UInt8 := if p.en = 1 then textB 122 [] else textB 108 [H.l p.it.ix, H.l p.it.vl]
def stepT (ix o h : H) (j : Nat) : List UInt8 := if bitI ix (j : Int) = 1 then textB 110 [H.l o, H.l h] else textB 110 [H.l h, H.l o]
/-- The texts of a way, the end's first, and the last one's sum. -/
def txH (ix : H) (p : Pf) : Nat → H
  | 0 => sumH (endT p)
  | k + 1 => match p.path[p.path.length - 1 - k]? with
    | some o => sumH (stepT ix o (txH ix p k) (p.path.length - 1 - k))
    | none => txH ix p k
def txL (ix : H) (p : Pf) : Nat → List (List UInt8)
  | 0 => [endT p]
  | k + 1 => match p.path[p.path.length - 1 - k]? with
    | some o => txL ix p k ++ [stepT ix o (txH ix p k) (p.path.length - 1 - k)]
    | none => txL ix p k
theorem txH_step {ix : H} {p : Pf} {k : Nat} (h : p.path.length - 1 - k < p.path.length) : txH ix p (k + 1) = sumH (stepT ix p.path[p.path.length - 1 - k] (txH ix p k) (p.path.length - 1 - k)) := by
  simp only [txH, List.getElem?_eq_getElem h]
theorem txL_step {ix : H} {p : Pf} {k : Nat} (h : p.path.length - 1 - k < p.path.length) : txL ix p (k + 1) = txL ix p k ++ [stepT ix p.path[p.path.length - 1 - k] (txH ix p k) (p.path.length - 1 - k)] := by
  simp only [txL, List.getElem?_eq_getElem h]
theorem txL_len {ix : H} {p : Pf} : ∀ k, k ≤ p.path.length → (txL ix p k).length = k + 1
  | 0, _ => rfl
  | k + 1, h => by rw [txL_step (by omega), List.length_append, txL_len k (by omega)]; rfl
theorem po_own2 {P : Program} {f : FuncId} {u : Value} {X : DV} {l : List UInt8} (hc : ∀ w v, X.rep noK w v → Calls P f #[u, v] w (GivesOwn w l)) : PO P f [.v u, X] 5 1 l.length (l.flatMap bdv) := fun w us hr => by
  unfold repL at hr
  obtain ⟨v, t, rfl, r1, hr⟩ := hr
  unfold repL at hr
  obtain ⟨x, t', rfl, r2, hr⟩ := hr
  unfold repL at hr; subst hr
  unfold DV.rep at r1; subst r1
  exact (hc w x r2).mono fun e w' ⟨v, h1, h2, h3⟩ => ⟨v, bvs l, h1, h3, h2, bvs_one l, fun K _ => repL_u8 l⟩
theorem text_po (tag : Int) (ls : List (List UInt8)) (h0 : 0 ≤ tag) (h1 : tag < 256) (hl : textLen ls ≤ 549755813888) : PO Try.prog 75 [.v (.int .u8 tag), slT ldv 1 ls] 5 1 (textB tag ls).length ((textB tag ls).flatMap bdv) := po_own2 fun w v hv => text_any tag v ls w h0 h1 (rdl_of_rep hv) hl
theorem rtext_po (tag : Int) (ls : List (List UInt8)) (h0 : 0 ≤ tag) (h1 : tag < 256) (hl : textLen ls ≤ 549755813888) : PO Try.prog 80 [.v (.int .u8 tag), slT ldv 1 ls] 5 1 (textB tag ls).length ((textB tag ls).flatMap bdv) := po_own2 fun w v hv => rtext_any tag v ls w h0 h1 (rdl_of_rep hv) hl
theorem text_pf (tag : Int) (ls : List (List UInt8)) (h0 : 0 ≤ tag) (h1 : tag < 256) (hl : textLen ls ≤ 549755813888) : PF Try.prog 75 [.v (.int .u8 tag), slT ldv 1 ls] (slT bdv 1 (textB tag ls)) := (text_po tag ls h0 h1 hl).pf
theorem rtext_pf (tag : Int) (ls : List (List UInt8)) (h0 : 0 ≤ tag) (h1 : tag < 256) (hl : textLen ls ≤ 549755813888) : PF Try.prog 80 [.v (.int .u8 tag), slT ldv 1 ls] (slT bdv 1 (textB tag ls)) := (rtext_po tag ls h0 h1 hl).pf
theorem pf_sum {P : Program} {f : FuncId} {l h : List UInt8} (hl : h.length = 32) (hc : ∀ v w, Rd w v l → Calls P f #[v] w fun e w' => e = .returned (hashV h) ∧ Below w.heap.size w w') : PF P f [slT bdv 1 l] (.ag (hdv (ofL h))) := fun w us hr => by
  unfold repL at hr
  obtain ⟨u, t, rfl, r1, hr⟩ := hr
  unfold repL at hr; subst hr
  exact (hc u w (rd_of_rep r1)).mono fun e w' ⟨h1, h2⟩ => ⟨_, h1, h2, fun K _ => hash_rep hl⟩
theorem sum_pf (l : List UInt8) (hl : l.length ≤ 549755813888) : PF Try.prog 29 [slT bdv 1 l] (.ag (hdv (sumH l))) := pf_sum (sumB_length _) fun v w hv => sum_any v l w hv hl
theorem rsum_pf (l : List UInt8) (hl : l.length ≤ 549755813888) : PF Try.prog 42 [slT bdv 1 l] (.ag (hdv (sumH l))) := pf_sum (sumB_length _) fun v w hv => rsum_any v l w hv hl
theorem text2_len (a b : H) : textLen [H.l a, H.l b] ≤ 549755813888 := by
  unfold textLen; simp [totalLen, H.l_len]
theorem text0_len : textLen [] ≤ 549755813888 := by decide
theorem textB2_len (tag : Int) (a b : H) : (textB tag [H.l a, H.l b]).length ≤ 549755813888 := by rw [textB_len]; exact text2_len a b
theorem textB0_len (tag : Int) : (textB tag []).length ≤ 549755813888 := by rw [textB_len]; exact text0_len
theorem endT_len (p : Pf) : (endT p).length ≤ 549755813888 := by
  unfold endT; split
  · exact textB0_len _
  · exact textB2_len _ _ _
theorem stepT_len (ix o h : H) (j : Nat) : (stepT ix o h j).length ≤ 549755813888 := by
  unfold stepT; split
  · exact textB2_len _ _ _
  · exact textB2_len _ _ _
def rvG {α : Type} (xs : List α) (i : Nat) : List α := List.ofFn fun j : Fin xs.length => if j.val < i ∨ xs.length ≤ j.val + i then xs[xs.length - 1 - j.val]'(by have := j.isLt; omega) else xs[j.val]
theorem rvG_len {α : Type} (xs : List α) (i : Nat) : (rvG xs i).length = xs.length := by unfold rvG; simp
theorem rvG_at {α : Type} {xs : List α} {i j : Nat} (h : j < (rvG xs i).length) : (rvG xs i)[j] = if j < i ∨ xs.length ≤ j + i then xs[xs.length - 1 - j]'(by rw [rvG_len] at h; omega) else xs[j]'(by rw [rvG_len] at h; exact h) := List.getElem_ofFn h
theorem rvG_zero {α : Type} (xs : List α) : rvG xs 0 = xs := by
  apply List.ext_getElem
  · exact rvG_len xs 0
  · intro j h1 h2
    rw [rvG_at h1, if_neg (by omega)]
theorem rvG_step {α : Type} {xs : List α} {i : Nat} (h : i + 1 + i < xs.length) (h1 : xs.length - 1 - i < (rvG xs i).length) (h2 : i < (rvG xs i).length) : ((rvG xs i).set i (rvG xs i)[xs.length - 1 - i]).set (xs.length - 1 - i) (rvG xs i)[i] = rvG xs (i + 1) := by
  apply List.ext_getElem
  · simp [rvG_len]
  · intro j k1 k2
    have hj : j < xs.length := by rw [rvG_len] at k2; exact k2
    rw [rvG_at k2, List.getElem_set, List.getElem_set]
    by_cases e1 : xs.length - 1 - i = j
    · subst e1
      rw [if_pos rfl, if_pos (by omega), rvG_at h2, if_neg (by omega)]
      congr 1; omega
    · rw [if_neg e1]
      by_cases e2 : i = j
      · subst e2
        rw [if_pos rfl, if_pos (by omega), rvG_at h1, if_neg (by omega)]
      · rw [if_neg e2, rvG_at (by rw [rvG_len]; exact hj)]
        by_cases e3 : j < i ∨ xs.length ≤ j + i
        · rw [if_pos e3, if_pos (by omega)]
        · rw [if_neg e3, if_neg (by omega)]
theorem rvG_end {α : Type} {xs : List α} {i : Nat} (h : ¬ i + 1 + i < xs.length) : rvG xs i = xs.reverse := by
  apply List.ext_getElem
  · simp [rvG_len]
  · intro j h1 h2
    have hj : j < xs.length := by rw [rvG_len] at h1; exact h1
    rw [rvG_at h1, List.getElem_reverse]
    by_cases e : j < i ∨ xs.length ≤ j + i
    · rw [if_pos e]
    · rw [if_neg e]; congr 1; omega
theorem ld_one {ys : List (List UInt8)} {j : Nat} (h : j < ys.length) : (ys.flatMap ldv)[((j : Nat) : Int).toNat * 1]? = some (slT bdv 1 ys[j]) := by
  have := flat_one_get (fun l : List UInt8 => slT bdv 1 l) ys j
  rw [List.getElem?_eq_getElem h] at this
  rw [Int.toNat_natCast, Nat.mul_one]; exact this
theorem ldv_cells (ys : List (List UInt8)) (n : Nat) (h : ys.length = n) : (ys.flatMap ldv).length = n * 1 := by rw [flat_length (sz := 1) (fun _ => rfl), h]
end Go.Proofs.Ytejhgijjegnmnaa

