import Derived.Test.YtdjcclcejmeheaaGreatZBn
import Derived.Test.YtdjcclcejmeheaaGreatZQ3
import Derived.Test.YtdjcclcejmeheaaGreatZFc
/-
  Proofs: the plain values; texts and sums of both sides as contracts; lists turned round.
-/
namespace Go.Proofs.YtdjcclcejmeheaaGreat
set_option linter.unusedVariables false
set_option linter.unusedSimpArgs false
open Go.RowKit Pl
/-- A proof. -/
structure Pf where
  path : List H
  en : Int
  it : It
def Pf.dv (p : Pf) : List DV := slT hdv 32 p.path :: .v (.int .i64 p.en) :: p.it.dv
def sumH (l : List UInt8) : H := ofL (sumB l)
/-- The text of a way's end. -/
def endT (p : Pf) : List UInt8 := if p.en = 1 then textB 122 [] else textB 108 [H.l p.it.ix, H.l p.it.vl]
def stepT (ix o h : H) (j : Nat) : List UInt8 := if bitI ix (j : Int) = 1 then textB 110 [H.l o, H.l h] else textB 110 [H.l h, H.l o]
/-- The texts of a way, the end's first, and the last one's sum. -/
def txH (ix : H) (p : Pf) : Nat → H
  | 0 => sumH (endT p)
  | k + 1 => match p.path[p.path.length - 1 - k]? with
    | some o => sumH (stepT ix o (txH ix p k) (p.path.length - 1 - k))
    | none => txH ix p k
def txL (ix : H) (p : Pf) : Nat → List (List UInt8)
  | 0 => [endT p]
  | k + 1 => match p.path[p.path.length - 1 - k]? with
    | some o => txL ix p k ++ [stepT ix o (txH ix p k) (p.path.length - 1 - k)]
    | none => txL ix p k
theorem txH_step {ix : H} {p : Pf} {k : Nat} (h : p.path.length - 1 - k < p.path.length) : txH ix p (k + 1) = sumH (stepT ix p.path[p.path.length - 1 - k] (txH ix p k) (p.path.length - 1 - k)) := by
  simp only [txH, List.getElem?_eq_getElem h]
theorem txL_step {ix : H} {p : Pf} {k : Nat} (h : p.path.length - 1 - k < p.path.length) : txL ix p (k + 1) = txL ix p k ++ [stepT ix p.path[p.path.length - 1 - k] (txH ix p k) (p.path.length - 1 - k)] := by
  simp only [txL, List.getElem?_eq_getElem h]
theorem txL_len {ix : H} {p : Pf} : ∀ k, k ≤ p.path.length → (txL ix p k).length = k + 1
  | 0, _ => rfl
  | k + 1, h => by rw [txL_step (by omega), List.length_append, txL_len k (by omega)]; rfl
theorem po_own2 {P : Program} {f : FuncId} {u : Value} {X : DV} {l : List UInt8} (hc : ∀ w v, X.rep noK w v → Calls P f #[u, v] w (GivesOwn w l)) : PO P f [.v u, X] 5 1 l.length (l.flatMap bdv) := fun w us hr => by
  unfold repL at hr
  obtain ⟨v, t, rfl, r1, hr⟩ := hr
  unfold repL at hr
  obtain ⟨x, t', rfl, r2, hr⟩ := hr
  unfold repL at hr; subst hr
  unfold DV.rep at r1; subst r1
  exact (hc w x r2).mono fun e w' ⟨v, h1, h2, h3⟩ => ⟨v, bvs l, h1, h3, h2, bvs_one l, fun K _ => repL_u8 l⟩
theorem text_po (tag : Int) (ls : List (List UInt8)) (h0 : 0 ≤ tag) (h1 : tag < 256) (hl : textLen ls ≤ 549755813888) : PO Tryz.prog 122 [.v (.int .u8 tag), slT ldv 1 ls] 5 1 (textB tag ls).length ((textB tag ls).flatMap bdv) := po_own2 fun w v hv => text_any tag v ls w h0 h1 (rdl_of_rep hv) hl
theorem text_pf (tag : Int) (ls : List (List UInt8)) (h0 : 0 ≤ tag) (h1 : tag < 256) (hl : textLen ls ≤ 549755813888) : PF Tryz.prog 122 [.v (.int .u8 tag), slT ldv 1 ls] (slT bdv 1 (textB tag ls)) := (text_po tag ls h0 h1 hl).pf
theorem pf_sum {P : Program} {f : FuncId} {l h : List UInt8} (hl : h.length = 32) (hc : ∀ v w, Rd w v l → Calls P f #[v] w fun e w' => e = .returned (hashV h) ∧ Below w.heap.size w w') : PF P f [slT bdv 1 l] (.ag (hdv (ofL h))) := fun w us hr => by
  unfold repL at hr
  obtain ⟨u, t, rfl, r1, hr⟩ := hr
  unfold repL at hr; subst hr
  exact (hc u w (rd_of_rep r1)).mono fun e w' ⟨h1, h2⟩ => ⟨_, h1, h2, fun K _ => hash_rep hl⟩
theorem sum_pf (l : List UInt8) (hl : l.length ≤ 549755813888) : PF Tryz.prog 123 [slT bdv 1 l] (.ag (hdv (sumH l))) := pf_sum (sumB_length _) fun v w hv => sum_any v l w hv hl
theorem text2_len (a b : H) : textLen [H.l a, H.l b] ≤ 549755813888 := by
  unfold textLen; simp [totalLen, H.l_len]
theorem text0_len : textLen [] ≤ 549755813888 := by decide
theorem textB2_len (tag : Int) (a b : H) : (textB tag [H.l a, H.l b]).length ≤ 549755813888 := by rw [textB_len]; exact text2_len a b
theorem textB0_len (tag : Int) : (textB tag []).length ≤ 549755813888 := by rw [textB_len]; exact text0_len
theorem endT_len (p : Pf) : (endT p).length ≤ 549755813888 := by
  unfold endT; split
  · exact textB0_len _
  · exact textB2_len _ _ _
theorem stepT_len (ix o h : H) (j : Nat) : (stepT ix o h j).length ≤ 549755813888 := by
  unfold stepT; split
  · exact textB2_len _ _ _
  · exact textB2_len _ _ _
def rvG {α : Type} (xs : List α) (i : Nat) : List α := List.ofFn fun j : Fin xs.length => if j.val < i ∨ xs.length ≤ j.val + i then xs[xs.length - 1 - j.val]'(by have := j.isLt; omega) else xs[j.val]
theorem rvG_len {α : Type} (xs : List α) (i : Nat) : (rvG xs i).length = xs.length := by unfold rvG; simp
theorem rvG_at {α : Type} {xs : List α} {i j : Nat} (h : j < (rvG xs i).length) : (rvG xs i)[j] = if j < i ∨ xs.length ≤ j + i then xs[xs.length - 1 - j]'(by rw [rvG_len] at h; omega) else xs[j]'(by rw [rvG_len] at h; exact h) := List.getElem_ofFn h
theorem rvG_zero {α : Type} (xs : List α) : rvG xs 0 = xs := by
  apply List.ext_getElem
  · exact rvG_len xs 0
  · intro j h1 h2
    rw [rvG_at h1, if_neg (by omega)]
theorem rvG_step {α : Type} {xs : List α} {i : Nat} (h : i + 1 + i < xs.length) (h1 : xs.length - 1 - i < (rvG xs i).length) (h2 : i < (rvG xs i).length) : ((rvG xs i).set i (rvG xs i)[xs.length - 1 - i]).set (xs.length - 1 - i) (rvG xs i)[i] = rvG xs (i + 1) := by
  apply List.ext_getElem
  · simp [rvG_len]
  · intro j k1 k2
    have hj : j < xs.length := by rw [rvG_len] at k2; exact k2
    rw [rvG_at k2, List.getElem_set, List.getElem_set]
    by_cases e1 : xs.length - 1 - i = j
    · subst e1
      rw [if_pos rfl, if_pos (by omega), rvG_at h2, if_neg (by omega)]
      congr 1; omega
    · rw [if_neg e1]
      by_cases e2 : i = j
      · subst e2
        rw [if_pos rfl, if_pos (by omega), rvG_at h1, if_neg (by omega)]
      · rw [if_neg e2, rvG_at (by rw [rvG_len]; exact hj)]
        by_cases e3 : j < i ∨ xs.length ≤ j + i
        · rw [if_pos e3, if_pos (by omega)]
        · rw [if_neg e3, if_neg (by omega)]
theorem rvG_end {α : Type} {xs : List α} {i : Nat} (h : ¬ i + 1 + i < xs.length) : rvG xs i = xs.reverse := by
  apply List.ext_getElem
  · simp [rvG_len]
  · intro j h1 h2
    have hj : j < xs.length := by rw [rvG_len] at h1; exact h1
    rw [rvG_at h1, List.getElem_reverse]
    by_cases e : j < i ∨ xs.length ≤ j + i
    · rw [if_pos e]
    · rw [if_neg e]; congr 1; omega
theorem ld_one {ys : List (List UInt8)} {j : Nat} (h : j < ys.length) : (ys.flatMap ldv)[((j : Nat) : Int).toNat * 1]? = some (slT bdv 1 ys[j]) := by
  have := flat_one_get (fun l : List UInt8 => slT bdv 1 l) ys j
  rw [List.getElem?_eq_getElem h] at this
  rw [Int.toNat_natCast, Nat.mul_one]; exact this
theorem ldv_cells (ys : List (List UInt8)) (n : Nat) (h : ys.length = n) : (ys.flatMap ldv).length = n * 1 := by rw [flat_length (sz := 1) (fun _ => rfl), h]
end Go.Proofs.YtdjcclcejmeheaaGreat
/-
  Proofs: which one is made of items at an index; which may be; what they prove: the plain values.
-/
namespace Go.Proofs.YtdjcclcejmeheaaGreat
set_option linter.unusedVariables false
set_option linter.unusedSimpArgs false
open Go.RowKit Pl
theorem Pl.reps_nown {C : Cx} {L : Lo} {Γ : Ga} {a : Act} {w : World} (g e sz : Nat) (hg : Γ g = none) (h : Reps C L Γ a w) : Reps C L (upd Γ g (.nrow (.slice none 0 0) 0 e sz [])) a w := by
  obtain ⟨ρ, h⟩ := h
  obtain ⟨ρ', hr, _, _⟩ := h.gain (g := g) (ob := none) (ob' := none) (o' := .nrow (.slice none 0 0) 0 e sz []) (w' := w) (Γ1 := Γ) hg (fun _ _ h _ => h) (fun _ h => h) (fun b g' e => by cases e) (fun b e => by cases e) ⟨rfl, rfl, rfl, Nat.le_refl _, fun _ _ _ => rfl⟩
    (fun b eb => by cases eb) (by simp) rfl (fun K _ _ => .inl ⟨rfl, rfl, rfl, rfl⟩)
  exact ⟨ρ', hr⟩
theorem Pl.TE.nown {C : Cx} {L : Lo} {Γ : Ga} {R : Act → World → Prop} (g e sz : Nat) (hg : Γ g = none) (k : TE C R L (upd Γ g (.nrow (.slice none 0 0) 0 e sz []))) : TE C R L Γ := fun a w h => k a w (reps_nown g e sz hg h)
theorem Pl.TC.map {P : Program} {C : Cx} {L L' : Lo} {Γ Γ' : Ga} {Q : Exit → Act → World → Prop} {c : Code} (h : ∀ a w, Reps C L Γ a w → Reps C L' Γ' a w) (k : TC P C c Q L' Γ') : TC P C c Q L Γ := fun a w hr => k a w (h a w hr)
def zeroIt : It := ⟨zeroH, zeroH⟩
/-- The way to an index: the other sides' hashes, what is left at its end. -/
def mkG (ix : H) : Nat → Nat → List It → List H × List It
  | 0, _, l => ([], l)
  | f + 1, k, l => if l.length < 2 then ([], l) else
    if bitI ix (k : Int) = 1 then (belowH (f + 1) (k + 1) (l.filter (bit0 k)) :: (mkG ix f (k + 1) (l.filter (fun x => !bit0 k x))).1, (mkG ix f (k + 1) (l.filter (fun x => !bit0 k x))).2)
    else (belowH (f + 1) (k + 1) (l.filter (fun x => !bit0 k x)) :: (mkG ix f (k + 1) (l.filter (bit0 k))).1, (mkG ix f (k + 1) (l.filter (bit0 k))).2)
theorem mkG_end {ix : H} {l : List It} (h : l.length < 2) (f k : Nat) : mkG ix f k l = ([], l) := by
  cases f with
  | zero => rfl
  | succ f => rw [mkG, if_pos h]
theorem mkG_one {ix : H} {l : List It} (h : ¬ l.length < 2) {f k : Nat} (hb : bitI ix (k : Int) = 1) : mkG ix (f + 1) k l = (belowH (f + 1) (k + 1) (l.filter (bit0 k)) :: (mkG ix f (k + 1) (l.filter (fun x => !bit0 k x))).1, (mkG ix f (k + 1) (l.filter (fun x => !bit0 k x))).2) := by
  rw [mkG, if_neg h, if_pos hb]
theorem mkG_zero {ix : H} {l : List It} (h : ¬ l.length < 2) {f k : Nat} (hb : ¬ bitI ix (k : Int) = 1) : mkG ix (f + 1) k l = (belowH (f + 1) (k + 1) (l.filter (fun x => !bit0 k x)) :: (mkG ix f (k + 1) (l.filter (bit0 k))).1, (mkG ix f (k + 1) (l.filter (bit0 k))).2) := by
  rw [mkG, if_neg h, if_neg hb]
/-- The proof of an index. -/
def mkP (ix : H) (l : List It) : Pf := match (mkG ix 256 0 l).2 with
  | [] => ⟨(mkG ix 256 0 l).1, 1, zeroIt⟩
  | x :: _ => if H.l x.ix = H.l ix then ⟨(mkG ix 256 0 l).1, 0, x⟩ else ⟨(mkG ix 256 0 l).1, 2, x⟩
theorem mkP_nil {ix : H} {l : List It} {path : List H} (h1 : path = (mkG ix 256 0 l).1) (h2 : [] = (mkG ix 256 0 l).2) : mkP ix l = ⟨path, 1, zeroIt⟩ := by unfold mkP; rw [← h1, ← h2]
theorem mkP_here {ix : H} {l : List It} {path : List H} {x : It} (h1 : path = (mkG ix 256 0 l).1) (h2 : [x] = (mkG ix 256 0 l).2) (he : H.l x.ix = H.l ix) : mkP ix l = ⟨path, 0, x⟩ := by unfold mkP; rw [← h1, ← h2]; simp only [if_pos he]
theorem mkP_other {ix : H} {l : List It} {path : List H} {x : It} (h1 : path = (mkG ix 256 0 l).1) (h2 : [x] = (mkG ix 256 0 l).2) (he : ¬ H.l x.ix = H.l ix) : mkP ix l = ⟨path, 2, x⟩ := by unfold mkP; rw [← h1, ← h2]; simp only [if_neg he]
/-- What a walk to an index knows at a place. -/
def mkI (ix : H) (l0 : List It) (k : Nat) (l : List It) (path : List H) : Prop := k ≤ 256 ∧ okT (256 - k) k l ∧ l.length ≤ 1048576 ∧ path.length = k ∧ path ++ (mkG ix (256 - k) k l).1 = (mkG ix 256 0 l0).1 ∧ (mkG ix (256 - k) k l).2 = (mkG ix 256 0 l0).2
theorem mkI_zero {ix : H} {l : List It} (ho : okT 256 0 l) (hl : l.length ≤ 1048576) : mkI ix l 0 l [] := ⟨by omega, ho, hl, rfl, rfl, rfl⟩
theorem mkI_one {ix : H} {l0 l : List It} {k : Nat} {path : List H} (h : mkI ix l0 k l path) (h2 : ¬ l.length < 2) (hb : bitI ix (k : Int) = 1) : mkI ix l0 (k + 1) (l.filter (fun x => !bit0 k x)) (path ++ [belowH (256 - (k + 1) + 1) (k + 1) (l.filter (bit0 k))]) := by
  obtain ⟨h0, ho, hl, hp, e1, e2⟩ := h
  obtain ⟨g, eg, hk, hs, o1, o2⟩ := okT_two ho h2
  have eg' : g = 256 - (k + 1) := by omega
  rw [eg, mkG_one h2 hb] at e1 e2
  subst eg'
  refine ⟨by omega, o2, Nat.le_trans (List.length_filter_le _ _) hl, by rw [List.length_append, hp]; rfl, ?_, e2⟩
  rw [List.append_assoc]; exact e1
theorem mkI_other {ix : H} {l0 l : List It} {k : Nat} {path : List H} (h : mkI ix l0 k l path) (h2 : ¬ l.length < 2) (hb : ¬ bitI ix (k : Int) = 1) : mkI ix l0 (k + 1) (l.filter (bit0 k)) (path ++ [belowH (256 - (k + 1) + 1) (k + 1) (l.filter (fun x => !bit0 k x))]) := by
  obtain ⟨h0, ho, hl, hp, e1, e2⟩ := h
  obtain ⟨g, eg, hk, hs, o1, o2⟩ := okT_two ho h2
  have eg' : g = 256 - (k + 1) := by omega
  rw [eg, mkG_zero h2 hb] at e1 e2
  subst eg'
  refine ⟨by omega, o1, Nat.le_trans (List.length_filter_le _ _) hl, by rw [List.length_append, hp]; rfl, ?_, e2⟩
  rw [List.append_assoc]; exact e1
theorem mkI_parts {ix : H} {l0 l : List It} {k : Nat} {path : List H} (h : mkI ix l0 k l path) (h2 : ¬ l.length < 2) : k < 256 ∧ sided (fun x => !bit0 k x) l ∧ okT (256 - (k + 1)) (k + 1) (l.filter (bit0 k)) ∧ okT (256 - (k + 1)) (k + 1) (l.filter (fun x => !bit0 k x)) := by
  obtain ⟨h0, ho, hl, hp, e1, e2⟩ := h
  obtain ⟨g, eg, hk, hs, o1, o2⟩ := okT_two ho h2
  have eg' : g = 256 - (k + 1) := by omega
  subst eg'
  exact ⟨hk, hs, o1, o2⟩
theorem mkI_end {ix : H} {l0 l : List It} {k : Nat} {path : List H} (h : mkI ix l0 k l path) (h2 : l.length < 2) : path.length = k ∧ path = (mkG ix 256 0 l0).1 ∧ l = (mkG ix 256 0 l0).2 := by
  obtain ⟨h0, ho, hl, hp, e1, e2⟩ := h
  rw [mkG_end h2] at e1 e2
  exact ⟨hp, by rw [← e1]; simp, e2⟩
theorem h_flat (path : List H) (n : Nat) (h : path.length = n) : (path.flatMap hdv).length = n * 32 := by
  rw [flat_length (sz := 32) (fun x => by rw [show (hdv x).length = 32 from rfl]), h]
theorem h_one (h : H) : (hdv h).all DV.one = true := flat_one (fun _ => rfl) _
def sameB (ix jx : H) (n : Nat) : Bool := (List.range n).all fun i => decide (bitI jx (i : Int) = bitI ix (i : Int))
theorem sameB_succ (ix jx : H) (n : Nat) : sameB ix jx (n + 1) = (sameB ix jx n && decide (bitI jx (n : Int) = bitI ix (n : Int))) := by
  unfold sameB; rw [List.range_succ, List.all_append]; simp
theorem sameB_false {ix jx : H} {n i : Nat} (h : i < n) (hb : ¬ bitI jx (i : Int) = bitI ix (i : Int)) : sameB ix jx n = false := by
  unfold sameB; rw [List.all_eq_false]; exact ⟨i, List.mem_range.2 h, by simpa using hb⟩
def rightF (ix : H) (p : Pf) : Bool := if 256 < p.path.length then false else if p.en = 0 then decide (H.l p.it.ix = H.l ix) else if p.en = 1 then decide (iB p.it = iB zeroIt) else if p.en = 2 then sameB ix p.it.ix p.path.length && decide (¬ H.l p.it.ix = H.l ix) else false
theorem rightF_long {ix : H} {p : Pf} (h : 256 < p.path.length) : rightF ix p = false := by unfold rightF; rw [if_pos h]
theorem rightF_here {ix : H} {p : Pf} (h : ¬ 256 < p.path.length) (h0 : p.en = 0) : rightF ix p = decide (H.l p.it.ix = H.l ix) := by unfold rightF; rw [if_neg h, if_pos h0]
theorem rightF_nobody {ix : H} {p : Pf} (h : ¬ 256 < p.path.length) (h1 : p.en = 1) : rightF ix p = decide (iB p.it = iB zeroIt) := by unfold rightF; rw [if_neg h, if_neg (by omega), if_pos h1]
theorem rightF_other {ix : H} {p : Pf} (h : ¬ 256 < p.path.length) (h2 : p.en = 2) : rightF ix p = (sameB ix p.it.ix p.path.length && decide (¬ H.l p.it.ix = H.l ix)) := by unfold rightF; rw [if_neg h, if_neg (by omega), if_neg (by omega), if_pos h2]
theorem rightF_none {ix : H} {p : Pf} (h : ¬ 256 < p.path.length) (h0 : ¬ p.en = 0) (h1 : ¬ p.en = 1) (h2 : ¬ p.en = 2) : rightF ix p = false := by unfold rightF; rw [if_neg h, if_neg h0, if_neg h1, if_neg h2]
theorem rightF_short {ix : H} {p : Pf} (h : rightF ix p = true) : p.path.length ≤ 256 := by
  by_cases q : 256 < p.path.length
  · rw [rightF_long q] at h; cases h
  · omega
/-- What a proof proves under a root. -/
def checkV (root ix : H) (p : Pf) : H × Bool × Bool := if rightF ix p = false then (zeroH, false, false) else if ¬ H.l (txH ix p p.path.length) = H.l root then (zeroH, false, false) else if p.en = 0 then (p.it.vl, true, true) else (zeroH, false, true)
theorem checkV_wrong {root ix : H} {p : Pf} (h : rightF ix p = false) : checkV root ix p = (zeroH, false, false) := by unfold checkV; rw [if_pos h]
theorem checkV_root {root ix : H} {p : Pf} (h : rightF ix p = true) (hr : ¬ H.l (txH ix p p.path.length) = H.l root) : checkV root ix p = (zeroH, false, false) := by unfold checkV; rw [if_neg (by rw [h]; simp), if_pos hr]
theorem checkV_here {root ix : H} {p : Pf} (h : rightF ix p = true) (hr : H.l (txH ix p p.path.length) = H.l root) (h0 : p.en = 0) : checkV root ix p = (p.it.vl, true, true) := by unfold checkV; rw [if_neg (by rw [h]; simp), if_neg (fun q => q hr), if_pos h0]
theorem checkV_no {root ix : H} {p : Pf} (h : rightF ix p = true) (hr : H.l (txH ix p p.path.length) = H.l root) (h0 : ¬ p.en = 0) : checkV root ix p = (zeroH, false, true) := by unfold checkV; rw [if_neg (by rw [h]; simp), if_neg (fun q => q hr), if_neg h0]
end Go.Proofs.YtdjcclcejmeheaaGreat

