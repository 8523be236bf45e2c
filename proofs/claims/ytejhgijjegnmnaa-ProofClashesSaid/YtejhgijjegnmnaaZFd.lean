/-
  Proofs: which one is made of items at an index; which may be; what they prove: the plain values.
-/
import Derived.Test.YtejhgijjegnmnaaZFa
import Derived.Test.YtejhgijjegnmnaaZFc
namespace Go.Proofs.Ytejhgijjegnmnaa
set_option linter.unusedVariables false
set_option linter.unusedSimpArgs false
open Go.RowKit Pl
theorem Pl.reps_nown {C : Cx} {L : Lo} {Γ : Ga} {a : Act} {w : World} (g e sz : Nat) (hg : Γ g = none) (h : Reps C L Γ a w) : Reps C L (upd Γ g (.nrow (.slice none 0 0) 0 e sz [])) a w := by
  obtain ⟨ρ, h⟩ := h
  obtain ⟨ρ', hr, _, _⟩ := h.gain (g := g) (ob := none) (ob' := none) (o' := .nrow (.slice none 0 0) 0 e sz []) (w' := w) (Γ1 := Γ) hg (fun _ _ h _ => h) (fun _ h => h) (fun b g' e => by cases e) (fun b e => by cases e) ⟨rfl, rfl, rfl, Nat.le_refl _, fun _ _ _ => rfl⟩
    (fun b eb => by cases eb) (by simp) rfl (fun K _ _ => .inl ⟨rfl, rfl, rfl, rfl⟩)
  exact ⟨ρ', hr⟩
theorem Pl.TE.nown {C : Cx} {L : Lo} {Γ : Ga} {R : Act → World → Prop} (g e sz : Nat) (hg : Γ g = none) (k : TE C R L (upd Γ g (.nrow (.slice none 0 0) 0 e sz []))) : TE C R L Γ := fun a w h => k a w (reps_nown g e sz hg h)
theorem Pl.TC.map {P : Program} {C : Cx} {L L' : Lo} {Γ Γ' : Ga} {Q : Exit → Act → World → Prop} {c : Code} (h : ∀ a w, Reps C L Γ a w → Reps C L' Γ' a w) (k : TC P C c Q L' Γ') : TC P C c Q L Γ := fun a w hr => k a w (h a w hr)
theorem Pl.OT.eqit {P : Program} {C : Cx} {L : Lo} {Γ : Ga} {d : Nat} {ty : TypeId} {pos : String} {af : Array Edge} {gd : Option (Nat × Bool)} {xt yt : TypeId} {x y : Operand} {a b : It} (h : a = b) (hn : Nat.blt d C.n = true) (hx : evd L x = some (.ag a.dv)) (hy : evd L y = some (.ag b.dv)) (ht : eqT P xt = some iks) :
    OT P C ⟨some d, .binOp .eql xt x y yt, ty, pos, af, gd⟩ L Γ (upd L d (.f (.v (.bool true)))) Γ := by
  have := OT.eqi (P := P) (C := C) (Γ := Γ) (ty := ty) (pos := pos) (af := af) (gd := gd) (xt := xt) (yt := yt) hn hx hy ht
  rwa [decide_eq_true (by rw [h])] at this
def zeroIt : It := ⟨zeroH, zeroH⟩
/-- The way to an index: the other sides' hashes, what is left at its end. -/
def mkG (ix : H) : Nat → Nat → List It → List H × List It
  | 0, _, l => ([], l)
  | f + 1, k, l => if l.length < 2 then ([], l) else
    if bitI ix (k : Int) = 1 then (belowH (f + 1) (k + 1) (l.filter (bit0 k)) :: (mkG ix f (k + 1) (l.filter (fun x => !bit0 k x))).1, (mkG ix f (k + 1) (l.filter (fun x => !bit0 k x))).2)
    else (belowH (f + 1) (k + 1) (l.filter (fun x => !bit0 k x)) :: (mkG ix f (k + 1) (l.filter (bit0 k))).1, (mkG ix f (k + 1) (l.filter (bit0 k))).2)
theorem mkG_end {ix : H} {l : List It} (h : l.length < 2) (f k : Nat) : mkG ix f k l = ([], l) := by
  cases f with
  | zero => rfl
  | succ f => rw [mkG, if_pos h]
theorem mkG_one {ix : H} {l : List It} (h : ¬ l.length < 2) {f k : Nat} (hb : bitI ix (k : Int) = 1) : mkG ix (f + 1) k l = (belowH (f + 1) (k + 1) (l.filter (bit0 k)) :: (mkG ix f (k + 1) (l.filter (fun x => !bit0 k x))).1, (mkG ix f (k + 1) (l.filter (fun x => !bit0 k x))).2) := by
  rw [mkG, if_neg h, if_pos hb]
theorem mkG_zero {ix : H} {l : List It} (h : ¬ l.length < 2) {f k : Nat} (hb : ¬ bitI ix (k : Int) = 1) : mkG ix (f + 1) k l = (belowH (f + 1) (k + 1) (l.filter (fun x => !bit0 k x)) :: (mkG ix f (k + 1) (l.filter (bit0 k))).1, (mkG ix f (k + 1) (l.filter (bit0 k))).2) := by
  rw [mkG, if_neg h, if_neg hb]
/-- The proof of an index. -/
def mkP (ix : H) (l : List It) : Pf := match (mkG ix 256 0 l).2 with
  | [] => ⟨(mkG ix 256 0 l).1, 1, zeroIt⟩
  | x :: _ => if H.l x.ix = H.l ix then ⟨(mkG ix 256 0 l).1, 0, x⟩ else ⟨(mkG ix 256 0 l).1, 2, x⟩
theorem mkP_nil {ix : H} {l : List It} {path : List H} (h1 : path = (mkG ix 256 0 l).1) (h2 : [] = (mkG ix 256 0 l).2) : mkP ix l = ⟨path, 1, zeroIt⟩ := by unfold mkP; rw [← h1, ← h2]
theorem mkP_here {ix : H} {l : List It} {path : List H} {x : It} (h1 : path = (mkG ix 256 0 l).1) (h2 : [x] = (mkG ix 256 0 l).2) (he : H.l x.ix = H.l ix) : mkP ix l = ⟨path, 0, x⟩ := by unfold mkP; rw [← h1, ← h2]; simp only [if_pos he]
theorem mkP_other {ix : H} {l : List It} {path : List H} {x : It} (h1 : path = (mkG ix 256 0 l).1) (h2 : [x] = (mkG ix 256 0 l).2) (he : ¬ H.l x.ix = H.l ix) : mkP ix l = ⟨path, 2, x⟩ := by unfold mkP; rw [← h1, ← h2]; simp only [if_neg he]
/-- What a walk to an index knows at a place. -/
def mkI (ix : H) (l0 : List It) (k : Nat) (l : List It) (path : List H) : Prop := k ≤ 256 ∧ okT (256 - k) k l ∧ l.length ≤ 1048576 ∧ path.length = k ∧ path ++ (mkG ix (256 - k) k l).1 = (mkG ix 256 0 l0).1 ∧ (mkG ix (256 - k) k l).2 = (mkG ix 256 0 l0).2
theorem mkI_zero {ix : H} {l : List It} (ho : okT 256 0 l) (hl : l.length ≤ 1048576) : mkI ix l 0 l [] := ⟨by omega, ho, hl, rfl, rfl, rfl⟩
theorem mkI_one {ix : H} {l0 l : List It} {k : Nat} {path : List H} (h : mkI ix l0 k l path) (h2 : ¬ l.length < 2) (hb : bitI ix (k : Int) = 1) : mkI ix l0 (k + 1) (l.filter (fun x => !bit0 k x)) (path ++ [belowH (256 - (k + 1) + 1) (k + 1) (l.filter (bit0 k))]) := by
  obtain ⟨h0, ho, hl, hp, e1, e2⟩ := h
  obtain ⟨g, eg, hk, hs, o1, o2⟩ := okT_two ho h2
  have eg' : g = 256 - (k + 1) := by omega
  rw [eg, mkG_one h2 hb] at e1 e2
  subst eg'
  refine ⟨by omega, o2, Nat.le_trans (List.length_filter_le _ _) hl, by rw [List.length_append, hp]; rfl, ?_, e2⟩
  rw [List.append_assoc]; exact e1
theorem mkI_other {ix : H} {l0 l : List It} {k : Nat} {path : List H} (h : mkI ix l0 k l path) (h2 : ¬ l.length < 2) (hb : ¬ bitI ix (k : Int) = 1) : mkI ix l0 (k + 1) (l.filter (bit0 k)) (path ++ [belowH (256 - (k + 1) + 1) (k + 1) (l.filter (fun x => !bit0 k x))]) := by
  obtain ⟨h0, ho, hl, hp, e1, e2⟩ := h
  obtain ⟨g, eg, hk, hs, o1, o2⟩ := okT_two ho h2
  have eg' : g = 256 - (k + 1) := by omega
  rw [eg, mkG_zero h2 hb] at e1 e2
  subst eg'
  refine ⟨by omega, o1, Nat.le_trans (List.length_filter_le _ _) hl, by rw [List.length_append, hp]; rfl, ?_, e2⟩
  rw [List.append_assoc]; exact e1
theorem mkI_parts {ix : H} {l0 l : List It} {k : Nat} {path : List H} (h : mkI ix l0 k l path) (h2 : ¬ l.length < 2) : k < 256 ∧ sided (fun x => !bit0 k x) l ∧ okT (256 - (k + 1)) (k + 1) (l.filter (bit0 k)) ∧ okT (256 - (k + 1)) (k + 1) (l.filter (fun x => !bit0 k x)) := by
  obtain ⟨h0, ho, hl, hp, e1, e2⟩ := h
  obtain ⟨g, eg, hk, hs, o1, o2⟩ := okT_two ho h2
  have eg' : g = 256 - (k + 1) := by omega
  subst eg'
  exact ⟨hk, hs, o1, o2⟩
theorem mkI_end {ix : H} {l0 l : List It} {k : Nat} {path : List H} (h : mkI ix l0 k l path) (h2 : l.length < 2) : path.length = k ∧ path = (mkG ix 256 0 l0).1 ∧ l = (mkG ix 256 0 l0).2 := by
  obtain ⟨h0, ho, hl, hp, e1, e2⟩ := h
  rw [mkG_end h2] at e1 e2
  exact ⟨hp, by rw [← e1]; simp, e2⟩
theorem h_flat (path : List H) (n : Nat) (h : path.length = n) : (path.flatMap hdv).length = n * 32 := by
  rw [flat_length (sz := 32) (fun x => by rw [show (hdv x).length = 32 from rfl]), h]
theorem h_one (h : H) : (hdv h).all DV.one = true := flat_one (fun _ => rfl) _
def sameB (ix jx : H) (n : Nat) : Bool := (List.range n).all fun i => decide (bitI jx (i : Int) = bitI ix (i : Int))
theorem sameB_succ (ix jx : H) (n : Nat) : sameB ix jx (n + 1) = (sameB ix jx n && decide (bitI jx (n : Int) = bitI ix (n : Int))) := by
  unfold sameB; rw [List.range_succ, List.all_append]; simp
theorem sameB_false {ix jx : H} {n i : Nat} (h : i < n) (hb : ¬ bitI jx (i : Int) = bitI ix (i : Int)) : sameB ix jx n = false := by
  unfold sameB; rw [List.all_eq_false]; exact ⟨i, List.mem_range.2 h, by simpa using hb⟩
def rightF (ix : H) (p : Pf) : Bool := if 256 < p.path.length then false else if p.en = 0 then decide (H.l p.it.ix = H.l ix) else if p.en = 1 then decide (iB p.it = iB zeroIt) else if p.en = 2 then sameB ix p.it.ix p.path.length && decide (¬ H.l p.it.ix = H.l ix) else false
theorem rightF_long {ix : H} {p : Pf} (h : 256 < p.path.length) : rightF ix p = false := by unfold rightF; rw [if_pos h]
theorem rightF_here {ix : H} {p : Pf} (h : ¬ 256 < p.path.length) (h0 : p.en = 0) : rightF ix p = decide (H.l p.it.ix = H.l ix) := by unfold rightF; rw [if_neg h, if_pos h0]
theorem rightF_nobody {ix : H} {p : Pf} (h : ¬ 256 < p.path.length) (h1 : p.en = 1) : rightF ix p = decide (iB p.it = iB zeroIt) := by unfold rightF; rw [if_neg h, if_neg (by omega), if_pos h1]
theorem rightF_other {ix : H} {p : Pf} (h : ¬ 256 < p.path.length) (h2 : p.en = 2) : rightF ix p = (sameB ix p.it.ix p.path.length && decide (¬ H.l p.it.ix = H.l ix)) := by unfold rightF; rw [if_neg h, if_neg (by omega), if_neg (by omega), if_pos h2]
theorem rightF_none {ix : H} {p : Pf} (h : ¬ 256 < p.path.length) (h0 : ¬ p.en = 0) (h1 : ¬ p.en = 1) (h2 : ¬ p.en = 2) : rightF ix p = false := by unfold rightF; rw [if_neg h, if_neg h0, if_neg h1, if_neg h2]
theorem rightF_short {ix : H} {p : Pf} (h : rightF ix p = true) : p.path.length ≤ 256 := by
  by_cases q : 256 < p.path.length
  · rw [rightF_long q] at h; cases h
  · omega
/-- What a proof proves under a root. -/
def checkV (root ix : H) (p : Pf) : H × Bool × Bool := if rightF ix p = false then (zeroH, false, false) else if ¬ H.l (txH ix p p.path.length) = H.l root then (zeroH, false, false) else if p.en = 0 then (p.it.vl, true, true) else (zeroH, false, true)
theorem checkV_wrong {root ix : H} {p : Pf} (h : rightF ix p = false) : checkV root ix p = (zeroH, false, false) := by unfold checkV; rw [if_pos h]
theorem checkV_root {root ix : H} {p : Pf} (h : rightF ix p = true) (hr : ¬ H.l (txH ix p p.path.length) = H.l root) : checkV root ix p = (zeroH, false, false) := by unfold checkV; rw [if_neg (by rw [h]; simp), if_pos hr]
theorem checkV_here {root ix : H} {p : Pf} (h : rightF ix p = true) (hr : H.l (txH ix p p.path.length) = H.l root) (h0 : p.en = 0) : checkV root ix p = (p.it.vl, true, true) := by unfold checkV; rw [if_neg (by rw [h]; simp), if_neg (fun q => q hr), if_pos h0]
theorem checkV_no {root ix : H} {p : Pf} (h : rightF ix p = true) (hr : H.l (txH ix p p.path.length) = H.l root) (h0 : ¬ p.en = 0) : checkV root ix p = (zeroH, false, true) := by unfold checkV; rw [if_neg (by rw [h]; simp), if_neg (fun q => q hr), if_neg h0]
theorem tx_head {ix : H} {p : Pf} : ∀ n, n ≤ p.path.length → ∃ E r, (txL ix p n).reverse = E :: r ∧ sumH E = txH ix p n ∧ E.length ≤ 549755813888
  | 0, _ => ⟨endT p, [], rfl, rfl, endT_len p⟩
  | k + 1, h => by
    have hj : p.path.length - 1 - k < p.path.length := by omega
    rw [txL_step hj, txH_step hj, List.reverse_append]
    exact ⟨_, _, rfl, rfl, stepT_len _ _ _ _⟩
end Go.Proofs.Ytejhgijjegnmnaa

