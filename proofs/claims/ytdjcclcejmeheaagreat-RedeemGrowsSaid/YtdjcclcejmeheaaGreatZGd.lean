import Derived.Test.YtdjcclcejmeheaaGreatZHc
import Derived.Test.YtdjcclcejmeheaaGreatZFd
import Derived.Test.YtdjcclcejmeheaaGreatZGm
import Derived.Test.YtdjcclcejmeheaaGreatZBm
import Derived.Test.YtdjcclcejmeheaaGreatZGc
import Derived.Test.YtdjcclcejmeheaaGreatZEc
/-
  Proofs' bytes, and what bytes are read as: plain words.
-/
namespace Go.Proofs.YtdjcclcejmeheaaGreat
set_option linter.unusedVariables false
set_option linter.unusedSimpArgs false
open Go.RowKit Pl
/-- A proof's bytes up to a place of its way, and all of them. -/
def putK (p : Pf) (k : Nat) : List UInt8 := numB (p.path.length : Int) ++ (p.path.take k).flatMap H.l
def putB (p : Pf) : List UInt8 := [putK p p.path.length, numB (u64w p.en), H.l p.it.ix, H.l p.it.vl].flatten
theorem hl_flat : ∀ xs : List H, (xs.flatMap H.l).length = 32 * xs.length
  | [] => rfl
  | x :: r => by rw [List.flatMap_cons, List.length_append, H.l_len, hl_flat r, List.length_cons]; omega
theorem putK_len (p : Pf) {k : Nat} (h : k ≤ p.path.length) : (putK p k).length = 8 + 32 * k := by
  unfold putK
  rw [List.length_append, numB_len, hl_flat, List.length_take, Nat.min_eq_left h]
theorem putK_cells (p : Pf) {k : Nat} (h : k ≤ p.path.length) : ((putK p k).flatMap bdv).length = (8 + 32 * k) * 1 := by
  rw [flat_length (sz := 1) (fun _ => rfl), putK_len p h]
theorem putK_step (p : Pf) {k : Nat} (h : k < p.path.length) : (putK p k).flatMap bdv ++ hdv p.path[k] = (putK p (k + 1)).flatMap bdv := by
  unfold putK hdv
  rw [take_snoc' h]
  simp only [List.flatMap_append, List.flatMap_cons, List.flatMap_nil, List.append_nil, List.append_assoc]
theorem putB_len (p : Pf) : (putB p).length = 80 + 32 * p.path.length := by
  unfold putB
  simp only [List.flatten_cons, List.flatten_nil, List.length_append, List.length_nil]
  rw [putK_len p (Nat.le_refl _), numB_len, H.l_len, H.l_len]; omega
theorem putQ_cells (p : Pf) : ((putK p p.path.length ++ numB (u64w p.en)).flatMap bdv).length = (16 + 32 * p.path.length) * 1 := by
  rw [flat_length (sz := 1) (fun _ => rfl), List.length_append, putK_len p (Nat.le_refl _), numB_len]; omega
theorem putR_cells (p : Pf) : ((putK p p.path.length ++ numB (u64w p.en)).flatMap bdv ++ hdv p.it.ix).length = (16 + 32 * p.path.length + 32) * 1 := by
  rw [List.length_append, putQ_cells, h_len]; omega
theorem putB_app (p : Pf) : putK p p.path.length ++ numB (u64w p.en) ++ H.l p.it.ix ++ H.l p.it.vl = putB p := by
  unfold putB; simp
def stK (s : RS) : Nat → RS
  | 0 => s
  | k + 1 => rdS (stK s k) 32
def hsK (s : RS) : Nat → List H
  | 0 => []
  | k + 1 => hsK s k ++ [rdH (stK s k)]
theorem hsK_len (s : RS) : ∀ k, (hsK s k).length = k
  | 0 => rfl
  | k + 1 => by rw [hsK, List.length_append, hsK_len s k]; rfl
theorem stK_le (s : RS) : ∀ k, (stK s k).1.length ≤ s.1.length
  | 0 => Nat.le_refl _
  | k + 1 => Nat.le_trans (rdS_le _ _) (stK_le s k)
def zeroP : Pf := ⟨[], 0, zeroIt⟩
/-- What is left behind the way, behind the number, and behind each hash. -/
def tlS (s : RS) (n : Nat) : RS := rdS (rdS (rdS (stK s n) 8) 32) 32
/-- A proof's end out of what is left behind its way's hashes, the proof's number of steps known. -/
def readE (s : RS) (n : Nat) : Pf × Int :=
  if (tlS s n).2 = 0 then (if 2 < rdN (stK s n) ∨ 0 < (tlS s n).1.length then (zeroP, 20) else (⟨hsK s n, rdN (stK s n), ⟨rdH (rdS (stK s n) 8), rdH (rdS (rdS (stK s n) 8) 32)⟩⟩, 0)) else (zeroP, (tlS s n).2)
/-- What bytes are read as. -/
def readP (b : List UInt8) : Pf × Int :=
  if (rdS (b, 0) 8).2 = 0 then (if 256 < rdN (b, 0) then (zeroP, 22) else readE (rdS (b, 0) 8) (rdN (b, 0)).toNat) else (zeroP, (rdS (b, 0) 8).2)
theorem readE_bad {s : RS} {n : Nat} (h : ¬ (tlS s n).2 = 0) : readE s n = (zeroP, (tlS s n).2) := by unfold readE; rw [if_neg h]
theorem readE_form {s : RS} {n : Nat} (h : (tlS s n).2 = 0) (k : 2 < rdN (stK s n) ∨ 0 < (tlS s n).1.length) : readE s n = (zeroP, 20) := by unfold readE; rw [if_pos h, if_pos k]
theorem readE_ok {s : RS} {n : Nat} (h : (tlS s n).2 = 0) (k1 : ¬ 2 < rdN (stK s n)) (k2 : ¬ 0 < (tlS s n).1.length) : readE s n = (⟨hsK s n, rdN (stK s n), ⟨rdH (rdS (stK s n) 8), rdH (rdS (rdS (stK s n) 8) 32)⟩⟩, 0) := by unfold readE; rw [if_pos h, if_neg (by rintro (q | q); exact k1 q; exact k2 q)]
theorem readP_bad {b : List UInt8} (h : ¬ (rdS (b, 0) 8).2 = 0) : readP b = (zeroP, (rdS (b, 0) 8).2) := by unfold readP; rw [if_neg h]
theorem readP_long {b : List UInt8} (h : (rdS (b, 0) 8).2 = 0) (k : 256 < rdN (b, 0)) : readP b = (zeroP, 22) := by unfold readP; rw [if_pos h, if_pos k]
theorem readP_ok {b : List UInt8} (h : (rdS (b, 0) 8).2 = 0) (k : ¬ 256 < rdN (b, 0)) : readP b = readE (rdS (b, 0) 8) (rdN (b, 0)).toNat := by unfold readP; rw [if_pos h, if_neg k]
/-- A proof of zeros as it is made. -/
def zcell : List DV := .v (.slice none 0 0) :: .v (.int .i64 0) :: zeroIt.dv
theorem subL_refl : ∀ Xs : List DV, SubL Xs Xs := fun _ _ _ _ h => h
theorem zeroP_sub : SubL zcell (Pf.dv zeroP) := subL_cons (nil_sub _ _) (subL_refl _)
end Go.Proofs.YtdjcclcejmeheaaGreat
/-
  What papers keep a promise: plain values.
-/
namespace Go.Proofs.YtdjcclcejmeheaaGreat
set_option linter.unusedVariables false
set_option linter.unusedSimpArgs false
open Go.RowKit Pl
/-- Why a promise isn't kept, out of what was read. -/
def redeemG (y : Int) (p : Pm) (ea : Int) (h : Hd) (eb : Int) (x : Pf) (ec : Int) : Int :=
  if ¬ ea = 0 ∨ ¬ eb = 0 ∨ ¬ ec = 0 then 20 else if checkQ y p = false ∨ checkH y h = false then 25 else if p.dl < h.tk then 38
  else if (checkV h.root (indexH p.e.nm) x).2.2 = false ∨ (checkV h.root (indexH p.e.nm) x).2.1 = false ∨ ¬ H.l (checkV h.root (indexH p.e.nm) x).1 = H.l (valueH p.e.ver p.e.key) then 37 else 0
def redeemF (y : Int) (a b c : List UInt8) : Int := redeemG y (readQ intI a).1 (readQ intI a).2 (readH intI b).1 (readH intI b).2 (readP c).1 (readP c).2
section
variable {y : Int} {p : Pm} {ea : Int} {h : Hd} {eb : Int} {x : Pf} {ec : Int}
theorem redeemG_bytes (q : ¬ ea = 0 ∨ ¬ eb = 0 ∨ ¬ ec = 0) : redeemG y p ea h eb x ec = 20 := if_pos q
theorem redeemG_sig (a : ea = 0) (b : eb = 0) (c : ec = 0) (q : checkQ y p = false ∨ checkH y h = false) : redeemG y p ea h eb x ec = 25 := by
  unfold redeemG; rw [if_neg (by omega), if_pos q]
theorem redeemG_late (a : ea = 0) (b : eb = 0) (c : ec = 0) (k1 : checkQ y p = true) (k2 : checkH y h = true) (q : p.dl < h.tk) : redeemG y p ea h eb x ec = 38 := by
  unfold redeemG; rw [if_neg (by omega), if_neg (by rw [k1, k2]; simp), if_pos q]
theorem redeemG_proof (a : ea = 0) (b : eb = 0) (c : ec = 0) (k1 : checkQ y p = true) (k2 : checkH y h = true) (k3 : ¬ p.dl < h.tk) {v : H} {here okk : Bool} (hv : checkV h.root (indexH p.e.nm) x = (v, here, okk)) (q : okk = false ∨ here = false ∨ ¬ H.l v = H.l (valueH p.e.ver p.e.key)) : redeemG y p ea h eb x ec = 37 := by
  unfold redeemG; rw [if_neg (by omega), if_neg (by rw [k1, k2]; simp), if_neg k3, hv, if_pos q]
theorem redeemG_ok (a : ea = 0) (b : eb = 0) (c : ec = 0) (k1 : checkQ y p = true) (k2 : checkH y h = true) (k3 : ¬ p.dl < h.tk) {v : H} (hv : checkV h.root (indexH p.e.nm) x = (v, true, true)) (q : H.l v = H.l (valueH p.e.ver p.e.key)) : redeemG y p ea h eb x ec = 0 := by
  unfold redeemG; rw [if_neg (by omega), if_neg (by rw [k1, k2]; simp), if_neg k3, hv, if_neg (by simp [q])]
end
theorem checkQ_right {y : Int} {p : Pm} (h : checkQ y p = true) : rightQ p = true := by
  unfold checkQ at h; rw [Bool.and_eq_true] at h; exact h.1
end Go.Proofs.YtdjcclcejmeheaaGreat
/-
  Two proofs that say unlike things: the two texts that they tell, in plain words.
-/
namespace Go.Proofs.YtdjcclcejmeheaaGreat
set_option linter.unusedVariables false
set_option linter.unusedSimpArgs false
open Go.RowKit Pl
end Go.Proofs.YtdjcclcejmeheaaGreat
/-
  The proof of an index proves what the tree says of it: plain words.
-/
namespace Go.Proofs.YtdjcclcejmeheaaGreat
set_option linter.unusedVariables false
set_option linter.unusedSimpArgs false
open Go.RowKit Pl
/-- A way is climbed from its end. -/
def upH (ix : H) : Nat → List H → H → H
  | _, [], e => e
  | k, o :: r, e => sumH (stepT ix o (upH ix (k + 1) r e) k)
theorem txH_up {ix : H} {p : Pf} : ∀ m, m ≤ p.path.length → txH ix p m = upH ix (p.path.length - m) (p.path.drop (p.path.length - m)) (sumH (endT p))
  | 0, _ => by rw [Nat.sub_zero, List.drop_length]; rfl
  | m + 1, h => by
    have hj : p.path.length - 1 - m < p.path.length := by omega
    have e : p.path.length - (m + 1) = p.path.length - 1 - m := by omega
    rw [txH_step hj, txH_up m (by omega), e, List.drop_eq_getElem_cons hj, upH, show p.path.length - 1 - m + 1 = p.path.length - m by omega]
theorem txH_all (ix : H) (p : Pf) : txH ix p p.path.length = upH ix 0 p.path (sumH (endT p)) := by
  have := txH_up (ix := ix) (p := p) p.path.length (Nat.le_refl _)
  rwa [Nat.sub_self, List.drop_zero] at this
def endH : List It → H
  | [] => emptyH
  | x :: _ => leafH x
theorem mkG_up {ix : H} : ∀ (f k : Nat) (l : List It), okT f k l → upH ix k (mkG ix f k l).1 (endH (mkG ix f k l).2) = belowH (f + 1) k l
  | 0, k, l, h => by
    have h2 : l.length < 2 := h
    match l, h2 with
    | [], _ => rfl
    | [x], _ => rfl
  | f + 1, k, l, h => by
    by_cases h2 : l.length < 2
    · rw [mkG_end h2]
      match l, h2 with
      | [], _ => rfl
      | [x], _ => rfl
    · obtain ⟨g, eg, hk, hs, o1, o2⟩ := okT_two h h2
      obtain rfl : g = f := by omega
      rw [belowH_two h2]
      by_cases hb : bitI ix (k : Int) = 1
      · rw [mkG_one h2 hb]
        simp only [upH]
        rw [mkG_up g (k + 1) _ o2]
        unfold stepT
        rw [if_pos hb]; rfl
      · rw [mkG_zero h2 hb]
        simp only [upH]
        rw [mkG_up g (k + 1) _ o1]
        unfold stepT
        rw [if_neg hb]; rfl
/-- What a way's end holds: no more than one item, of those there, along the index; and the index's own, if it is there. -/
theorem mkG_mem {ix : H} : ∀ (f k : Nat) (l : List It), okT f k l → k + f ≤ 256 → (mkG ix f k l).2.length < 2 ∧ (mkG ix f k l).1.length ≤ f ∧ (∀ x ∈ (mkG ix f k l).2, x ∈ l ∧ ∀ j, k ≤ j → j < k + (mkG ix f k l).1.length → bitN x.ix j = bitN ix j) ∧ (∀ x ∈ l, x.ix = ix → x ∈ (mkG ix f k l).2)
  | 0, k, l, h, _ => ⟨h, Nat.le_refl _, fun x hx => ⟨hx, fun j h1 h2 => absurd (show j < k from h2) (by omega)⟩, fun x hx _ => hx⟩
  | f + 1, k, l, h, hk => by
    by_cases h2 : l.length < 2
    · rw [mkG_end h2]
      exact ⟨h2, Nat.zero_le _, fun x hx => ⟨hx, fun j h1 h2 => absurd (show j < k from h2) (by omega)⟩, fun x hx _ => hx⟩
    · obtain ⟨g, eg, hk', hs, o1, o2⟩ := okT_two h h2
      obtain rfl : g = f := by omega
      have hbn := bitI_nat ix hk'
      have hlt := bitN_lt ix k
      by_cases hb : bitI ix (k : Int) = 1
      · rw [mkG_one h2 hb]
        obtain ⟨q1, q2, q3, q4⟩ := mkG_mem (ix := ix) g (k + 1) _ o2 (by omega)
        refine ⟨q1, by simp only [List.length_cons]; omega, fun x hx => ?_, fun x hx he => q4 x (List.mem_filter.2 ⟨hx, ?_⟩) he⟩
        · obtain ⟨m1, m2⟩ := q3 x hx
          obtain ⟨m3, m4⟩ := List.mem_filter.1 m1
          refine ⟨m3, fun j h1 h2 => ?_⟩
          rcases Nat.lt_or_ge k j with h | h
          · exact m2 j h (by simp only [List.length_cons] at h2; omega)
          · obtain rfl : j = k := by omega
            have := bitN_lt x.ix j
            simp only [bit0, Bool.not_eq_true', beq_eq_false_iff_ne] at m4
            omega
        · subst he
          simp only [bit0, Bool.not_eq_true', beq_eq_false_iff_ne]; omega
      · rw [mkG_zero h2 hb]
        obtain ⟨q1, q2, q3, q4⟩ := mkG_mem (ix := ix) g (k + 1) _ o1 (by omega)
        refine ⟨q1, by simp only [List.length_cons]; omega, fun x hx => ?_, fun x hx he => q4 x (List.mem_filter.2 ⟨hx, ?_⟩) he⟩
        · obtain ⟨m1, m2⟩ := q3 x hx
          obtain ⟨m3, m4⟩ := List.mem_filter.1 m1
          refine ⟨m3, fun j h1 h2 => ?_⟩
          rcases Nat.lt_or_ge k j with h | h
          · exact m2 j h (by simp only [List.length_cons] at h2; omega)
          · obtain rfl : j = k := by omega
            simp only [bit0, beq_iff_eq] at m4
            omega
        · subst he
          simp only [bit0, beq_iff_eq]; omega
theorem sameB_of {ix jx : H} {n : Nat} (hn : n ≤ 256) (h : ∀ j, j < n → bitN jx j = bitN ix j) : sameB ix jx n = true := by
  unfold sameB
  rw [List.all_eq_true]
  intro j hj
  have hj := List.mem_range.1 hj
  rw [bitI_nat _ (by omega), bitI_nat _ (by omega), h j hj]
  simp
/-- What the proof of an index is. -/
theorem mkP_all {ix : H} {l : List It} (hs : Str l) : rightF ix (mkP ix l) = true ∧ txH ix (mkP ix l) (mkP ix l).path.length = belowH 257 0 l ∧ ((mkP ix l).en = 0 ↔ ∃ x ∈ l, x.ix = ix) ∧ (∀ x ∈ l, x.ix = ix → (mkP ix l).it = x) ∧ (mkP ix l).path.length ≤ 256 ∧ 0 ≤ (mkP ix l).en ∧ (mkP ix l).en ≤ 2 := by
  have hup := mkG_up (ix := ix) 256 0 l (okT_str hs)
  obtain ⟨q1, q2, q3, q4⟩ := mkG_mem (ix := ix) 256 0 l (okT_str hs) (Nat.le_refl _)
  have e1 : (mkG ix 256 0 l).1 = (mkG ix 256 0 l).1 := rfl
  generalize hp : (mkG ix 256 0 l).1 = path at *
  generalize hm : (mkG ix 256 0 l).2 = m at *
  match m, q1 with
  | [], _ =>
    rw [mkP_nil hp.symm hm.symm]
    refine ⟨?_, ?_, ?_, fun x hx he => absurd (q4 x hx he) (by simp), q2, by simp, by simp⟩
    · rw [rightF_nobody (by simp only; omega) rfl]; simp
    · rw [txH_all]; exact hup
    · exact ⟨fun h => by simp at h, fun ⟨x, hx, he⟩ => absurd (q4 x hx he) (by simp)⟩
  | [x], _ =>
    obtain ⟨hx, hbit⟩ := q3 x (by simp)
    by_cases he : H.l x.ix = H.l ix
    · rw [mkP_here hp.symm hm.symm he]
      refine ⟨?_, ?_, ?_, fun y hy e => (List.mem_singleton.1 (q4 y hy e)).symm, q2, by simp, by simp⟩
      · rw [rightF_here (by simp only; omega) rfl]; simpa using he
      · rw [txH_all]; exact hup
      · exact ⟨fun _ => ⟨x, hx, H.l_inj he⟩, fun _ => rfl⟩
    · rw [mkP_other hp.symm hm.symm he]
      refine ⟨?_, ?_, ?_, fun y hy e => (List.mem_singleton.1 (q4 y hy e)).symm, q2, by simp, by simp⟩
      · rw [rightF_other (by simp only; omega) rfl, sameB_of (by simp only; omega) (fun j hj => hbit j (Nat.zero_le _) (by simpa using hj))]
        simpa using he
      · rw [txH_all]; exact hup
      · refine ⟨fun h => by simp at h, fun ⟨y, hy, e⟩ => ?_⟩
        have := q4 y hy e
        simp only [List.mem_singleton] at this
        subst this; subst e
        exact absurd rfl he
/-- Whether an index is among items. -/
def thereB (ix : H) (l : List It) : Bool := l.any fun x => decide (H.l x.ix = H.l ix)
theorem thereB_iff {ix : H} {l : List It} : thereB ix l = true ↔ ∃ x ∈ l, x.ix = ix := by
  unfold thereB
  rw [List.any_eq_true]
  exact ⟨fun ⟨x, h, e⟩ => ⟨x, h, H.l_inj (of_decide_eq_true e)⟩, fun ⟨x, h, e⟩ => ⟨x, h, by rw [e]; simp⟩⟩
theorem there_set (ix : H) (l : List It) : (∃ x ∈ setR l [], x.ix = ix) ↔ ∃ x ∈ l, x.ix = ix := by
  have h := (setR_spec l []).2 (H.l ix)
  rw [List.append_nil] at h
  have key : ∀ m : List It, (∃ x ∈ m, x.ix = ix) ↔ cls (H.l ix) m ≠ [] := fun m => by
    constructor
    · rintro ⟨x, hx, rfl⟩ e
      have : x ∈ cls (H.l x.ix) m := List.mem_filter.2 ⟨hx, by simp⟩
      rw [e] at this; cases this
    · intro e
      cases hc : cls (H.l ix) m with
      | nil => exact absurd hc e
      | cons x r =>
        have : x ∈ cls (H.l ix) m := by rw [hc]; simp
        obtain ⟨h1, h2⟩ := List.mem_filter.1 this
        exact ⟨x, h1, H.l_inj (by simpa using h2)⟩
  rw [key, key, h]
  cases hc : cls (H.l ix) l with
  | nil => simp
  | cons x r =>
    simp only [List.reverse_cons, ne_eq, List.take_eq_nil_iff]
    simp
theorem check_made (ix : H) (l : List It) : checkV (rootH l) ix (mkP ix (setR l [])) = (if thereB ix l = true then ((mkP ix (setR l [])).it.vl, true, true) else (zeroH, false, true)) := by
  obtain ⟨h1, h2, h3, h4, _⟩ := mkP_all (ix := ix) (setR_str l [])
  have hr : H.l (txH ix (mkP ix (setR l [])) (mkP ix (setR l [])).path.length) = H.l (rootH l) := by rw [h2]; rfl
  by_cases e : thereB ix l = true
  · rw [if_pos e, checkV_here h1 hr (h3.2 ((there_set ix l).2 (thereB_iff.1 e)))]
  · rw [if_neg e, checkV_no h1 hr (fun h0 => e (thereB_iff.2 ((there_set ix l).1 (h3.1 h0))))]
theorem rightF_made (ix : H) (l : List It) : rightF ix (mkP ix (setR l [])) = true := (mkP_all (setR_str l [])).1
theorem mkP_short (ix : H) (l : List It) : (mkP ix (setR l [])).path.length ≤ 256 := (mkP_all (setR_str l [])).2.2.2.2.1
end Go.Proofs.YtdjcclcejmeheaaGreat
/-
  Proofs come back from their bytes, and from no shorter or longer ones: plain words.
-/
namespace Go.Proofs.YtdjcclcejmeheaaGreat
set_option linter.unusedVariables false
set_option linter.unusedSimpArgs false
open Go.RowKit Pl
theorem stK_app (path : List H) (t : List UInt8) : ∀ k, k ≤ path.length → stK (path.flatMap H.l ++ t, 0) k = ((path.drop k).flatMap H.l ++ t, 0) ∧ hsK (path.flatMap H.l ++ t, 0) k = path.take k
  | 0, _ => ⟨rfl, rfl⟩
  | k + 1, h => by
    obtain ⟨h1, h2⟩ := stK_app path t k (by omega)
    have hk : k < path.length := by omega
    rw [stK, hsK, h1, h2, List.drop_eq_getElem_cons hk, List.flatMap_cons, List.append_assoc, rdH_app, rdS_app _ _ (H.l_len _), take_snoc' hk]
    exact ⟨rfl, rfl⟩
theorem stK_path (path : List H) (t : List UInt8) : stK (path.flatMap H.l ++ t, 0) path.length = (t, 0) ∧ hsK (path.flatMap H.l ++ t, 0) path.length = path := by
  obtain ⟨h1, h2⟩ := stK_app path t path.length (Nat.le_refl _)
  rw [h1, h2, List.drop_length, List.take_length]
  exact ⟨rfl, rfl⟩
/-- A proof's bytes and more behind them. -/
theorem read_put (p : Pf) (t : List UInt8) (hl : p.path.length ≤ 256) (h0 : 0 ≤ p.en) (h2 : p.en ≤ 2) : readP (putB p ++ t) = if t = [] then (p, 0) else (zeroP, 20) := by
  have e : putB p ++ t = numB (p.path.length : Int) ++ (p.path.flatMap H.l ++ (numB (u64w p.en) ++ (H.l p.it.ix ++ (H.l p.it.vl ++ t)))) := by
    rw [← putB_app]; unfold putK; rw [List.take_length]; simp only [List.append_assoc]
  have hu : u64w p.en = p.en := by unfold u64w; omega
  rw [hu] at e
  have e1 : rdS (putB p ++ t, 0) 8 = (p.path.flatMap H.l ++ (numB p.en ++ (H.l p.it.ix ++ (H.l p.it.vl ++ t))), 0) := by rw [e]; exact rdS_app _ _ (numB_len _)
  have e2 : rdN (putB p ++ t, 0) = (p.path.length : Int) := by rw [e, rdN_app _ _ (numB_len _), leNum_numB _ (by omega) (by omega)]
  rw [readP_ok (by rw [e1]) (by rw [e2]; omega), e1, e2, Int.toNat_natCast]
  obtain ⟨k1, k2⟩ := stK_path p.path (numB p.en ++ (H.l p.it.ix ++ (H.l p.it.vl ++ t)))
  have en : rdN (numB p.en ++ (H.l p.it.ix ++ (H.l p.it.vl ++ t)), 0) = p.en := by rw [rdN_app _ _ (numB_len _), leNum_numB _ (by omega) (by omega)]
  have tl : tlS (p.path.flatMap H.l ++ (numB p.en ++ (H.l p.it.ix ++ (H.l p.it.vl ++ t))), 0) p.path.length = (t, 0) := by
    unfold tlS; rw [k1, rdS_app _ _ (numB_len _), rdS_app _ _ (H.l_len _), rdS_app _ _ (H.l_len _)]
  by_cases ht : t = []
  · rw [if_pos ht, readE_ok (by rw [tl]) (by rw [k1, en]; omega) (by rw [tl, ht]; simp), k1, k2, en, rdS_app _ _ (numB_len _), rdH_app, rdS_app _ _ (H.l_len _), rdH_app]
  · rw [if_neg ht, readE_form (by rw [tl]) (.inr (by rw [tl]; exact List.length_pos_iff.2 ht))]
end Go.Proofs.YtdjcclcejmeheaaGreat
/-
  The laws' indices and bent proofs: plain words.
-/
namespace Go.Proofs.YtdjcclcejmeheaaGreat
set_option linter.unusedVariables false
set_option linter.unusedSimpArgs false
open Go.RowKit Pl
def hB (h : H) (j : Nat) : UInt8 := if hk : j < 32 then h ⟨j, hk⟩ else 0
end Go.Proofs.YtdjcclcejmeheaaGreat
/-
  What is known of the least trees' proofs.
-/
namespace Go.Proofs.YtdjcclcejmeheaaGreat
set_option linter.unusedVariables false
set_option linter.unusedSimpArgs false
open Go.RowKit Pl
end Go.Proofs.YtdjcclcejmeheaaGreat
/-
  Proofs that come in; what the laws of proofs use besides.
-/
namespace Go.Proofs.YtdjcclcejmeheaaGreat
set_option linter.unusedVariables false
set_option linter.unusedSimpArgs false
set_option maxRecDepth 20000
open Go.RowKit Pl
end Go.Proofs.YtdjcclcejmeheaaGreat
/-
  What a set's own items' proofs prove.
-/
namespace Go.Proofs.YtdjcclcejmeheaaGreat
set_option linter.unusedVariables false
set_option linter.unusedSimpArgs false
open Go.RowKit Pl
theorem check_mine {X : List It} (hs : Str X) {x : It} (hx : x ∈ X) : checkV (rootH X) x.ix (mkP x.ix X) = (x.vl, true, true) := by
  obtain ⟨h1, h2, h3, h4, _⟩ := mkP_all (ix := x.ix) hs
  have e := check_made x.ix X
  rw [setR_self hs, if_pos (thereB_iff.2 ⟨x, hx, rfl⟩), h4 x hx rfl] at e
  exact e
end Go.Proofs.YtdjcclcejmeheaaGreat
/-
  Aggregates compared, in general; heads compared; what comes in as a head; what is known of a head; bent heads: the plain values.
-/
namespace Go.Proofs.YtdjcclcejmeheaaGreat
set_option linter.unusedVariables false
set_option linter.unusedSimpArgs false
open Go.RowKit Pl
set_option maxRecDepth 100000
section
variable {P : Program} {C : Cx} {L : Lo} {Γ : Ga} {d : Nat} {ty : TypeId} {pos : String} {af : Array Edge} {gd : Option (Nat × Bool)}
end
def hdFit (h : Hd) : Prop := (-9223372036854775808 ≤ h.ep ∧ h.ep < 9223372036854775808) ∧ (-9223372036854775808 ≤ h.tk ∧ h.tk < 9223372036854775808) ∧ (-9223372036854775808 ≤ h.ct ∧ h.ct < 9223372036854775808) ∧ h.ok
theorem right_fit {h : Hd} (r : rightH h = true) (ho : h.ok) : hdFit h := by
  unfold rightH at r; simp only [decide_eq_true_eq] at r
  exact ⟨by omega, by omega, by omega, ho⟩
theorem fit_sign {h : Hd} (x : Int) (f : hdFit h) : hdFit (signH x h) := ⟨f.1, f.2.1, f.2.2.1, signH_ok x h⟩
theorem check_own' {x : Int} (hx : u64I x) {h : Hd} (r : rightH h = true) : checkH (pubF x) (signH x h) = true := by
  have r' : rightH (signH x h) = true := r
  rw [checkH_yes r']
  have q := check_own (x % 2305843009213693950) (msgB h) (Int.emod_nonneg _ (by decide)) (Int.emod_lt_of_pos _ (by decide))
  rw [pub_mod] at q
  exact q
end Go.Proofs.YtdjcclcejmeheaaGreat

