/-
  Two texts that two proofs tell differ and have one sum: plain words.
-/
import Derived.Test.YtejhgijjegnmnaaZFo
namespace Go.Proofs.Ytejhgijjegnmnaa
set_option linter.unusedVariables false
set_option linter.unusedSimpArgs false
open Go.RowKit Pl
def Pl.ixs (f : Nat) : List DV → List (Nat × DV)
  | [] => []
  | X :: r => (f, X) :: ixs (f + 1) r
theorem Pl.plN_at (sz : Nat) : ∀ (n k i : Nat), i < n → (plN sz k n)[i]? = some ((k + i) * sz, sz)
  | n + 1, k, 0, h => by simp [plN]
  | n + 1, k, i + 1, h => by
    rw [plN, List.getElem?_cons_succ, plN_at sz n (k + 1) i (by omega), show k + 1 + i = k + (i + 1) by omega]
/-- A literal whose every element is given. -/
theorem Pl.bld_full {α : Type} {enc : α → List DV} {fX : α → DV} {sz len : Nat} (he : ∀ x, (fX x).cells = enc x) (hl : ∀ x, (enc x).length = sz) (h1 : ∀ x, (enc x).all DV.one = true) : ∀ (xs : List α) (k : Nat) (pre rest : List DV), pre.length = k * sz → rest.length = xs.length * sz → k + xs.length = len → bldD (plN sz 0 len) (pre ++ rest) (ixs k (xs.map fX)) = some (pre ++ xs.flatMap enc)
  | [], k, pre, rest, hp, hr, hk => by
    have : rest = [] := List.eq_nil_of_length_eq_zero (by simpa using hr)
    subst this; rfl
  | x :: r, k, pre, rest, hp, hr, hk => by
    simp only [List.length_cons] at hr hk
    rw [Nat.succ_mul] at hr
    rw [List.map_cons, ixs, bldD, plN_at sz len 0 k (by omega)]
    simp only [he, hl, h1, Nat.zero_add, Bool.and_true]
    have c2 : Nat.ble (k * sz + sz) (pre ++ rest).length = true := by rw [Nat.ble_eq, List.length_append]; omega
    rw [c2, show Nat.beq sz sz = true from Nat.beq_refl sz]
    show bldD _ (splice (pre ++ rest) (k * sz) (enc x)) _ = _
    have es : splice (pre ++ rest) (k * sz) (enc x) = (pre ++ enc x) ++ rest.drop sz := by
      unfold splice
      have ed : pre.drop (k * sz + sz) = [] := List.drop_eq_nil_of_le (by omega)
      rw [hl, List.take_left' hp, List.drop_append, hp, ed, List.nil_append, Nat.add_sub_cancel_left]
    rw [es, bld_full he hl h1 r (k + 1) (pre ++ enc x) (rest.drop sz) (by rw [List.length_append, hp, hl, Nat.succ_mul]) (by rw [List.length_drop]; omega) (by omega), List.flatMap_cons, List.append_assoc]
theorem Pl.OT.buildslE {P : Program} {C : Cx} {L : Lo} {Γ : Ga} {d : Nat} {ty : TypeId} {pos : String} {af : Array Edge} {gd : Option (Nat × Bool)} {α : Type} {enc : α → List DV} {t e sz by_ len : Nat} {ps : List (Nat × Operand)} {zs : List Value} (xs : List α) (fX : α → DV) (g : Nat) (hn : Nat.blt d C.n = true) (hg : Γ g = none) (hx : evP L ps = some (ixs 0 (xs.map fX))) (ht : apt P t = some (e, sz, by_)) (hz : zc P e = some zs)
    (h1 : zs.all Value.oneCell' = true) (hsz : (Nat.blt 0 (len * sz) && Nat.ble (len * sz) 16777216) = true) (hlen : xs.length = len) (he : ∀ x, (fX x).cells = enc x) (hl : ∀ x, (enc x).length = sz) (h2 : ∀ x, (enc x).all DV.one = true) :
    OT P C ⟨some d, .buildSlice t len ps.toArray, ty, pos, af, gd⟩ L Γ (upd L d (.ow g len sz)) (upd Γ g (.row e sz (xs.flatMap enc))) := by
  have hzl : zs.length = sz := by
    obtain ⟨hu, i, z, hi, hzi, hsi, hby, hzs, h0⟩ := apt_parts ht
    unfold zc at hz; rw [hi] at hz; simp [hzi] at hz
    rw [← hz]; simpa using hzs
  have hb := bld_full (sz := sz) (len := len) he hl h2 xs 0 [] ((zrow zs len).map .v) (by simp) (by rw [List.length_map, zrow_len, hlen, hzl]) (by omega)
  exact OT.buildsl g hn hg hx ht hz h1 hsz (by simpa using hb)
theorem node_inj {a b c d : H} (h : textB 110 [H.l a, H.l b] = textB 110 [H.l c, H.l d]) : a = c ∧ b = d := by
  have e : ∀ x y : H, textB 110 [H.l x, H.l y] = byt 110 :: (numB 32 ++ (H.l x ++ (numB 32 ++ H.l y))) := fun x y => by
    unfold textB lumpB
    simp [H.l_len]
  rw [e, e] at h
  have h1 := List.append_cancel_left (List.cons.inj h).2
  have h2 := List.append_inj h1 (by rw [H.l_len, H.l_len])
  exact ⟨H.l_inj h2.1, H.l_inj (List.append_cancel_left h2.2)⟩
theorem stepT_inj {ix o h o' h' : H} {j : Nat} (e : stepT ix o h j = stepT ix o' h' j) : h = h' := by
  unfold stepT at e
  by_cases hb : bitI ix (j : Int) = 1
  · rw [if_pos hb, if_pos hb] at e; exact (node_inj e).2
  · rw [if_neg hb, if_neg hb] at e; exact (node_inj e).1
/-- A way's texts from its top. -/
def dnT (ix : H) : Nat → List H → List UInt8 → List (List UInt8)
  | _, [], E => [E]
  | k, o :: r, E => stepT ix o (upH ix (k + 1) r (sumH E)) k :: dnT ix (k + 1) r E
theorem txL_dn {ix : H} {p : Pf} : ∀ m, m ≤ p.path.length → (txL ix p m).reverse = dnT ix (p.path.length - m) (p.path.drop (p.path.length - m)) (endT p)
  | 0, _ => by rw [Nat.sub_zero, List.drop_length]; rfl
  | m + 1, h => by
    have hj : p.path.length - 1 - m < p.path.length := by omega
    have e : p.path.length - (m + 1) = p.path.length - 1 - m := by omega
    rw [txL_step hj, List.reverse_append, txL_dn m (by omega), e, List.drop_eq_getElem_cons hj, dnT, show p.path.length - 1 - m + 1 = p.path.length - m by omega, txH_up m (by omega)]
    rfl
theorem txR_dn (ix : H) (p : Pf) : txR ix p = dnT ix 0 p.path (endT p) := by
  have := txL_dn (ix := ix) (p := p) p.path.length (Nat.le_refl _)
  rwa [Nat.sub_self, List.drop_zero] at this
theorem dn_first {ix : H} {E1 E2 a b : List UInt8} : ∀ (r1 r2 : List H) (k : Nat), upH ix k r1 (sumH E1) = upH ix k r2 (sumH E2) → firstD (dnT ix k r1 E1) (dnT ix k r2 E2) = (a, b, true) → ¬ a = b ∧ sumH a = sumH b
  | [], [], k, hu, h => by
    unfold dnT firstD at h
    split at h
    · simp [firstD] at h
    · next ne => simp only [Prod.mk.injEq, and_true] at h; obtain ⟨rfl, rfl⟩ := h; exact ⟨ne, hu⟩
  | [], o :: r, k, hu, h => by
    unfold dnT firstD at h
    split at h
    · simp [firstD] at h
    · next ne => simp only [Prod.mk.injEq, and_true] at h; obtain ⟨rfl, rfl⟩ := h; exact ⟨ne, hu⟩
  | o :: r, [], k, hu, h => by
    unfold dnT firstD at h
    split at h
    · rw [firstD_nil] at h; simp at h
    · next ne => simp only [Prod.mk.injEq, and_true] at h; obtain ⟨rfl, rfl⟩ := h; exact ⟨ne, hu⟩
  | o :: r, o' :: r', k, hu, h => by
    unfold dnT firstD at h
    split at h
    · next e => exact dn_first r r' (k + 1) (stepT_inj e) h
    · next ne => simp only [Prod.mk.injEq, and_true] at h; obtain ⟨rfl, rfl⟩ := h; exact ⟨ne, hu⟩
/-- What two proofs that say unlike things tell. -/
theorem clash_tells {ix : H} {p q : Pf} (h : (clashF ix p q).2.2 = true) : ¬ (clashF ix p q).1 = (clashF ix p q).2.1 ∧ H.l (sumH (clashF ix p q).1) = H.l (sumH (clashF ix p q).2.1) := by
  by_cases hs : Stated ix p q
  · by_cases hT : H.l (txH ix p p.path.length) = H.l (txH ix q q.path.length)
    · have e := clash_go hs hT
      rw [e] at h ⊢
      rw [txR_dn, txR_dn] at h ⊢
      have hu := H.l_inj hT
      rw [txH_all, txH_all] at hu
      generalize hF : firstD (dnT ix 0 p.path (endT p)) (dnT ix 0 q.path (endT q)) = F at h ⊢
      obtain ⟨a, b, c⟩ := F
      simp only at h; subst h
      obtain ⟨h1, h2⟩ := dn_first _ _ _ hu hF
      exact ⟨h1, congrArg H.l h2⟩
    · rw [clash_root hT] at h; cases h
  · rw [clash_none hs] at h; cases h
/-- What is told is no longer than the texts are. -/
theorem firstD_len : ∀ (l m : List (List UInt8)), (∀ t ∈ l, t.length ≤ 549755813888) → (∀ t ∈ m, t.length ≤ 549755813888) → (firstD l m).1.length ≤ 549755813888 ∧ (firstD l m).2.1.length ≤ 549755813888
  | [], m, _, _ => by unfold firstD; simp
  | a :: r, [], _, _ => by unfold firstD; simp
  | a :: r, b :: s, h1, h2 => by
    unfold firstD
    split
    · exact firstD_len r s (fun t h => h1 t (by simp [h])) (fun t h => h2 t (by simp [h]))
    · exact ⟨h1 a (by simp), h2 b (by simp)⟩
theorem clash_len (ix : H) (p q : Pf) : (clashF ix p q).1.length ≤ 549755813888 ∧ (clashF ix p q).2.1.length ≤ 549755813888 := by
  by_cases hs : Stated ix p q
  · by_cases hT : H.l (txH ix p p.path.length) = H.l (txH ix q q.path.length)
    · rw [clash_go hs hT]
      exact firstD_len _ _ (fun t h => txR_text _ (Nat.le_refl _) t (List.mem_reverse.1 h)) (fun t h => txR_text _ (Nat.le_refl _) t (List.mem_reverse.1 h))
    · rw [clash_root hT]; simp
  · rw [clash_none hs]; simp
/-- A pair of proofs. -/
def ppdv (x : Pf × Pf) : List DV := x.1.dv ++ x.2.dv
theorem pf_one (p : Pf) : p.dv.all DV.one = true := by
  unfold Pf.dv
  rw [List.all_cons, List.all_cons]
  exact it_one p.it
theorem pp_one (y : Pf × Pf) : (ppdv y).all DV.one = true := by
  unfold ppdv; rw [List.all_append, pf_one, pf_one]; rfl
end Go.Proofs.Ytejhgijjegnmnaa

