/-
  Searches in what is sorted find what the reference finds.
-/
import Derived.Test.YtkkgjmfnlabbdaaDs
namespace Go.Proofs.Ytkkgjmfnlabbdaa
set_option linter.unusedVariables false
set_option linter.unusedSimpArgs false
open Go.RowKit Pl

theorem bl_irrefl : ∀ a : List UInt8, Op.bytesLess a a = false
  | [] => rfl
  | x :: r => by simp [Op.bytesLess, bl_irrefl r]
theorem bl_trans : ∀ {a b c : List UInt8}, Op.bytesLess a b = true → Op.bytesLess b c = true → Op.bytesLess a c = true
  | [], [], c, h, _ => by simp [Op.bytesLess] at h
  | [], _ :: _, [], _, k => by simp [Op.bytesLess] at k
  | [], _ :: _, _ :: _, _, _ => by simp [Op.bytesLess]
  | _ :: _, [], _, h, _ => by simp [Op.bytesLess] at h
  | _ :: _, _ :: _, [], _, k => by simp [Op.bytesLess] at k
  | x :: a, y :: b, z :: c, h, k => by
    simp only [Op.bytesLess, Bool.or_eq_true, decide_eq_true_eq, Bool.and_eq_true, beq_iff_eq] at h k ⊢
    rcases h with h | ⟨rfl, h⟩ <;> rcases k with k | ⟨rfl, k⟩
    · exact .inl (UInt8.lt_trans h k)
    · exact .inl h
    · exact .inl k
    · exact .inr ⟨rfl, bl_trans h k⟩
theorem bl_tri : ∀ (a b : List UInt8), Op.bytesLess a b = true ∨ a = b ∨ Op.bytesLess b a = true
  | [], [] => .inr (.inl rfl)
  | [], _ :: _ => .inl (by simp [Op.bytesLess])
  | _ :: _, [] => .inr (.inr (by simp [Op.bytesLess]))
  | x :: a, y :: b => by
    simp only [Op.bytesLess, Bool.or_eq_true, decide_eq_true_eq, Bool.and_eq_true, beq_iff_eq, List.cons.injEq]
    have tri : x < y ∨ x = y ∨ y < x := by
      by_cases h : x = y
      · exact .inr (.inl h)
      · rcases UInt8.lt_or_lt_of_ne h with k | k
        · exact .inl k
        · exact .inr (.inr k)
    rcases tri with k | rfl | k
    · exact .inl (.inl k)
    · rcases bl_tri a b with h | h | h
      · exact .inl (.inr ⟨rfl, h⟩)
      · exact .inr (.inl ⟨rfl, h⟩)
      · exact .inr (.inr (.inr ⟨rfl, h⟩))
    · exact .inr (.inr (.inl k))
theorem bl_asym {a b : List UInt8} (h : Op.bytesLess a b = true) : Op.bytesLess b a = false := by
  cases k : Op.bytesLess b a with
  | false => rfl
  | true => rw [← bl_trans h k, bl_irrefl]
/-- A name and a version ahead of another. -/
def ltN (a : List UInt8) (v : Int) (b : List UInt8) (u : Int) : Prop := Op.bytesLess a b = true ∨ (a = b ∧ v < u)
theorem ltN_trans {a b c : List UInt8} {x y z : Int} (h : ltN a x b y) (k : ltN b y c z) : ltN a x c z := by
  rcases h with h | ⟨rfl, h⟩ <;> rcases k with k | ⟨rfl, k⟩
  · exact .inl (bl_trans h k)
  · exact .inl h
  · exact .inl k
  · exact .inr ⟨rfl, by omega⟩
theorem ltN_irrefl {a : List UInt8} {x : Int} (h : ltN a x a x) : False := by
  rcases h with h | ⟨_, h⟩
  · rw [bl_irrefl] at h; cases h
  · omega
def ltK (a b : Kn) : Prop := ltN a.nm a.ver b.nm b.ver
def Srt (l : List Kn) : Prop := l.Pairwise ltK
theorem Srt.get {l : List Kn} (h : Srt l) {i j : Nat} (hij : i < j) (hj : j < l.length) : ltK (l[i]'(by omega)) l[j] := List.pairwise_iff_getElem.1 h i j (by omega) hj hij
theorem ordF_neg (nm : List UInt8) (v : Int) (k : Kn) : ordF nm v k < 0 ↔ ltN k.nm k.ver nm v := by
  unfold ordF ltN orF cmpS
  by_cases h : Op.bytesLess k.nm nm = true
  · simp [h]
  · by_cases e : k.nm = nm
    · subst e
      rw [bl_irrefl]
      simp only [Bool.false_eq_true, if_false, if_true, false_or, true_and]
      unfold orF orF cmpI
      by_cases h1 : k.ver < v
      · simp [h1]
      · by_cases h2 : v < k.ver <;> simp [h1, h2]
    · simp [h, e]
theorem ordF_zero (nm : List UInt8) (v : Int) (k : Kn) : ordF nm v k = 0 ↔ k.nm = nm ∧ k.ver = v := by
  unfold ordF orF cmpS
  by_cases h : Op.bytesLess k.nm nm = true
  · have : k.nm ≠ nm := fun e => by rw [e, bl_irrefl] at h; cases h
    simp [h, this]
  · by_cases e : k.nm = nm
    · subst e
      rw [bl_irrefl]
      simp only [Bool.false_eq_true, if_false, if_true, true_and]
      unfold orF orF cmpI
      by_cases h1 : k.ver < v
      · simp [h1]; omega
      · by_cases h2 : v < k.ver
        · simp [h1, h2]; omega
        · simp [h1, h2]; omega
    · simp [h, e]
/-- All ahead of i are ahead of the wanted, none from i on. -/
def Cut (l : List Kn) (nm : List UInt8) (v : Int) (i : Nat) : Prop := i ≤ l.length ∧ (∀ k (hk : k < l.length), k < i → ltN l[k].nm l[k].ver nm v) ∧ ∀ k (hk : k < l.length), i ≤ k → ¬ ltN l[k].nm l[k].ver nm v
theorem bsGo_cut {l : List Kn} {nm : List UInt8} {v : Int} (hs : Srt l) : ∀ (f i j : Nat), i ≤ j → j ≤ l.length → j - i ≤ f → (∀ k (hk : k < l.length), k < i → ltN l[k].nm l[k].ver nm v) → (∀ k (hk : k < l.length), j ≤ k → ¬ ltN l[k].nm l[k].ver nm v) → Cut l nm v (bsGo l nm v f i j)
  | 0, i, j, hij, hj, hf, h1, h2 => by
    have : i = j := by omega
    subst this
    exact ⟨hj, h1, h2⟩
  | f + 1, i, j, hij, hj, hf, h1, h2 => by
    unfold bsGo
    split
    · rename_i hlt
      have hm : (i + j) / 2 < l.length := by omega
      rw [ordAt_get hm]
      split
      · rename_i hneg
        rw [ordF_neg] at hneg
        refine bsGo_cut hs f _ _ (by omega) hj (by omega) (fun k hk hki => ?_) h2
        by_cases e : k = (i + j) / 2
        · subst e; exact hneg
        · exact ltN_trans (hs.get (by omega) hm) hneg
      · rename_i hneg
        rw [ordF_neg] at hneg
        refine bsGo_cut hs f _ _ (by omega) (by omega) (by omega) h1 (fun k hk hki => ?_)
        by_cases e : k = (i + j) / 2
        · subst e; exact hneg
        · exact fun q => hneg (ltN_trans (hs.get (by omega) hk) q)
    · have : i = j := by omega
      subst this
      exact ⟨hj, h1, h2⟩
theorem bsI_cut {l : List Kn} (hs : Srt l) (nm : List UInt8) (v : Int) : Cut l nm v (bsI l nm v) := bsGo_cut hs _ _ _ (Nat.zero_le _) (Nat.le_refl _) (by omega) (fun k _ h => absurd h (Nat.not_lt_zero k)) (fun k hk h => by omega)
theorem not_lt_same {k : Kn} {nm : List UInt8} {v : Int} (h : k.nm = nm ∧ k.ver = v) : ¬ ltN k.nm k.ver nm v := fun q => by rw [h.1, h.2] at q; exact ltN_irrefl q
theorem findP_eq {l : List Kn} (hs : Srt l) (nm : List UInt8) (v : Int) : findP l nm v = findR l nm v := by
  obtain ⟨c1, c2, c3⟩ := bsI_cut hs nm v
  unfold findP placeB
  by_cases hr : bsI l nm v < l.length
  · rw [ordAt_get hr]
    by_cases he : l[bsI l nm v].nm = nm ∧ l[bsI l nm v].ver = v
    · rw [decide_eq_true hr, decide_eq_true ((ordF_zero _ _ _).2 he), List.getElem?_eq_getElem hr]
      simp only [Bool.and_self, if_true]
      exact (findR_at hr (fun j hj hjr hx => not_lt_same hx (c2 j hj hjr)) he).symm
    · rw [decide_eq_false (fun q => he ((ordF_zero _ _ _).1 q))]
      simp only [Bool.and_false, Bool.false_eq_true, if_false]
      refine (findR_none fun j hj hx => ?_).symm
      by_cases h1 : j < bsI l nm v
      · exact not_lt_same hx (c2 j hj h1)
      · by_cases h2 : j = bsI l nm v
        · subst h2; exact he hx
        · have := hs.get (i := bsI l nm v) (j := j) (by omega) hj
          unfold ltK at this
          rw [hx.1, hx.2] at this
          exact c3 _ hr (Nat.le_refl _) this
  · rw [decide_eq_false hr]
    simp only [Bool.false_and, Bool.false_eq_true, if_false]
    exact (findR_none fun j hj hx => not_lt_same hx (c2 j hj (by omega))).symm
/-! The latest of a name. -/
theorem latR_ok (l : List Kn) (nm : List UInt8) (m : Nat) (hm : m ≤ l.length) :
    ((latR (l.take m) nm).2 = false → (latR (l.take m) nm).1 = zeroK ∧ ∀ j (hj : j < l.length), j < m → l[j].nm ≠ nm) ∧
    ((latR (l.take m) nm).2 = true → ∃ i, ∃ (hi : i < l.length), (latR (l.take m) nm).1 = l[i] ∧ l[i].nm = nm ∧ ∀ j (hj : j < l.length), j < m → l[j].nm = nm → l[j].ver ≤ l[i].ver) := by
  induction m with
  | zero => exact ⟨fun _ => ⟨rfl, fun j _ h => absurd h (Nat.not_lt_zero j)⟩, fun h => by simp [latR] at h⟩
  | succ m ih =>
    have hlt : m < l.length := hm
    obtain ⟨h1, h2⟩ := ih (by omega)
    rw [latR_snoc hlt]
    generalize latR (l.take m) nm = q at *
    obtain ⟨q, ok⟩ := q
    simp only at h1 h2
    unfold latStep
    by_cases hn : l[m].nm = nm
    · cases ok with
      | false =>
        obtain ⟨e, h1⟩ := h1 rfl
        rw [if_pos ⟨hn, .inl rfl⟩]
        refine ⟨fun h => by simp at h, fun _ => ⟨m, hlt, rfl, hn, fun j hj hjm hx => ?_⟩⟩
        by_cases e : j = m
        · subst e; omega
        · exact absurd hx (h1 j hj (by omega))
      | true =>
        obtain ⟨i, hi, e, hin, hmax⟩ := h2 rfl
        by_cases hv : q.ver < l[m].ver
        · rw [if_pos ⟨hn, .inr hv⟩]
          refine ⟨fun h => by simp at h, fun _ => ⟨m, hlt, rfl, hn, fun j hj hjm hx => ?_⟩⟩
          by_cases ee : j = m
          · subst ee; omega
          · have := hmax j hj (by omega) hx; rw [e] at hv; omega
        · rw [if_neg (fun x => x.2.elim (fun h => by simp at h) hv)]
          refine ⟨fun h => by simp at h, fun _ => ⟨i, hi, e, hin, fun j hj hjm hx => ?_⟩⟩
          by_cases ee : j = m
          · subst ee; rw [e] at hv; omega
          · exact hmax j hj (by omega) hx
    · rw [if_neg (fun x => hn x.1)]
      refine ⟨fun h => ?_, fun h => ?_⟩
      · obtain ⟨e, h1⟩ := h1 h
        refine ⟨e, fun j hj hjm hx => ?_⟩
        by_cases ee : j = m
        · subst ee; exact hn hx
        · exact h1 j hj (by omega) hx
      · obtain ⟨i, hi, e, hin, hmax⟩ := h2 h
        refine ⟨i, hi, e, hin, fun j hj hjm hx => ?_⟩
        by_cases ee : j = m
        · subst ee; exact absurd hx hn
        · exact hmax j hj (by omega) hx
theorem latR_none {l : List Kn} {nm : List UInt8} (h : ∀ j (hj : j < l.length), l[j].nm ≠ nm) : latR l nm = (zeroK, false) := by
  have h0 := latR_ok l nm l.length (Nat.le_refl _)
  rw [List.take_length] at h0
  cases hb : (latR l nm).2 with
  | false => exact Prod.ext (h0.1 hb).1 hb
  | true =>
    obtain ⟨i, hi, _, hn, _⟩ := h0.2 hb
    exact absurd hn (h i hi)
theorem latR_some {l : List Kn} {nm : List UInt8} {j : Nat} (hj : j < l.length) (hn : l[j].nm = nm) : ∃ i, ∃ (hi : i < l.length), latR l nm = (l[i], true) ∧ l[i].nm = nm ∧ ∀ j (hj : j < l.length), l[j].nm = nm → l[j].ver ≤ l[i].ver := by
  have h0 := latR_ok l nm l.length (Nat.le_refl _)
  rw [List.take_length] at h0
  cases hb : (latR l nm).2 with
  | false => exact absurd hn ((h0.1 hb).2 j hj hj)
  | true =>
    obtain ⟨i, hi, e, hn', hmax⟩ := h0.2 hb
    exact ⟨i, hi, Prod.ext e hb, hn', fun j hj hx => hmax j hj hj hx⟩
theorem latP_eq {l : List Kn} (hs : Srt l) (hv : ∀ k ∈ l, k.ver < 1073741825) (nm : List UInt8) : latP l nm = latR l nm := by
  obtain ⟨c1, c2, c3⟩ := bsI_cut hs nm 1073741825
  have hmine : ∀ j (hj : j < l.length), l[j].nm = nm → j < bsI l nm 1073741825 := fun j hj hn => by
    by_cases h : j < bsI l nm 1073741825
    · exact h
    · exact absurd (.inr ⟨hn, hv _ (List.getElem_mem hj)⟩) (c3 j hj (by omega))
  unfold latP
  by_cases hz : bsI l nm 1073741825 = 0
  · rw [latR_none (fun j hj hn => by have := hmine j hj hn; omega)]
    split <;> simp [hz]
  · have hi : bsI l nm 1073741825 - 1 < l.length := by omega
    rw [List.getElem?_eq_getElem hi]
    simp only [if_neg hz]
    split
    · rename_i hn
      obtain ⟨i, hil, e, hin, hmax⟩ := latR_some hi hn
      rw [e]
      have h1 := hmine i hil hin
      by_cases hc : i = bsI l nm 1073741825 - 1
      · subst hc; rfl
      · have := hs.get (i := i) (j := bsI l nm 1073741825 - 1) (by omega) hi
        rcases this with q | ⟨_, q⟩
        · rw [hin, hn, bl_irrefl] at q; cases q
        · have := hmax _ hi hn; omega
    · rename_i hn
      refine (latR_none fun j hj hx => ?_).symm
      have h1 := hmine j hj hx
      have h2 : j ≠ bsI l nm 1073741825 - 1 := fun e => by subst e; exact hn hx
      have h3 := hs.get (i := j) (j := bsI l nm 1073741825 - 1) (by omega) hi
      have h4 := c2 _ hi (by omega)
      rcases h3 with q | ⟨q, _⟩
      · rcases h4 with r | ⟨r, _⟩
        · rw [hx] at q; rw [bl_asym q] at r; cases r
        · exact hn r
      · exact hn (q ▸ hx)
theorem nextP_eq {l : List Kn} (hs : Srt l) (hv : ∀ k ∈ l, k.ver < 1073741825) (w : List Pe) (nm : List UInt8) : nextP l w nm = nextR l w nm := by unfold nextP nextR; rw [latP_eq hs hv]
theorem decideP_eq {l : List Kn} (hs : Srt l) (hv : ∀ k ∈ l, k.ver < 1073741825) (w : List Pe) (u : Up) : decideP l w u = decideR l w u := by
  unfold decideP decideR decideG
  rw [findP_eq hs, nextP_eq hs hv]
end Go.Proofs.Ytkkgjmfnlabbdaa
