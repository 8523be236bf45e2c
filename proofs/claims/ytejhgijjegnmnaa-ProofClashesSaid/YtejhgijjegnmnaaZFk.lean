/-
  Proofs come back from their bytes, and from no shorter or longer ones: plain words.
-/
import Derived.Test.YtejhgijjegnmnaaZFj
namespace Go.Proofs.Ytejhgijjegnmnaa
set_option linter.unusedVariables false
set_option linter.unusedSimpArgs false
open Go.RowKit Pl
theorem rdS_app (a b : List UInt8) {n : Nat} (h : a.length = n) : rdS (a ++ b, 0) n = (b, 0) := by
  subst h
  obtain ⟨_, h2, h3⟩ := rd_ok (l := a ++ b) (n := a.length) rfl (by simp)
  unfold rdS; simp only [h2, h3, List.drop_left']
theorem rdN_app (a b : List UInt8) (h : a.length = 8) : rdN (a ++ b, 0) = leNum a := by
  obtain ⟨h1, _, _⟩ := rd_ok (l := a ++ b) (n := 8) rfl (by simp; omega)
  unfold rdN; simp only [h1]; rw [List.take_left' h]
theorem rdH_app (x : H) (b : List UInt8) : rdH (H.l x ++ b, 0) = x := by
  obtain ⟨h1, _, _⟩ := rd_ok (l := H.l x ++ b) (n := 32) rfl (by simp [H.l_len])
  unfold rdH; simp only [h1]; rw [List.take_left' (H.l_len x), ofL_H]
theorem stK_app (path : List H) (t : List UInt8) : ∀ k, k ≤ path.length → stK (path.flatMap H.l ++ t, 0) k = ((path.drop k).flatMap H.l ++ t, 0) ∧ hsK (path.flatMap H.l ++ t, 0) k = path.take k
  | 0, _ => ⟨rfl, rfl⟩
  | k + 1, h => by
    obtain ⟨h1, h2⟩ := stK_app path t k (by omega)
    have hk : k < path.length := by omega
    rw [stK, hsK, h1, h2, List.drop_eq_getElem_cons hk, List.flatMap_cons, List.append_assoc, rdH_app, rdS_app _ _ (H.l_len _), take_snoc' hk]
    exact ⟨rfl, rfl⟩
theorem stK_path (path : List H) (t : List UInt8) : stK (path.flatMap H.l ++ t, 0) path.length = (t, 0) ∧ hsK (path.flatMap H.l ++ t, 0) path.length = path := by
  obtain ⟨h1, h2⟩ := stK_app path t path.length (Nat.le_refl _)
  rw [h1, h2, List.drop_length, List.take_length]
  exact ⟨rfl, rfl⟩
/-- A proof's bytes and more behind them. -/
theorem read_put (p : Pf) (t : List UInt8) (hl : p.path.length ≤ 256) (h0 : 0 ≤ p.en) (h2 : p.en ≤ 2) : readP (putB p ++ t) = if t = [] then (p, 0) else (zeroP, 20) := by
  have e : putB p ++ t = numB (p.path.length : Int) ++ (p.path.flatMap H.l ++ (numB (u64w p.en) ++ (H.l p.it.ix ++ (H.l p.it.vl ++ t)))) := by
    rw [← putB_app]; unfold putK; rw [List.take_length]; simp only [List.append_assoc]
  have hu : u64w p.en = p.en := by unfold u64w; omega
  rw [hu] at e
  have e1 : rdS (putB p ++ t, 0) 8 = (p.path.flatMap H.l ++ (numB p.en ++ (H.l p.it.ix ++ (H.l p.it.vl ++ t))), 0) := by rw [e]; exact rdS_app _ _ (numB_len _)
  have e2 : rdN (putB p ++ t, 0) = (p.path.length : Int) := by rw [e, rdN_app _ _ (numB_len _), leNum_numB _ (by omega) (by omega)]
  rw [readP_ok (by rw [e1]) (by rw [e2]; omega), e1, e2, Int.toNat_natCast]
  obtain ⟨k1, k2⟩ := stK_path p.path (numB p.en ++ (H.l p.it.ix ++ (H.l p.it.vl ++ t)))
  have en : rdN (numB p.en ++ (H.l p.it.ix ++ (H.l p.it.vl ++ t)), 0) = p.en := by rw [rdN_app _ _ (numB_len _), leNum_numB _ (by omega) (by omega)]
  have tl : tlS (p.path.flatMap H.l ++ (numB p.en ++ (H.l p.it.ix ++ (H.l p.it.vl ++ t))), 0) p.path.length = (t, 0) := by
    unfold tlS; rw [k1, rdS_app _ _ (numB_len _), rdS_app _ _ (H.l_len _), rdS_app _ _ (H.l_len _)]
  by_cases ht : t = []
  · rw [if_pos ht, readE_ok (by rw [tl]) (by rw [k1, en]; omega) (by rw [tl, ht]; simp), k1, k2, en, rdS_app _ _ (numB_len _), rdH_app, rdS_app _ _ (H.l_len _), rdH_app]
  · rw [if_neg ht, readE_form (by rw [tl]) (.inr (by rw [tl]; exact List.length_pos_iff.2 ht))]
theorem rdS_cut {l : List UInt8} {n : Nat} (h : l.length < n) : rdS (l, 0) n = ([], 21) := by
  obtain ⟨_, h2, h3⟩ := rd_short (l := l) (n := n) (x := 0) rfl (by omega)
  unfold rdS; simp only [h2, h3]
theorem rdS_drop {l : List UInt8} {n : Nat} (h : n ≤ l.length) : rdS (l, 0) n = (l.drop n, 0) := by
  obtain ⟨_, h2, h3⟩ := rd_ok (l := l) (n := n) (x := 0) rfl h
  unfold rdS; simp only [h2, h3]
theorem rdS_e21 (l : List UInt8) (n : Nat) : rdS (l, 21) n = (l, 21) := rdS_bad (s := (l, 21)) n (show ¬ (21 : Int) = 0 by decide)
theorem stK_drop (l : List UInt8) : ∀ k, stK (l, 0) k = if 32 * k ≤ l.length then (l.drop (32 * k), 0) else ([], 21)
  | 0 => by simp [stK]
  | k + 1 => by
    rw [stK, stK_drop l k]
    by_cases h : 32 * k ≤ l.length
    · rw [if_pos h]
      by_cases h2 : 32 * (k + 1) ≤ l.length
      · rw [if_pos h2, rdS_drop (by rw [List.length_drop]; omega), List.drop_drop]; congr 2
      · rw [if_neg h2, rdS_cut (by rw [List.length_drop]; omega)]
    · rw [if_neg h, if_neg (by omega), rdS_e21]
theorem tlS_cut {l : List UInt8} {n : Nat} (h : l.length < 32 * n + 72) : (tlS (l, 0) n).2 = 21 := by
  unfold tlS
  rw [stK_drop]
  by_cases h1 : 32 * n ≤ l.length
  · rw [if_pos h1]
    by_cases h2 : 32 * n + 8 ≤ l.length
    · rw [rdS_drop (by rw [List.length_drop]; omega), List.drop_drop]
      by_cases h3 : 32 * n + 40 ≤ l.length
      · rw [rdS_drop (by rw [List.length_drop]; omega), List.drop_drop, rdS_cut (by rw [List.length_drop]; omega)]
      · rw [rdS_cut (n := 32) (by rw [List.length_drop]; omega), rdS_e21]
    · rw [rdS_cut (n := 8) (by rw [List.length_drop]; omega), rdS_e21, rdS_e21]
  · rw [if_neg h1, rdS_e21, rdS_e21, rdS_e21]
/-- A proof's first bytes, fewer than all. -/
theorem read_cut (p : Pf) {m : Nat} (hl : p.path.length ≤ 256) (hm : m < (putB p).length) : readP ((putB p).take m) = (zeroP, 21) := by
  have hm' := hm
  rw [putB_len] at hm'
  have hlen : ((putB p).take m).length = m := by rw [List.length_take]; omega
  by_cases h8 : m < 8
  · have e : rdS ((putB p).take m, 0) 8 = ([], 21) := rdS_cut (by rw [hlen]; exact h8)
    rw [readP_bad (by rw [e]; decide), e]
  · have e : rdS ((putB p).take m, 0) 8 = (((putB p).take m).drop 8, 0) := rdS_drop (by rw [hlen]; omega)
    have e2 : rdN ((putB p).take m, 0) = (p.path.length : Int) := by
      obtain ⟨h1, _, _⟩ := rd_ok (l := (putB p).take m) (n := 8) (x := 0) rfl (by rw [hlen]; omega)
      unfold rdN
      simp only [h1]
      rw [List.take_take, Nat.min_eq_left (by omega), ← putB_app]
      unfold putK
      rw [List.append_assoc, List.append_assoc, List.append_assoc, List.take_left' (numB_len _), leNum_numB _ (by omega) (by omega)]
    rw [readP_ok (by rw [e]) (by rw [e2]; omega), e, e2, Int.toNat_natCast]
    have ht := tlS_cut (l := ((putB p).take m).drop 8) (n := p.path.length) (by rw [List.length_drop, hlen]; omega)
    rw [readE_bad (by rw [ht]; decide), ht]
theorem readE_len (s : RS) (n : Nat) : (readE s n).1.path.length ≤ n := by
  unfold readE
  split
  · split
    · exact Nat.zero_le _
    · exact Nat.le_of_eq (hsK_len _ _)
  · exact Nat.zero_le _
theorem readP_len (b : List UInt8) : (readP b).1.path.length ≤ 256 := by
  unfold readP
  have h0 := rdN_bd (b, 0)
  split
  · split
    · exact Nat.zero_le _
    · exact Nat.le_trans (readE_len _ _) (by omega)
  · exact Nat.zero_le _
end Go.Proofs.Ytejhgijjegnmnaa

