import Derived.Test.YtdjcclcejmeheaaGreatZKh
/-
  A log in a longer one: climbing with two numbers, and the way down, tell the same.
-/
namespace Go.Proofs.YtdjcclcejmeheaaGreat
set_option linter.unusedVariables false
set_option linter.unusedSimpArgs false
open Go.RowKit Pl
abbrev GS := Nat × Nat × H × H
def strO : Nat → Nat → Nat → Nat × Nat
  | 0, f, s => (f, s)
  | n + 1, f, s => if f % 2 = 1 then strO n (f / 2) (s / 2) else (f, s)
def strE : Nat → Nat → Nat → Nat × Nat
  | 0, f, s => (f, s)
  | n + 1, f, s => if f % 2 = 0 ∧ 0 < f then strE n (f / 2) (s / 2) else (f, s)
theorem strO_fuel : ∀ (n m f s : Nat), f ≤ n → f ≤ m → strO n f s = strO m f s
  | 0, 0, _, _, _, _ => rfl
  | 0, m + 1, f, s, h, _ => by unfold strO; rw [if_neg (by omega)]
  | n + 1, 0, f, s, _, h => by unfold strO; rw [if_neg (by omega)]
  | n + 1, m + 1, f, s, h1, h2 => by
    unfold strO
    by_cases h : f % 2 = 1
    · rw [if_pos h, if_pos h, strO_fuel n m (f / 2) (s / 2) (by omega) (by omega)]
    · rw [if_neg h, if_neg h]
theorem strE_fuel : ∀ (n m f s : Nat), f ≤ n → f ≤ m → strE n f s = strE m f s
  | 0, 0, _, _, _, _ => rfl
  | 0, m + 1, f, s, h, _ => by unfold strE; rw [if_neg (by omega)]
  | n + 1, 0, f, s, _, h => by unfold strE; rw [if_neg (by omega)]
  | n + 1, m + 1, f, s, h1, h2 => by
    unfold strE
    by_cases h : f % 2 = 0 ∧ 0 < f
    · rw [if_pos h, if_pos h, strE_fuel n m (f / 2) (s / 2) (by omega) (by omega)]
    · rw [if_neg h, if_neg h]
/-- Both numbers shifted while the first one is odd; while it is even and not nothing. -/
def odds (f s : Nat) : Nat × Nat := strO f f s
def evens (f s : Nat) : Nat × Nat := strE f f s
theorem odds_yes {f s : Nat} (h : f % 2 = 1) : odds f s = odds (f / 2) (s / 2) := by
  unfold odds
  rw [strO_fuel f (f + 1) f s (Nat.le_refl _) (by omega), strO, if_pos h, strO_fuel f (f / 2) (f / 2) (s / 2) (by omega) (Nat.le_refl _)]
theorem odds_no {f s : Nat} (h : ¬ f % 2 = 1) : odds f s = (f, s) := by
  unfold odds
  rw [strO_fuel f (f + 1) f s (Nat.le_refl _) (by omega), strO, if_neg h]
theorem evens_yes {f s : Nat} (h : f % 2 = 0 ∧ 0 < f) : evens f s = evens (f / 2) (s / 2) := by
  unfold evens
  rw [strE_fuel f (f + 1) f s (Nat.le_refl _) (by omega), strE, if_pos h, strE_fuel f (f / 2) (f / 2) (s / 2) (by omega) (Nat.le_refl _)]
theorem evens_no {f s : Nat} (h : ¬ (f % 2 = 0 ∧ 0 < f)) : evens f s = (f, s) := by
  unfold evens
  rw [strE_fuel f (f + 1) f s (Nat.le_refl _) (by omega), strE, if_neg h]
def gStep (c : H) (t : GS) : Option GS := if t.2.1 = 0 then none else if t.1 % 2 = 1 ∨ t.1 = t.2.1 then some ((evens t.1 t.2.1).1 / 2, (evens t.1 t.2.1).2 / 2, lnode c t.2.2.1, lnode c t.2.2.2) else some (t.1 / 2, t.2.1 / 2, t.2.2.1, lnode t.2.2.2 c)
def gRun : List H → GS → Option GS
  | [], t => some t
  | c :: r, t => (gStep c t).bind (gRun r)
theorem gRun_snoc (q : List H) (c : H) : ∀ t, gRun (q ++ [c]) t = (gRun q t).bind (gStep c) := by
  induction q with
  | nil => intro t; show (gStep c t).bind some = gStep c t; cases gStep c t <;> rfl
  | cons e q ih =>
    intro t
    show (gStep e t).bind (gRun (q ++ [c])) = ((gStep e t).bind (gRun q)).bind (gStep c)
    cases gStep e t with
    | none => rfl
    | some u => exact ih u
def gRes (o : Option GS) : Option (H × H) := match o with
  | some t => if t.2.1 = 0 then some t.2.2 else none
  | none => none
theorem gStep_zero {c : H} {t : GS} (h : t.2.1 = 0) : gStep c t = none := if_pos h
theorem gRun_zero {q : List H} {t : GS} (h : t.2.1 = 0) (hq : q ≠ []) : gRun q t = none := by
  cases q with
  | nil => exact absurd rfl hq
  | cons c r => show (gStep c t).bind _ = none; rw [gStep_zero h]; rfl
theorem gStep_odd {c : H} {t : GS} (h : ¬ t.2.1 = 0) (k : t.1 % 2 = 1) : gStep c t = some (t.1 / 2, t.2.1 / 2, lnode c t.2.2.1, lnode c t.2.2.2) := by
  unfold gStep; rw [if_neg h, if_pos (.inl k), evens_no (by omega)]
theorem gStep_even {c : H} {t : GS} (h : ¬ t.2.1 = 0) (k : ¬ t.1 % 2 = 1) (j : ¬ t.1 = t.2.1) : gStep c t = some (t.1 / 2, t.2.1 / 2, t.2.2.1, lnode t.2.2.2 c) := by
  unfold gStep; rw [if_neg h, if_neg (fun z => z.elim k j)]
theorem gStep_same {c : H} {t : GS} (h : ¬ t.2.1 = 0) (j : t.1 = t.2.1) : gStep c t = some ((evens t.1 t.2.1).1 / 2, (evens t.1 t.2.1).2 / 2, lnode c t.2.2.1, lnode c t.2.2.2) := by
  unfold gStep; rw [if_neg h, if_pos (.inr j)]
structure RelL (d : Nat) (t u : GS) : Prop where
  f : t.1 = u.1
  lt : t.1 < 2 ^ d
  lo : 2 ^ d ≤ t.2.1
  hi : t.2.1 < 2 * 2 ^ d
  s : u.2.1 = 2 ^ d - 1
  ab : t.2.2 = u.2.2
structure RelR (d : Nat) (t u : GS) : Prop where
  f : t.1 = 2 ^ d + u.1
  s : t.2.1 = 2 ^ d + u.2.1
  le : u.1 ≤ u.2.1
  lt : u.2.1 < 2 ^ d
  ab : t.2.2 = u.2.2
theorem relL_zero {t u : GS} (h : RelL 0 t u) (c : H) : gStep c t = some (0, 0, t.2.2.1, lnode t.2.2.2 c) ∧ u.2.1 = 0 := by
  obtain ⟨h1, h2, h3, h4, h5, h6⟩ := h
  have e0 : t.1 = 0 := by simpa using h2
  have e1 : t.2.1 = 1 := by simp only [Nat.pow_zero] at h3 h4; omega
  refine ⟨?_, by simpa using h5⟩
  rw [gStep_even (by omega) (by omega) (by omega), e0, e1]
theorem relL_succ {d : Nat} {t u : GS} (h : RelL (d + 1) t u) (c : H) : ∃ t1 u1, gStep c t = some t1 ∧ gStep c u = some u1 ∧ RelL d t1 u1 := by
  obtain ⟨h1, h2, h3, h4, h5, h6⟩ := h
  have hp := Nat.two_pow_pos d
  rw [Nat.pow_succ] at h2 h3 h4 h5
  by_cases k : t.1 % 2 = 1
  · refine ⟨_, _, gStep_odd (by omega) k, gStep_odd (by omega) (by rw [← h1]; exact k), ?_⟩
    exact ⟨by show t.1 / 2 = u.1 / 2; rw [h1], by show t.1 / 2 < _; omega, by show _ ≤ t.2.1 / 2; omega, by show t.2.1 / 2 < _; omega, by show u.2.1 / 2 = _; omega, by show (lnode c t.2.2.1, lnode c t.2.2.2) = (lnode c u.2.2.1, lnode c u.2.2.2); rw [h6]⟩
  · refine ⟨_, _, gStep_even (by omega) k (by omega), gStep_even (by omega) (by rw [← h1]; exact k) (by omega), ?_⟩
    exact ⟨by show t.1 / 2 = u.1 / 2; rw [h1], by show t.1 / 2 < _; omega, by show _ ≤ t.2.1 / 2; omega, by show t.2.1 / 2 < _; omega, by show u.2.1 / 2 = _; omega, by show (t.2.2.1, lnode t.2.2.2 c) = (u.2.2.1, lnode u.2.2.2 c); rw [h6]⟩
theorem gRes_some {t : GS} (h : ¬ t.2.1 = 0) : gRes (some t) = none := if_neg h
theorem gRes_done {t : GS} (h : t.2.1 = 0) : gRes (some t) = some t.2.2 := if_pos h
theorem run_left (c : H) : ∀ (q : List H) (d : Nat) (t u : GS), RelL d t u → gRes (gRun (q ++ [c]) t) = (gRes (gRun q u)).map (fun x => (x.1, lnode x.2 c))
  | [], 0, t, u, h => by
    obtain ⟨e1, e2⟩ := relL_zero h c
    show gRes ((gStep c t).bind some) = _
    rw [e1]
    show gRes (some (0, 0, t.2.2.1, lnode t.2.2.2 c)) = (gRes (some u)).map _
    rw [gRes_done rfl, gRes_done e2, ← h.ab]; rfl
  | [], d + 1, t, u, h => by
    have h5 := h.s
    obtain ⟨t1, u1, e1, e2, h1⟩ := relL_succ h c
    have hp := Nat.two_pow_pos d
    have hl := h1.lo
    show gRes ((gStep c t).bind some) = (gRes (some u)).map _
    rw [e1, gRes_some (t := u) (by rw [h5, Nat.pow_succ]; omega)]
    show gRes (some t1) = none
    exact gRes_some (by omega)
  | e :: q, 0, t, u, h => by
    obtain ⟨e1, e2⟩ := relL_zero h e
    show gRes ((gStep e t).bind (gRun (q ++ [c]))) = (gRes ((gStep e u).bind (gRun q))).map _
    rw [e1, gStep_zero e2]
    show gRes (gRun (q ++ [c]) (0, 0, t.2.2.1, lnode t.2.2.2 e)) = none
    rw [gRun_zero rfl (by simp)]; rfl
  | e :: q, d + 1, t, u, h => by
    obtain ⟨t1, u1, e1, e2, h1⟩ := relL_succ h e
    show gRes ((gStep e t).bind (gRun (q ++ [c]))) = (gRes ((gStep e u).bind (gRun q))).map _
    rw [e1, e2]
    exact run_left c q d t1 u1 h1
theorem evens_pow : ∀ d, evens (2 ^ d) (2 ^ d) = (1, 1)
  | 0 => by rw [evens_no (by simp)]
  | d + 1 => by
    have hp := Nat.two_pow_pos d
    rw [evens_yes ⟨by rw [Nat.pow_succ]; omega, Nat.two_pow_pos _⟩, show 2 ^ (d + 1) / 2 = 2 ^ d by rw [Nat.pow_succ]; omega]
    exact evens_pow d
theorem relR_zero {d : Nat} {t u : GS} (h : RelR d t u) (z : u.2.1 = 0) (c : H) : gStep c t = some (0, 0, lnode c t.2.2.1, lnode c t.2.2.2) := by
  obtain ⟨h1, h2, h3, h4, h5⟩ := h
  have hp := Nat.two_pow_pos d
  have e1 : t.1 = 2 ^ d := by omega
  have e2 : t.2.1 = 2 ^ d := by omega
  rw [gStep_same (by omega) (by omega), e1, e2, evens_pow]; rfl
/-- Both pairs' even ends are shifted alike. -/
theorem evens_both : ∀ (N d f s g r : Nat), g ≤ N → f = 2 ^ d + g → s = 2 ^ d + r → g ≤ r → r < 2 ^ d → 0 < g → ∃ e g1 r1, evens g r = (g1, r1) ∧ evens f s = (2 ^ (e + 1) + g1, 2 ^ (e + 1) + r1) ∧ g1 ≤ r1 ∧ r1 < 2 ^ (e + 1)
  | 0, d, f, s, g, r, h, _, _, _, _, h0 => absurd h0 (by omega)
  | N + 1, d, f, s, g, r, h, hf, hs, hgr, hr, h0 => by
    cases d with
    | zero => rw [Nat.pow_zero] at hr; omega
    | succ d =>
      have hp := Nat.two_pow_pos d
      rw [Nat.pow_succ] at hf hs hr
      by_cases k : g % 2 = 0
      · have kf : f % 2 = 0 ∧ 0 < f := ⟨by omega, by omega⟩
        obtain ⟨e, g1, r1, q1, q2, q3, q4⟩ := evens_both N d (f / 2) (s / 2) (g / 2) (r / 2) (by omega) (by omega) (by omega) (by omega) (by omega) (by omega)
        exact ⟨e, g1, r1, by rw [evens_yes ⟨k, h0⟩]; exact q1, by rw [evens_yes kf]; exact q2, q3, q4⟩
      · exact ⟨d, g, r, evens_no (by omega), by rw [evens_no (by omega), hf, hs, Nat.pow_succ], hgr, by rw [Nat.pow_succ]; omega⟩
theorem relR_step {d : Nat} {t u : GS} (h : RelR d t u) (z : ¬ u.2.1 = 0) (c : H) : ∃ e t1 u1, gStep c t = some t1 ∧ gStep c u = some u1 ∧ RelR e t1 u1 := by
  obtain ⟨h1, h2, h3, h4, h5⟩ := h
  cases d with
  | zero => rw [Nat.pow_zero] at h4; omega
  | succ d =>
    have hp := Nat.two_pow_pos d
    rw [Nat.pow_succ] at h1 h2 h4
    by_cases k : u.1 % 2 = 1
    · refine ⟨d, _, _, gStep_odd (by omega) (by omega), gStep_odd z k, ?_⟩
      exact ⟨by show t.1 / 2 = _ + u.1 / 2; omega, by show t.2.1 / 2 = _ + u.2.1 / 2; omega, by show u.1 / 2 ≤ u.2.1 / 2; omega, by show u.2.1 / 2 < _; omega, by show (lnode c t.2.2.1, lnode c t.2.2.2) = (lnode c u.2.2.1, lnode c u.2.2.2); rw [h5]⟩
    · by_cases j : u.1 = u.2.1
      · obtain ⟨e, g1, r1, q1, q2, q3, q4⟩ := evens_both u.1 (d + 1) t.1 t.2.1 u.1 u.2.1 (Nat.le_refl _) (by rw [Nat.pow_succ]; exact h1) (by rw [Nat.pow_succ]; exact h2) h3 (by rw [Nat.pow_succ]; exact h4) (by omega)
        have he := Nat.two_pow_pos e
        rw [Nat.pow_succ] at q2 q4
        refine ⟨e, _, _, gStep_same (by omega) (by omega), gStep_same z j, ?_⟩
        rw [q1, q2]
        exact ⟨by show (2 ^ e * 2 + g1) / 2 = _ + g1 / 2; omega, by show (2 ^ e * 2 + r1) / 2 = _ + r1 / 2; omega, by show g1 / 2 ≤ r1 / 2; omega, by show r1 / 2 < _; omega, by show (lnode c t.2.2.1, lnode c t.2.2.2) = (lnode c u.2.2.1, lnode c u.2.2.2); rw [h5]⟩
      · refine ⟨d, _, _, gStep_even (by omega) (by omega) (by omega), gStep_even z k j, ?_⟩
        exact ⟨by show t.1 / 2 = _ + u.1 / 2; omega, by show t.2.1 / 2 = _ + u.2.1 / 2; omega, by show u.1 / 2 ≤ u.2.1 / 2; omega, by show u.2.1 / 2 < _; omega, by show (t.2.2.1, lnode t.2.2.2 c) = (u.2.2.1, lnode u.2.2.2 c); rw [h5]⟩
theorem run_right (c : H) : ∀ (q : List H) (d : Nat) (t u : GS), RelR d t u → gRes (gRun (q ++ [c]) t) = (gRes (gRun q u)).map (fun x => (lnode c x.1, lnode c x.2)) := fun q => by
  induction q with
  | nil =>
    intro d t u h
    show gRes ((gStep c t).bind some) = (gRes (some u)).map _
    by_cases z : u.2.1 = 0
    · rw [relR_zero h z, gRes_done z, ← h.ab]; rfl
    · obtain ⟨e, t1, u1, e1, e2, h1⟩ := relR_step h z c
      have hp := Nat.two_pow_pos e
      have hs := h1.s
      rw [e1, gRes_some z]
      exact gRes_some (by omega)
  | cons e q ih =>
    intro d t u h
    show gRes ((gStep e t).bind (gRun (q ++ [c]))) = (gRes ((gStep e u).bind (gRun q))).map _
    by_cases z : u.2.1 = 0
    · rw [relR_zero h z, gStep_zero z]
      show gRes (gRun (q ++ [c]) (0, 0, _, _)) = none
      rw [gRun_zero rfl (by simp)]; rfl
    · obtain ⟨e', t1, u1, e1, e2, h1⟩ := relR_step h z e
      rw [e1, e2]
      exact ih e' t1 u1 h1
/-- Where the climbing begins. -/
def gAt (m n : Nat) (x : H) : GS := ((odds (m - 1) (n - 1)).1, (odds (m - 1) (n - 1)).2, x, x)
theorem odds_left : ∀ (d f s : Nat), f < 2 ^ d → 2 ^ d ≤ s → s < 2 * 2 ^ d → ∃ e, (odds f s).1 = (odds f (2 ^ d - 1)).1 ∧ (odds f s).1 < 2 ^ e ∧ 2 ^ e ≤ (odds f s).2 ∧ (odds f s).2 < 2 * 2 ^ e ∧ (odds f (2 ^ d - 1)).2 = 2 ^ e - 1
  | 0, f, s, h1, h2, h3 => ⟨0, by
    rw [odds_no (f := f) (by rw [Nat.pow_zero] at h1; omega), odds_no (f := f) (by rw [Nat.pow_zero] at h1; omega)]
    exact ⟨rfl, h1, h2, h3, rfl⟩⟩
  | d + 1, f, s, h1, h2, h3 => by
    by_cases k : f % 2 = 1
    · have hp := Nat.two_pow_pos d
      obtain ⟨e, q⟩ := odds_left d (f / 2) (s / 2) (by rw [Nat.pow_succ] at h1; omega) (by rw [Nat.pow_succ] at h2; omega) (by rw [Nat.pow_succ] at h3; omega)
      refine ⟨e, ?_⟩
      rw [odds_yes (s := s) k, odds_yes (s := 2 ^ (d + 1) - 1) k, show (2 ^ (d + 1) - 1) / 2 = 2 ^ d - 1 by rw [Nat.pow_succ]; omega]
      exact q
    · refine ⟨d + 1, ?_⟩
      rw [odds_no (s := s) k, odds_no (s := 2 ^ (d + 1) - 1) k]
      exact ⟨rfl, h1, h2, h3, rfl⟩
theorem odds_right : ∀ (d f s g r : Nat), f = 2 ^ d + g → s = 2 ^ d + r → g < r → r < 2 ^ d → ∃ e, (odds f s).1 = 2 ^ e + (odds g r).1 ∧ (odds f s).2 = 2 ^ e + (odds g r).2 ∧ (odds g r).1 ≤ (odds g r).2 ∧ (odds g r).2 < 2 ^ e
  | 0, f, s, g, r, _, _, h3, h4 => by rw [Nat.pow_zero] at h4; omega
  | d + 1, f, s, g, r, h1, h2, h3, h4 => by
    have hp := Nat.two_pow_pos d
    by_cases k : g % 2 = 1
    · obtain ⟨e, q⟩ := odds_right d (f / 2) (s / 2) (g / 2) (r / 2) (by rw [Nat.pow_succ] at h1; omega) (by rw [Nat.pow_succ] at h2; omega) (by omega) (by rw [Nat.pow_succ] at h4; omega)
      refine ⟨e, ?_⟩
      rw [odds_yes (f := f) (by rw [Nat.pow_succ] at h1; omega), odds_yes (f := g) k]
      exact q
    · refine ⟨d + 1, ?_⟩
      rw [odds_no (f := f) (by rw [Nat.pow_succ] at h1; omega), odds_no (f := g) k]
      exact ⟨h1, h2, Nat.le_of_lt h3, h4⟩
theorem at_left {m n d : Nat} (x : H) (h0 : 1 ≤ m) (h1 : m ≤ 2 ^ d) (h2 : 2 ^ d < n) (h3 : n ≤ 2 * 2 ^ d) : ∃ e, RelL e (gAt m n x) (gAt m (2 ^ d) x) := by
  obtain ⟨e, q1, q2, q3, q4, q5⟩ := odds_left d (m - 1) (n - 1) (by omega) (by omega) (by omega)
  exact ⟨e, q1, q2, q3, q4, q5, rfl⟩
theorem at_right {m n d : Nat} (x : H) (h1 : 2 ^ d < m) (h2 : m < n) (h3 : n ≤ 2 * 2 ^ d) : ∃ e, RelR e (gAt m n x) (gAt (m - 2 ^ d) (n - 2 ^ d) x) := by
  obtain ⟨e, q1, q2, q3, q4⟩ := odds_right d (m - 1) (n - 1) (m - 2 ^ d - 1) (n - 2 ^ d - 1) (by omega) (by omega) (by omega) (by omega)
  exact ⟨e, q1, q2, q3, q4, rfl⟩
theorem odds_all : ∀ d, odds (2 ^ d - 1) (2 ^ d - 1) = (0, 0)
  | 0 => by rw [odds_no (by simp)]
  | d + 1 => by
    have hp := Nat.two_pow_pos d
    rw [odds_yes (by rw [Nat.pow_succ]; omega), show (2 ^ (d + 1) - 1) / 2 = 2 ^ d - 1 by rw [Nat.pow_succ]; omega]
    exact odds_all d
/-- What a way down comes to, if it comes to anything. -/
def boR (v : H × H × Bool) : Option (H × H) := if v.2.2 = true then some (v.1, v.2.1) else none
theorem boR_map (v : H × H × Bool) (f g : H → H) : boR (f v.1, g v.2.1, v.2.2) = (boR v).map (fun x => (f x.1, g x.2)) := by
  obtain ⟨a, b, c⟩ := v
  cases c <;> rfl
theorem splitN_pow {n : Nat} (h : 2 ≤ n) : ∃ d, splitN n = 2 ^ d := ⟨(n - 1).log2, by unfold splitN; rw [if_neg (by omega)]⟩
theorem both_none {old : H} {m n : Nat} (h0 : 1 ≤ m) (h1 : m ≤ n) : boR (bothF old m n false []) = none := by
  by_cases h : m = n
  · subst h; rw [bothF_same h0]; rfl
  · rw [bothF_nil h0 (by omega) rfl]; rfl
theorem initD_snoc (q : List H) (c : H) : initD (q ++ [c]) = q := by unfold initD; simp
theorem lastD_snoc (q : List H) (c : H) : lastD (q ++ [c]) = c := by unfold lastD; simp
theorem both_left {old : H} {m n : Nat} {w : Bool} (q : List H) (c : H) (h0 : 1 ≤ m) (h : m < n) (k : m ≤ splitN n) : boR (bothF old m n w (q ++ [c])) = (boR (bothF old m (splitN n) w q)).map (fun x => (x.1, lnode x.2 c)) := by
  rw [bothF_left h0 h (by simp) k, initD_snoc, lastD_snoc]
  exact boR_map _ id (fun b => lnode b c)
theorem both_right {old : H} {m n : Nat} {w : Bool} (q : List H) (c : H) (h0 : 1 ≤ m) (h : m < n) (k : ¬ m ≤ splitN n) : boR (bothF old m n w (q ++ [c])) = (boR (bothF old (m - splitN n) (n - splitN n) false q)).map (fun x => (lnode c x.1, lnode c x.2)) := by
  rw [bothF_right h0 h (by simp) k, initD_snoc, lastD_snoc]
  exact boR_map _ (lnode c) (lnode c)
theorem snoc_of {α : Type} : ∀ (r : List α), r ≠ [] → ∃ q c, r = q ++ [c] := fun r h => ⟨r.dropLast, r.getLast h, (List.dropLast_concat_getLast h).symm⟩
/-- The way down tells what climbing tells. -/
theorem both_run (old : H) : ∀ (N m n : Nat) (x : H) (r : List H), n ≤ N → 1 ≤ m → m ≤ n → (m < n ∨ ∃ d, n = 2 ^ d) → boR (bothF old m n false (x :: r)) = gRes (gRun r (gAt m n x))
  | 0, m, n, _, _, h, h0, h1, _ => absurd h (by omega)
  | N + 1, m, n, x, r, h, h0, h1, hw => by
    by_cases e : m = n
    · subst e
      obtain ⟨d, hd⟩ : ∃ d, m = 2 ^ d := hw.elim (fun z => absurd z (Nat.lt_irrefl _)) id
      have ha : gAt m m x = (0, 0, x, x) := by unfold gAt; rw [hd, odds_all]
      rw [ha, bothF_same h0]
      cases r with
      | nil => rfl
      | cons c q =>
        rw [gRun_zero rfl (by simp)]
        rfl
    · have hlt : m < n := by omega
      obtain ⟨d, hd⟩ := splitN_pow (n := n) (by omega)
      have hs := splitN_two (n := n) (by omega)
      have hc : r = [] ∨ ∃ q c, r = q ++ [c] := (Classical.em (r = [])).imp id (snoc_of r)
      by_cases k : m ≤ splitN n
      · obtain ⟨z, hz⟩ := at_left (m := m) (n := n) (d := d) x h0 (by omega) (by omega) (by omega)
        rcases hc with rfl | ⟨q, c, rfl⟩
        · have e1 := both_left (old := old) (w := false) [] x h0 hlt k
          rw [List.nil_append, both_none h0 k] at e1
          rw [e1]
          have hp := Nat.two_pow_pos z
          have hl := hz.lo
          exact (gRes_some (t := gAt m n x) (by omega)).symm
        · have e1 := both_left (old := old) (w := false) (x :: q) c h0 hlt k
          rw [show x :: (q ++ [c]) = (x :: q) ++ [c] from rfl, e1, run_left c q z _ _ hz, both_run old N m (splitN n) x q (by omega) h0 k (.inr ⟨d, hd⟩), hd]
      · obtain ⟨z, hz⟩ := at_right (m := m) (n := n) (d := d) x (by omega) hlt (by omega)
        rcases hc with rfl | ⟨q, c, rfl⟩
        · have e1 := both_right (old := old) (w := false) [] x h0 hlt k
          rw [List.nil_append, both_none (by omega) (by omega)] at e1
          rw [e1]
          have hp := Nat.two_pow_pos z
          have hl := hz.s
          exact (gRes_some (t := gAt m n x) (by omega)).symm
        · have e1 := both_right (old := old) (w := false) (x :: q) c h0 hlt k
          rw [show x :: (q ++ [c]) = (x :: q) ++ [c] from rfl, e1, run_right c q z _ _ hz, both_run old N (m - splitN n) (n - splitN n) x q (by omega) (by omega) (by omega) (.inl (by omega)), hd]
/-- The elder root is known as it is; or it isn't. -/
theorem both_whole (old : H) {j : Nat} : ∀ (N n : Nat) (p : List H), n ≤ N → 2 ^ j ≤ n → boR (bothF old (2 ^ j) n true p) = boR (bothF old (2 ^ j) n false (old :: p))
  | 0, n, _, h, h1 => absurd h1 (by have := Nat.two_pow_pos j; omega)
  | N + 1, n, p, h, h1 => by
    have hp := Nat.two_pow_pos j
    by_cases e : 2 ^ j = n
    · rw [e, bothF_same (by omega), bothF_same (by omega)]
      cases p <;> rfl
    · obtain ⟨d, hd⟩ := splitN_pow (n := n) (by omega)
      have hs := splitN_two (n := n) (by omega)
      have hk : 2 ^ j ≤ splitN n := by
        rw [hd]
        rw [hd] at hs
        refine Nat.pow_le_pow_right (by decide) ?_
        by_cases q : j ≤ d
        · exact q
        · have := Nat.pow_le_pow_right (n := 2) (by decide) (show d + 1 ≤ j by omega)
          rw [Nat.pow_succ] at this; omega
      rcases (Classical.em (p = [])).imp id (snoc_of p) with rfl | ⟨q, c, rfl⟩
      · rw [bothF_nil hp (by omega) rfl]
        have e1 := both_left (old := old) (w := false) [] old hp (by omega) hk
        rw [List.nil_append, both_none hp hk] at e1
        rw [e1]; rfl
      · rw [both_left q c hp (by omega) hk, show old :: (q ++ [c]) = (old :: q) ++ [c] from rfl, both_left (old :: q) c hp (by omega) hk, both_whole old N (splitN n) q (by omega) hk]
theorem both_part (old : H) : ∀ (N m n : Nat) (p : List H), n ≤ N → 1 ≤ m → m < n → (¬ ∃ j, m = 2 ^ j) → boR (bothF old m n true p) = boR (bothF old m n false p)
  | 0, m, n, _, h, _, h1, _ => absurd h1 (by omega)
  | N + 1, m, n, p, h, h0, h1, hj => by
    obtain ⟨d, hd⟩ := splitN_pow (n := n) (by omega)
    have hs := splitN_two (n := n) (by omega)
    rcases (Classical.em (p = [])).imp id (snoc_of p) with rfl | ⟨q, c, rfl⟩
    · rw [bothF_nil h0 h1 rfl, bothF_nil h0 h1 rfl]
    · by_cases k : m ≤ splitN n
      · have hne : ¬ m = splitN n := fun z => hj ⟨d, z.trans hd⟩
        rw [both_left q c h0 h1 k, both_left q c h0 h1 k, both_part old N m (splitN n) q (by omega) h0 (by omega) hj]
      · rw [both_right q c h0 h1 k, both_right q c h0 h1 k]
theorem and_pred : ∀ (N m : Nat), m ≤ N → 1 ≤ m → ((m &&& (m - 1) = 0) ↔ ∃ j, m = 2 ^ j)
  | 0, m, h, h1 => absurd h (by omega)
  | N + 1, m, h, h1 => by
    have hd : (m &&& (m - 1)) / 2 = m / 2 &&& (m - 1) / 2 := Nat.and_div_two
    have hm : (m &&& (m - 1)) % 2 ^ 1 = m % 2 ^ 1 &&& (m - 1) % 2 ^ 1 := Nat.and_mod_two_pow
    rw [Nat.pow_one] at hm
    by_cases k : m % 2 = 1
    · have e1 : (m - 1) / 2 = m / 2 := by omega
      have e2 : (m - 1) % 2 = 0 := by omega
      rw [e1, Nat.and_self] at hd
      rw [k, e2] at hm
      have hm0 : (m &&& (m - 1)) % 2 = 0 := hm.trans (by decide)
      constructor
      · intro z; rw [z] at hd; exact ⟨0, by rw [Nat.pow_zero]; omega⟩
      · rintro ⟨j, hj⟩
        cases j with
        | zero => rw [Nat.pow_zero] at hj; omega
        | succ j => rw [Nat.pow_succ] at hj; omega
    · have e1 : (m - 1) / 2 = m / 2 - 1 := by omega
      have e2 : m % 2 = 0 := by omega
      rw [e1] at hd
      rw [e2, Nat.zero_and] at hm
      have ih := and_pred N (m / 2) (by omega) (by omega)
      constructor
      · intro z
        obtain ⟨j, hj⟩ := ih.1 (by rw [← hd, z])
        exact ⟨j + 1, by rw [Nat.pow_succ]; omega⟩
      · rintro ⟨j, hj⟩
        cases j with
        | zero => rw [Nat.pow_zero] at hj; omega
        | succ j =>
          have := ih.2 ⟨j, by rw [Nat.pow_succ] at hj; omega⟩
          rw [this] at hd; omega
theorem Pl.OT.eqhf {P : Program} {C : Cx} {L : Lo} {Γ : Ga} {d : Nat} {ty : TypeId} {pos : String} {af : Array Edge} {gd : Option (Nat × Bool)} {xt yt : TypeId} {x y : Operand} {a b : H} (h : H.l a ≠ H.l b) (hn : Nat.blt d C.n = true) (hx : evd L x = some (.ag (hdv a))) (hy : evd L y = some (.ag (hdv b))) (ht : eqT P xt = some hks) :
    OT P C ⟨some d, .binOp .eql xt x y yt, ty, pos, af, gd⟩ L Γ (upd L d (.f (.v (.bool false)))) Γ := by
  have := OT.eqh (P := P) (C := C) (Γ := Γ) (ty := ty) (pos := pos) (af := af) (gd := gd) (yt := yt) hn hx hy ht
  rwa [show decide (H.l a = H.l b) = false from decide_eq_false h] at this
def hldv (l : List H) : List DV := [slT hdv 32 l]
theorem hflat_succ {xss : List (List H)} {i : Nat} (h : i < xss.length) : (xss.take (i + 1)).flatten = (xss.take i).flatten ++ xss[i] := by rw [take_snoc' h, List.flatten_append]; simp
theorem hflat_len {xss : List (List H)} {i : Nat} (h : i < xss.length) : (xss.take (i + 1)).flatten.length = (xss.take i).flatten.length + xss[i].length := by rw [hflat_succ h, List.length_append]
theorem hflat_le (xss : List (List H)) (i : Nat) : (xss.take i).flatten.length ≤ xss.flatten.length := by
  have := congrArg List.length (congrArg List.flatten (List.take_append_drop i xss))
  rw [List.flatten_append, List.length_append] at this; omega
/-- Do two roots stand as they must? -/
def chk2 (old new : H) (o : Option (H × H)) : Bool := match o with
  | some x => decide (H.l x.1 = H.l old) && decide (H.l x.2 = H.l new)
  | none => false
section
variable {old new : H} {m n : Nat} {p : List H}
theorem growL_bo : growL old new m n p = chk2 old new (boR (bothF old m n true p)) := by
  unfold growL
  generalize bothF old m n true p = v
  obtain ⟨a, b, c⟩ := v
  cases c <;> rfl
theorem growL_same (h : 1 ≤ n) : growL old new n n p = (decide (p.length = 0) && decide (H.l old = H.l new)) := by
  rw [growL_bo, bothF_same h, if_pos rfl]
  cases p with
  | nil => simp [boR, chk2]
  | cons x r => rfl
theorem growL_nil (h0 : 1 ≤ m) (h : m < n) (k : p.length = 0) : growL old new m n p = false := by rw [growL_bo, bothF_nil h0 h k]; rfl
theorem growL_pow {j : Nat} (h : 2 ^ j < n) : growL old new (2 ^ j) n p = chk2 old new (gRes (gRun p (gAt (2 ^ j) n old))) := by
  rw [growL_bo, both_whole old n n p (Nat.le_refl _) (Nat.le_of_lt h), both_run old n (2 ^ j) n old p (Nat.le_refl _) (Nat.two_pow_pos j) (Nat.le_of_lt h) (.inl h)]
theorem growL_part {x : H} {r : List H} (h0 : 1 ≤ m) (h : m < n) (hj : ¬ ∃ j, m = 2 ^ j) : growL old new m n (x :: r) = chk2 old new (gRes (gRun r (gAt m n x))) := by
  rw [growL_bo, both_part old n m n (x :: r) (Nat.le_refl _) h0 h hj, both_run old n m n x r (Nat.le_refl _) h0 (Nat.le_of_lt h) (.inl h)]
theorem growL_at {P : List H} (h0 : 1 ≤ m) (h : m < n) (hp : ¬ p.length = 0) (hP : P = if m &&& (m - 1) = 0 then old :: p else p) : ∃ x r, P = x :: r ∧ growL old new m n p = chk2 old new (gRes (gRun r (gAt m n x))) := by
  have ha := and_pred m m (Nat.le_refl _) h0
  by_cases k : m &&& (m - 1) = 0
  · obtain ⟨j, hj⟩ := ha.1 k
    rw [if_pos k] at hP
    subst hj
    exact ⟨old, p, hP, growL_pow h⟩
  · rw [if_neg k] at hP
    cases p with
    | nil => exact absurd rfl hp
    | cons x r => exact ⟨x, r, hP, growL_part h0 h (fun z => k (ha.2 z))⟩
end
theorem chk2_state {old new a b : H} {f s : Nat} : chk2 old new (gRes (some (f, s, a, b))) = (decide (H.l a = H.l old) && (decide (H.l b = H.l new) && decide (s = 0))) := by
  by_cases h : s = 0
  · rw [gRes_done h]; show (decide (H.l a = H.l old) && decide (H.l b = H.l new)) = _; simp [h]
  · rw [gRes_some h]; simp [chk2, h]
theorem gRun_app (q q' : List H) : ∀ t, gRun (q ++ q') t = (gRun q t).bind (gRun q') := by
  induction q with
  | nil => intro t; rfl
  | cons e q ih =>
    intro t
    show (gStep e t).bind (gRun (q ++ q')) = ((gStep e t).bind (gRun q)).bind (gRun q')
    cases gStep e t with
    | none => rfl
    | some u => exact ih u
theorem run_take {r : List H} {i : Nat} {t : GS} (h : i < r.length) : gRun (r.take (i + 1)) t = (gRun (r.take i) t).bind (gStep r[i]) := by rw [take_snoc' h, gRun_snoc]
theorem run_stop {r : List H} {i : Nat} {t u : GS} (h : i < r.length) (hr : gRun (r.take i) t = some u) (z : u.2.1 = 0) : gRun r t = none := by
  have e := gRun_app (r.take i) (r.drop i) t
  rw [List.take_append_drop, hr] at e
  rw [e]
  refine gRun_zero z (fun q => ?_)
  have := congrArg List.length q
  rw [List.length_drop, List.length_nil] at this; omega
theorem gStep_both {c a b : H} {f s g t : Nat} (h : ¬ s = 0) (k : f % 2 = 1 ∨ f = s) (he : evens f s = (g, t)) : gStep c (f, s, a, b) = some (g / 2, t / 2, lnode c a, lnode c b) := by
  unfold gStep
  rw [if_neg h, if_pos k]
  show some ((evens f s).1 / 2, (evens f s).2 / 2, _, _) = _
  rw [he]
theorem gStep_one {c a b : H} {f s : Nat} (h : ¬ s = 0) (k : ¬ f % 2 = 1) (j : ¬ f = s) : gStep c (f, s, a, b) = some (f / 2, s / 2, a, lnode b c) := gStep_even (t := (f, s, a, b)) h k j
theorem and_i64 (a b : Nat) (ha : a < 9223372036854775808) (hb : b < 9223372036854775808) : IntKind.i64.wrap (BitVec.ofInt IntKind.i64.bits ((a : Nat) : Int) &&& BitVec.ofInt IntKind.i64.bits ((b : Nat) : Int)).toNat = ((a &&& b : Nat) : Int) := by
  have h1 : IntKind.i64.bits = 64 := rfl
  rw [h1]
  have e : (BitVec.ofInt 64 ((a : Nat) : Int) &&& BitVec.ofInt 64 ((b : Nat) : Int)).toNat = a &&& b := by
    rw [BitVec.toNat_and, BitVec.ofInt_natCast, BitVec.ofInt_natCast, BitVec.toNat_ofNat, BitVec.toNat_ofNat, Nat.mod_eq_of_lt (by omega), Nat.mod_eq_of_lt (by omega)]
  have hl : a &&& b ≤ a := Nat.and_le_left
  rw [e, IntKind.wrap_i64]; omega
theorem and1_big (a : Nat) (ha : a < 9223372036854775808) : IntKind.i64.wrap (BitVec.ofInt IntKind.i64.bits ((a : Nat) : Int) &&& BitVec.ofInt IntKind.i64.bits 1).toNat = ((a % 2 : Nat) : Int) := by
  have h := and_i64 a 1 ha (by decide)
  rw [Nat.and_one_is_mod] at h
  exact h
theorem shr1_i64 (a : Nat) : ((a : Nat) : Int).fdiv (2 ^ (min (Int.toNat 1) IntKind.i64.bits)) = ((a / 2 : Nat) : Int) := by
  rw [Int.fdiv_eq_ediv_of_nonneg _ (by decide), show ((2 : Int) ^ (min (Int.toNat 1) IntKind.i64.bits)) = 2 from rfl]; omega
end Go.Proofs.YtdjcclcejmeheaaGreat

