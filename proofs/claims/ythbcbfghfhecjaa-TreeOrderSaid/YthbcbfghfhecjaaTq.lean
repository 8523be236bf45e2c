/-
  Trees: merging neighbours and the stable sort: the general step.
-/
import Derived.Test.YthbcbfghfhecjaaTp
namespace Go.Proofs.Ythbcbfghfhecjaa
set_option linter.unusedVariables false
set_option linter.unusedSimpArgs false
open Go.RowKit Pl

theorem at_mem {p u r : List It} {x : It} (hx : x ∈ u) : ∃ j, j < u.length ∧ at_ (p ++ (u ++ r)) (p.length + j) = x := by
  obtain ⟨j, hj, rfl⟩ := List.getElem_of_mem hx
  obtain ⟨z, e1, k1⟩ := at_l (p := p) (u := u) (r := r) (h := p.length + j) (by omega) (by omega)
  rw [show p.length + j - p.length = j by omega, List.getElem?_eq_getElem hj] at k1
  cases k1
  exact ⟨j, hj, e1⟩
/-- Where the search for the cut ends. -/
theorem symC_cut (xs : List It) {a m b : Nat} (ham : a < m) (hmb : m < b) (lu : ∀ h h', a ≤ h → h ≤ h' → h' < m → ltI (at_ xs h') (at_ xs h) = false) (lv : ∀ h h', m ≤ h → h ≤ h' → h' < b → ltI (at_ xs h') (at_ xs h) = false) :
    (a ≤ symC xs a m b ∧ symC xs a m b ≤ m ∧ m + symC xs a m b ≤ (a + b) / 2 + m ∧ (a + b) / 2 + m ≤ b + symC xs a m b) ∧
    (∀ h h', symC xs a m b ≤ h → h < m → m ≤ h' → h' + symC xs a m b < (a + b) / 2 + m → ltI (at_ xs h') (at_ xs h) = true) ∧
    (∀ h h', a ≤ h → h < symC xs a m b → (a + b) / 2 + m ≤ h' + symC xs a m b → h' < b → ltI (at_ xs h') (at_ xs h) = false) := by
  obtain ⟨d, hd⟩ : ∃ d, (a + b) / 2 = d := ⟨_, rfl⟩
  have hd2 : 2 * d ≤ a + b ∧ a + b ≤ 2 * d + 1 := by omega
  have hSR := symSR a m b
  have hC : symC xs a m b = bsP (fun c => !ltI (at_ xs ((a + b) / 2 + m - 1 - c)) (at_ xs c)) (symR a m b - symS a m b) (symS a m b) (symR a m b) := rfl
  rw [hd] at hSR hC ⊢
  generalize symS a m b = S at hSR hC
  generalize symR a m b = R at hSR hC
  have hle := bsP_le (p := fun c => !ltI (at_ xs (d + m - 1 - c)) (at_ xs c)) (R - S) S R (by omega)
  have hsp := bsP_spec (p := fun c => !ltI (at_ xs (d + m - 1 - c)) (at_ xs c)) (R - S) S R (by omega) (Nat.le_refl _) (fun h h' k1 k2 k3 hp => by
    simp only [Bool.not_eq_true'] at hp ⊢
    have e1 := lu h h' (by omega) k2 (by omega)
    have e2 := lv (d + m - 1 - h') (d + m - 1 - h) (by omega) (by omega) (by omega)
    exact le_trans (le_trans e1 hp) e2)
  rw [← hC] at hle hsp
  generalize symC xs a m b = s at hle hsp ⊢
  clear hC
  refine ⟨by omega, fun h h' k1 k2 k3 k4 => ?_, fun h h' k1 k2 k3 k4 => ?_⟩
  · have hs : s < R := by omega
    have := hsp.2 s (Nat.le_refl _) hs
    simp only [Bool.not_eq_false'] at this
    exact lt_le (le_lt (lv h' (d + m - 1 - s) k3 (by omega) (by omega)) this) (lu s h (by omega) k1 k2)
  · have hs : S < s := by omega
    have := hsp.1 (s - 1) (by omega) (by omega)
    simp only [Bool.not_eq_true'] at this
    exact le_trans (le_trans (lu h (s - 1) k1 (by omega) (by omega)) this) (lv (d + m - 1 - (s - 1)) h' (by omega) (by omega) k4)
theorem symM_eq {f : Nat} {xs : List It} {a m b : Nat} (c1 : ¬ m - a = 1) (c2 : ¬ b - m = 1) : symM (f + 1) xs a m b =
    (if (a + b) / 2 < (a + b) / 2 + m - symC xs a m b ∧ (a + b) / 2 + m - symC xs a m b < b then symM f (if a < symC xs a m b ∧ symC xs a m b < (a + b) / 2 then symM f (symX xs a m b) a (symC xs a m b) ((a + b) / 2) else symX xs a m b) ((a + b) / 2) ((a + b) / 2 + m - symC xs a m b) b
      else (if a < symC xs a m b ∧ symC xs a m b < (a + b) / 2 then symM f (symX xs a m b) a (symC xs a m b) ((a + b) / 2) else symX xs a m b)) := by
  conv => lhs; unfold symM
  rw [if_neg c1, if_neg c2]
/-- Both halves, merged each. -/
theorem sym_halves (f : Nat) (ih : ∀ (p u v q : List It) (a m b : Nat), 0 < u.length → 0 < v.length → Srt u → Srt v → u.length + v.length ≤ f → a = p.length → m = a + u.length → b = m + v.length → ∃ w, symM f (p ++ (u ++ (v ++ q))) a m b = p ++ (w ++ q) ∧ Mrg u v w)
    (p u1 u2 v1 v2 q : List It) {a s d e b : Nat} (su1 : Srt u1) (su2 : Srt u2) (sv1 : Srt v1) (sv2 : Srt v2) (ha : a = p.length) (hs : s = a + u1.length) (hd : d = s + v1.length) (he : e = d + u2.length) (hb : b = e + v2.length) (h1 : u1.length + v1.length ≤ f) (h2 : u2.length + v2.length ≤ f) :
    ∃ w1 w2, (if d < e ∧ e < b then symM f (if a < s ∧ s < d then symM f (p ++ (u1 ++ (v1 ++ (u2 ++ (v2 ++ q))))) a s d else p ++ (u1 ++ (v1 ++ (u2 ++ (v2 ++ q))))) d e b else (if a < s ∧ s < d then symM f (p ++ (u1 ++ (v1 ++ (u2 ++ (v2 ++ q))))) a s d else p ++ (u1 ++ (v1 ++ (u2 ++ (v2 ++ q)))))) = p ++ ((w1 ++ w2) ++ q) ∧ Mrg u1 v1 w1 ∧ Mrg u2 v2 w2 := by
  obtain ⟨w1, hz, hw⟩ : ∃ w1, (if a < s ∧ s < d then symM f (p ++ (u1 ++ (v1 ++ (u2 ++ (v2 ++ q))))) a s d else p ++ (u1 ++ (v1 ++ (u2 ++ (v2 ++ q))))) = p ++ (w1 ++ (u2 ++ (v2 ++ q))) ∧ Mrg u1 v1 w1 := by
    by_cases c : a < s ∧ s < d
    · rw [if_pos c]
      exact ih p u1 v1 (u2 ++ (v2 ++ q)) a s d (by omega) (by omega) su1 sv1 h1 ha hs hd
    · rw [if_neg c]
      rcases Nat.lt_or_ge a s with h | h
      · obtain rfl := List.eq_nil_of_length_eq_zero (l := v1) (by omega)
        exact ⟨u1, by simp, su1, by simpa using Rea.refl u1, by simp⟩
      · obtain rfl := List.eq_nil_of_length_eq_zero (l := u1) (by omega)
        exact ⟨v1, by simp, sv1, by simpa using Rea.refl v1, by simp⟩
  rw [hz]
  have hw1 : d = (p ++ w1).length := by rw [List.length_append, hw.2.2]; omega
  by_cases c : d < e ∧ e < b
  · rw [if_pos c]
    obtain ⟨w2, k1, k2⟩ := ih (p ++ w1) u2 v2 q d e b (by omega) (by omega) su2 sv2 h2 hw1 he hb
    refine ⟨w1, w2, ?_, hw, k2⟩
    rw [show p ++ (w1 ++ (u2 ++ (v2 ++ q))) = (p ++ w1) ++ (u2 ++ (v2 ++ q)) by simp, k1]; simp
  · rw [if_neg c]
    rcases Nat.lt_or_ge d e with h | h
    · obtain rfl := List.eq_nil_of_length_eq_zero (l := v2) (by omega)
      exact ⟨w1, u2, by simp, hw, su2, by simpa using Rea.refl u2, by simp⟩
    · obtain rfl := List.eq_nil_of_length_eq_zero (l := u2) (by omega)
      exact ⟨w1, v2, by simp, hw, sv2, by simpa using Rea.refl v2, by simp⟩
theorem symX_spec (p u1 u2 v1 v2 q : List It) {a m b : Nat} (ha : a = p.length) (hm : m = a + u1.length + u2.length) (hs : symC (p ++ ((u1 ++ u2) ++ ((v1 ++ v2) ++ q))) a m b = a + u1.length) (he : (a + b) / 2 + m - (a + u1.length) = m + v1.length) :
    symX (p ++ ((u1 ++ u2) ++ ((v1 ++ v2) ++ q))) a m b = p ++ (u1 ++ (v1 ++ (u2 ++ (v2 ++ q)))) := by
  unfold symX
  rw [hs, he]
  by_cases c : a + u1.length < m ∧ m < m + v1.length
  · rw [if_pos c, show p ++ (u1 ++ u2 ++ (v1 ++ v2 ++ q)) = (p ++ u1) ++ (u2 ++ (v1 ++ (v2 ++ q))) by simp, rotI_spec (p ++ u1) u2 v1 (v2 ++ q) (by omega) (by omega) (by simp; omega) (by omega) rfl]
    simp
  · rw [if_neg c]
    rcases Nat.lt_or_ge (a + u1.length) m with h | h
    · obtain rfl := List.eq_nil_of_length_eq_zero (l := v1) (by omega); simp
    · obtain rfl := List.eq_nil_of_length_eq_zero (l := u2) (by omega); simp
theorem cut_at (l : List It) {n : Nat} (h : n ≤ l.length) : ∃ x y, l = x ++ y ∧ x.length = n := ⟨l.take n, l.drop n, (List.take_append_drop _ _).symm, by rw [List.length_take]; omega⟩
theorem symM_st (f : Nat) (ih : ∀ (p u v q : List It) (a m b : Nat), 0 < u.length → 0 < v.length → Srt u → Srt v → u.length + v.length ≤ f → a = p.length → m = a + u.length → b = m + v.length → ∃ w, symM f (p ++ (u ++ (v ++ q))) a m b = p ++ (w ++ q) ∧ Mrg u v w)
    (p u v q : List It) (a m b : Nat) (hu0 : 0 < u.length) (hv0 : 0 < v.length) (su : Srt u) (sv : Srt v) (hf : u.length + v.length ≤ f + 1) (ha : a = p.length) (hm : m = a + u.length) (hb : b = m + v.length) : ∃ w, symM (f + 1) (p ++ (u ++ (v ++ q))) a m b = p ++ (w ++ q) ∧ Mrg u v w := by
  by_cases c1 : m - a = 1
  · obtain ⟨x, rfl⟩ := one_of (l := u) (by omega)
    unfold symM
    rw [if_pos c1]
    exact symA_spec p v q x sv ha (by simpa using hm) hb
  by_cases c2 : b - m = 1
  · obtain ⟨y, rfl⟩ := one_of (l := v) (by omega)
    unfold symM
    rw [if_neg c1, if_pos c2]
    exact symB_spec p u q y su ha hm
  have lu : ∀ h h', a ≤ h → h ≤ h' → h' < m → ltI (at_ (p ++ (u ++ (v ++ q))) h') (at_ (p ++ (u ++ (v ++ q))) h) = false := fun h h' k1 k2 k3 => at_le su (by omega) k2 (by omega)
  have lv : ∀ h h', m ≤ h → h ≤ h' → h' < b → ltI (at_ (p ++ (u ++ (v ++ q))) h') (at_ (p ++ (u ++ (v ++ q))) h) = false := fun h h' k1 k2 k3 => by
    rw [show p ++ (u ++ (v ++ q)) = (p ++ u) ++ (v ++ q) by simp]; exact at_le sv (by simp; omega) k2 (by simp; omega)
  obtain ⟨bnd, q1, q2⟩ := symC_cut (p ++ (u ++ (v ++ q))) (a := a) (m := m) (b := b) (by omega) (by omega) lu lv
  clear lu lv
  rw [symM_eq c1 c2]
  obtain ⟨s, hs⟩ : ∃ s, symC (p ++ (u ++ (v ++ q))) a m b = s := ⟨_, rfl⟩
  obtain ⟨d, hd⟩ : ∃ d, (a + b) / 2 = d := ⟨_, rfl⟩
  have hd2 : a < d ∧ d < b := by omega
  rw [hs, hd] at bnd q1 q2
  obtain ⟨u1, u2, rfl, hu1⟩ := cut_at u (n := s - a) (by omega)
  obtain ⟨v1, v2, rfl, hv1⟩ := cut_at v (n := d + m - s - m) (by omega)
  simp only [List.length_append] at hm hb hf hu0 hv0
  have k21 : ∀ x ∈ u2, ∀ y ∈ v1, ltI y x = true := fun x hx y hy => by
    obtain ⟨j, hj, e1⟩ := at_mem (p := p ++ u1) (r := v1 ++ v2 ++ q) hx
    obtain ⟨i, hi, e2⟩ := at_mem (p := p ++ u1 ++ u2) (r := v2 ++ q) hy
    rw [show p ++ u1 ++ (u2 ++ (v1 ++ v2 ++ q)) = p ++ (u1 ++ u2 ++ (v1 ++ v2 ++ q)) by simp] at e1
    rw [show p ++ u1 ++ u2 ++ (v1 ++ (v2 ++ q)) = p ++ (u1 ++ u2 ++ (v1 ++ v2 ++ q)) by simp] at e2
    rw [← e1, ← e2]
    exact q1 _ _ (by simp; omega) (by simp; omega) (by simp; omega) (by simp; omega)
  have k12 : ∀ x ∈ u1, ∀ y ∈ v2, ltI y x = false := fun x hx y hy => by
    obtain ⟨j, hj, e1⟩ := at_mem (p := p) (r := u2 ++ (v1 ++ v2 ++ q)) hx
    obtain ⟨i, hi, e2⟩ := at_mem (p := p ++ u1 ++ u2 ++ v1) (r := q) hy
    rw [show p ++ (u1 ++ (u2 ++ (v1 ++ v2 ++ q))) = p ++ (u1 ++ u2 ++ (v1 ++ v2 ++ q)) by simp] at e1
    rw [show p ++ u1 ++ u2 ++ v1 ++ (v2 ++ q) = p ++ (u1 ++ u2 ++ (v1 ++ v2 ++ q)) by simp] at e2
    rw [← e1, ← e2]
    exact q2 _ _ (by omega) (by omega) (by simp; omega) (by simp; omega)
  clear q1 q2
  obtain ⟨su1, su2, su12⟩ := srt_app.1 su
  obtain ⟨sv1, sv2, sv12⟩ := srt_app.1 sv
  have hsa : s = a + u1.length := by omega
  have he : d + m - s = m + v1.length := by omega
  have hX := symX_spec p u1 u2 v1 v2 q (b := b) ha (by omega) (hs.trans hsa) (by rw [hd, ← hsa]; exact he)
  rw [hX, hs, hd]
  obtain ⟨w1, w2, k1, ⟨m1, m2, m3⟩, n1, n2, n3⟩ := sym_halves f ih p u1 u2 v1 v2 q (a := a) (s := s) (d := d) (e := d + m - s) (b := b) su1 su2 sv1 sv2 ha hsa (by omega) (by omega) (by omega) (by omega) (by omega)
  refine ⟨w1 ++ w2, k1, ?_, ?_, by simp [m3, n3]; omega⟩
  · refine srt_app.2 ⟨m1, n1, fun x hx y hy => ?_⟩
    rcases List.mem_append.1 (m2.mem.1 hx) with hx | hx <;> rcases List.mem_append.1 (n2.mem.1 hy) with hy | hy
    · exact su12 x hx y hy
    · exact k12 x hx y hy
    · exact lt_asymm (k21 y hy x hx)
    · exact sv12 x hx y hy
  · have r1 : Rea (u1 ++ u2 ++ (v1 ++ v2)) (u1 ++ v1 ++ (u2 ++ v2)) := by
      rw [show u1 ++ u2 ++ (v1 ++ v2) = u1 ++ ((u2 ++ v1) ++ v2) by simp, show u1 ++ v1 ++ (u2 ++ v2) = u1 ++ ((v1 ++ u2) ++ v2) by simp]
      exact (Rea.refl _).app ((Rea.swap fun x hx y hy e => lt_ne (k21 x hx y hy) e.symm).app (Rea.refl _))
    exact r1.trans (m2.app n2)
theorem symM_spec' : ∀ (f : Nat) (p u v q : List It) (a m b : Nat), 0 < u.length → 0 < v.length → Srt u → Srt v → u.length + v.length ≤ f → a = p.length → m = a + u.length → b = m + v.length → ∃ w, symM (f) (p ++ (u ++ (v ++ q))) a m b = p ++ (w ++ q) ∧ Mrg u v w
  | 0, p, u, v, q, a, m, b => fun h1 _ _ _ h5 => by omega
  | f + 1, p, u, v, q, a, m, b => fun h1 h2 h3 h4 h5 h6 h7 h8 => symM_st f (symM_spec' f) p u v q a m b h1 h2 h3 h4 h5 h6 h7 h8
theorem symM_spec (f : Nat) (p u v q : List It) {a m b : Nat} : 0 < u.length → 0 < v.length → Srt u → Srt v → u.length + v.length ≤ f → a = p.length → m = a + u.length → b = m + v.length → ∃ w, symM (f) (p ++ (u ++ (v ++ q))) a m b = p ++ (w ++ q) ∧ Mrg u v w := symM_spec' f p u v q a m b
/-! The stable sort. -/
inductive Chk (z : Nat) : List It → Prop
  | last {l : List It} : l.length ≤ z → Srt l → Chk z l
  | more {u r : List It} : u.length = z → Srt u → Chk z r → Chk z (u ++ r)
theorem stB_spec : ∀ (n : Nat) (p r : List It) {f a : Nat}, r.length ≤ n → r.length ≤ f → a = p.length → ∃ r', stB f (p ++ r) a = p ++ r' ∧ Chk 20 r' ∧ Rea r r'
  | n, p, r, f, a, hn, hf, ha => by
    by_cases h : a + 20 ≤ (p ++ r).length
    · have h' : 20 ≤ r.length := by simp at h; omega
      cases n with
      | zero => omega
      | succ n =>
        rw [stB_step (by simp; omega) h]
        obtain ⟨u, s, rfl, hu⟩ : ∃ u s, r = u ++ s ∧ u.length = 20 := ⟨r.take 20, r.drop 20, (List.take_append_drop _ _).symm, by rw [List.length_take]; omega⟩
        obtain ⟨w, k1, k2, k3, k4⟩ := insS_spec p u s (a := a) (b := a + 20) ha (by omega)
        simp only [List.length_append] at hn hf
        obtain ⟨s', j1, j2, j3⟩ := stB_spec n (p ++ w) s (f := f - 1) (a := a + 20) (by omega) (by omega) (by simp; omega)
        refine ⟨w ++ s', ?_, .more (by omega) k2 j2, k3.app j3⟩
        rw [k1, show p ++ (w ++ s) = (p ++ w) ++ s by simp, j1]; simp
    · rw [stB_end h]
      obtain ⟨w, k1, k2, k3, k4⟩ := insS_spec p r [] (a := a) (b := (p ++ r).length) ha (by simp)
      simp only [List.append_nil] at k1
      exact ⟨w, k1, .last (by simp at h; omega) k2, k3⟩
theorem chk_cut {z : Nat} (hz : 0 < z) {r : List It} (h : Chk z r) (hl : z < r.length) : ∃ u s, r = u ++ s ∧ u.length = z ∧ Srt u ∧ Chk z s := by
  cases h with
  | last h1 _ => omega
  | more h1 h2 h3 => exact ⟨_, _, rfl, h1, h2, h3⟩
theorem chk_srt {z : Nat} {r : List It} (h : Chk z r) (hl : r.length ≤ z) : Srt r := by
  cases h with
  | last _ h => exact h
  | more h1 h2 h3 =>
    rename_i u s
    simp only [List.length_append] at hl
    obtain rfl := List.eq_nil_of_length_eq_zero (l := s) (by omega)
    simpa using h2
theorem chk_tail {z : Nat} {u s : List It} (hu : u.length = z) (hz : 0 < z) (h : Chk z (u ++ s)) : Srt u ∧ Chk z s := by
  cases h' : s with
  | nil =>
    subst h'
    rw [List.append_nil] at h
    exact ⟨chk_srt h (by omega), .last (by simp) (by simp [Srt])⟩
  | cons x t =>
    obtain ⟨u', s', e, k1, k2, k3⟩ := chk_cut hz h (by rw [h']; simp; omega)
    obtain ⟨rfl, rfl⟩ := List.append_inj e (by omega)
    rw [← h']; exact ⟨k2, k3⟩
theorem stP_spec : ∀ (n : Nat) (p r : List It) {f a z : Nat}, 0 < z → r.length ≤ n → r.length ≤ f → a = p.length → Chk z r → ∃ r', stP f (p ++ r) z a = p ++ r' ∧ Chk (2 * z) r' ∧ Rea r r'
  | n, p, r, f, a, z, hz, hn, hf, ha, hc => by
    by_cases h : a + 2 * z ≤ (p ++ r).length
    · have h' : 2 * z ≤ r.length := by simp at h; omega
      cases n with
      | zero => omega
      | succ n =>
        rw [stP_step hz (by simp; omega) h]
        obtain ⟨u, s, rfl, hu, hsu, hcs⟩ := chk_cut hz hc (by omega)
        simp only [List.length_append] at hn hf h'
        obtain ⟨v, t, rfl, hv⟩ : ∃ v t, s = v ++ t ∧ v.length = z := ⟨s.take z, s.drop z, (List.take_append_drop _ _).symm, by rw [List.length_take]; omega⟩
        obtain ⟨hsv, hct⟩ := chk_tail hv hz hcs
        simp only [List.length_append] at hn hf h'
        obtain ⟨w, k1, k2, k3, k4⟩ := symM_spec (2 * z) p u v t (a := a) (m := a + z) (b := a + 2 * z) (by omega) (by omega) hsu hsv (by omega) ha (by omega) (by omega)
        obtain ⟨t', j1, j2, j3⟩ := stP_spec n (p ++ w) t (f := f - 1) (a := a + 2 * z) hz (by omega) (by omega) (by simp; omega) hct
        refine ⟨w ++ t', ?_, .more (by omega) k2 j2, ?_⟩
        · rw [show p ++ (u ++ (v ++ t)) = p ++ (u ++ (v ++ t)) from rfl, k1, show p ++ (w ++ t) = (p ++ w) ++ t by simp, j1]; simp
        · rw [← List.append_assoc]; exact k3.app j3
    · rw [stP_end h]
      have h' : r.length < 2 * z := by simp at h; omega
      by_cases g : a + z < (p ++ r).length
      · rw [if_pos g]
        simp only [List.length_append] at g
        obtain ⟨u, s, rfl, hu, hsu, hcs⟩ := chk_cut hz hc (by omega)
        simp only [List.length_append] at g h'
        have hss := chk_srt hcs (by omega)
        obtain ⟨w, k1, k2, k3, k4⟩ := symM_spec ((p ++ (u ++ s)).length - a) p u s [] (a := a) (m := a + z) (b := (p ++ (u ++ s)).length) (by omega) (by omega) hsu hss (by simp; omega) ha (by omega) (by simp; omega)
        simp only [List.append_nil] at k1
        exact ⟨w, k1, .last (by omega) k2, k3⟩
      · rw [if_neg g]
        simp only [List.length_append] at g
        exact ⟨r, rfl, .last (by omega) (chk_srt hc (by omega)), Rea.refl _⟩
theorem stM_spec : ∀ (f : Nat) (z : Nat) (xs : List It), 0 < z → xs.length ≤ z + f → Chk z xs → Srt (stM f z xs) ∧ Rea xs (stM f z xs)
  | 0, z, xs, hz, hl, hc => by
    show Srt xs ∧ Rea xs xs
    exact ⟨chk_srt hc (by omega), Rea.refl _⟩
  | f + 1, z, xs, hz, hl, hc => by
    unfold stM
    by_cases h : z < xs.length
    · rw [if_pos h]
      obtain ⟨r', k1, k2, k3⟩ := stP_spec xs.length [] xs (f := xs.length) (a := 0) hz (Nat.le_refl _) (Nat.le_refl _) rfl hc
      simp only [List.nil_append] at k1
      have hlen : r'.length = xs.length := by rw [← k1, stP_len]
      rw [k1]
      obtain ⟨j1, j2⟩ := stM_spec f (2 * z) r' (by omega) (by omega) k2
      exact ⟨j1, k3.trans j2⟩
    · rw [if_neg h]
      exact ⟨chk_srt hc (by omega), Rea.refl _⟩
theorem stI_spec (xs : List It) : Srt (stI xs) ∧ Rea xs (stI xs) := by
  obtain ⟨r', k1, k2, k3⟩ := stB_spec xs.length [] xs (f := xs.length) (a := 0) (Nat.le_refl _) (Nat.le_refl _) rfl
  simp only [List.nil_append] at k1
  unfold stI
  rw [k1]
  have hlen : r'.length = xs.length := by rw [← k1, stB_len]
  obtain ⟨j1, j2⟩ := stM_spec xs.length 20 r' (by omega) (by omega) k2
  exact ⟨j1, k3.trans j2⟩
/-! Turned round. -/
theorem rvN_spec : ∀ (f : Nat) (a m b : List It) {i : Nat}, m.length ≤ 2 * f + 1 → i = a.length → i = b.length → rvN f (a ++ (m ++ b)) i = a ++ (m.reverse ++ b)
  | 0, a, m, b, i, hf, ha, hb => by
    show a ++ (m ++ b) = _
    match m, hf with
    | [], _ => rfl
    | [x], _ => rfl
    | _ :: _ :: _, h => exact absurd h (by simp)
  | f + 1, a, m, b, i, hf, ha, hb => by
    by_cases h : i + 1 + i < (a ++ (m ++ b)).length
    · rw [rvN_step (by omega) h, Nat.add_sub_cancel]
      simp only [List.length_append] at h
      have hm2 : 2 ≤ m.length := by omega
      obtain ⟨x, m', y, rfl⟩ : ∃ x m' y, m = x :: (m' ++ [y]) := by
        cases m with
        | nil => exact absurd hm2 (by simp)
        | cons x t =>
          rcases List.eq_nil_or_concat t with rfl | ⟨s', y, e⟩
          · exact absurd hm2 (by simp)
          · exact ⟨x, s', y, by simp [e]⟩
      rw [show a ++ (x :: (m' ++ [y]) ++ b) = a ++ x :: (m' ++ y :: b) by simp, swI_mid a x m' y b ha (by simp; omega), show a ++ y :: (m' ++ x :: b) = (a ++ [y]) ++ (m' ++ ([x] ++ b)) by simp,
        rvN_spec f (a ++ [y]) m' ([x] ++ b) (by simp at hf; omega) (by simp; omega) (by simp; omega)]
      simp
    · rw [rvN_end h]
      simp only [List.length_append] at h
      match m, h with
      | [], _ => rfl
      | [x], _ => rfl
      | _ :: _ :: _, h => simp at h; omega
theorem rvI_eq (xs : List It) : rvI xs = xs.reverse := by
  have := rvN_spec xs.length [] xs [] (i := 0) (by omega) rfl rfl
  simpa [rvI] using this
end Go.Proofs.Ythbcbfghfhecjaa
