/-
  Every number but 0 to the power of the order is 1 modulo the prime.
-/
import Derived.Test.YteapoemockimfaaFldM
namespace Go.Proofs.Yteapoemockimfaa.Ferm
set_option linter.unusedVariables false
set_option linter.unusedSimpArgs false

theorem hits (n : Nat) : ∀ f : Nat → Nat, (∀ i, i < n → f i < n) → (∀ i j, i < n → j < n → f i = f j → i = j) → ∀ y, y < n → ∃ i, i < n ∧ f i = y := by
  induction n with
  | zero => intro f _ _ y hy; omega
  | succ n ih =>
    intro f hr hi y hy
    have hg : ∀ i, i < n → (if f i = n then f n else f i) < n := by
      intro i h
      split
      · rename_i e
        have h1 : f n ≠ n := fun e' => by have := hi i n (by omega) (by omega) (e.trans e'.symm); omega
        have := hr n (by omega); omega
      · have := hr i (by omega); omega
    have hgi : ∀ i j, i < n → j < n → (if f i = n then f n else f i) = (if f j = n then f n else f j) → i = j := by
      intro i j h k e
      by_cases a : f i = n <;> by_cases b : f j = n
      · exact hi i j (by omega) (by omega) (a.trans b.symm)
      · rw [if_pos a, if_neg b] at e; have := hi n j (by omega) (by omega) e; omega
      · rw [if_neg a, if_pos b] at e; have := hi i n (by omega) (by omega) e; omega
      · rw [if_neg a, if_neg b] at e; exact hi i j (by omega) (by omega) e
    have ih' := ih (fun i => if f i = n then f n else f i) hg hgi
    by_cases hyn : y = n
    · by_cases hv : f n = n
      · exact ⟨n, by omega, by omega⟩
      · obtain ⟨i, h, e⟩ := ih' (f n) (by have := hr n (by omega); omega)
        by_cases a : f i = n
        · exact ⟨i, by omega, by omega⟩
        · rw [if_neg a] at e; have := hi i n (by omega) (by omega) e; omega
    · obtain ⟨i, h, e⟩ := ih' y (by omega)
      by_cases a : f i = n
      · rw [if_pos a] at e; exact ⟨n, by omega, e⟩
      · rw [if_neg a] at e; exact ⟨i, by omega, e⟩

theorem pow_mod (a n M : Nat) : (a % M) ^ n % M = a ^ n % M := (Nat.pow_mod a n M).symm

/-- A power by squaring. -/
def fast (M : Nat) : Nat → Nat → Nat → Nat → Nat
  | 0, _, _, out => out
  | f + 1, a, n, out => if n = 0 then out else fast M f (a * a % M) (n / 2) (if n % 2 = 1 then out * a % M else out)

theorem fast_is (M : Nat) : ∀ f a n out, n < 2 ^ f → fast M f a n out % M = out * a ^ n % M := by
  intro f
  induction f with
  | zero => intro a n out h; have : n = 0 := by omega
            subst this; simp [fast]
  | succ f ih =>
    intro a n out h
    unfold fast
    by_cases hn : n = 0
    · subst hn; simp
    · rw [if_neg hn, ih _ _ _ (by rw [Nat.pow_succ] at h; omega)]
      have hsq : (a * a % M) ^ (n / 2) % M = (a * a) ^ (n / 2) % M := pow_mod _ _ _
      rw [Nat.mul_mod, hsq, ← Nat.mul_mod, show a * a = a ^ 2 from (Nat.pow_two a).symm, ← Nat.pow_mul]
      by_cases ho : n % 2 = 1
      · rw [if_pos ho, Nat.mul_mod, Nat.mod_mod, ← Nat.mul_mod, Nat.mul_assoc, ← Nat.pow_succ', show (2 * (n / 2)).succ = n by omega]
      · rw [if_neg ho, show 2 * (n / 2) = n by omega]

theorem fast64 (M a n : Nat) (h : n < 2 ^ 64) : a ^ n % M = fast M 64 a n 1 % M := by
  rw [fast_is M 64 a n 1 h, Nat.one_mul]

theorem pow_gcd (g M a b : Nat) (ha : g ^ a % M = 1 % M) (hb : g ^ b % M = 1 % M) : g ^ Nat.gcd a b % M = 1 % M := by
  revert ha hb
  refine Nat.gcd.induction (P := fun a b => g ^ a % M = 1 % M → g ^ b % M = 1 % M → g ^ Nat.gcd a b % M = 1 % M) a b ?_ ?_
  · intro b _ hb; rw [Nat.gcd_zero_left]; exact hb
  · intro a b h0 ih ha hb
    rw [Nat.gcd_rec]
    refine ih ?_ ha
    have e : g ^ b = (g ^ a) ^ (b / a) * g ^ (b % a) := by rw [← Nat.pow_mul, ← Nat.pow_add, Nat.div_add_mod]
    rw [e, Nat.mul_mod, ← pow_mod (g ^ a), ha, pow_mod 1, Nat.one_pow, ← Nat.mul_mod, Nat.one_mul] at hb
    exact hb

theorem coprime_of {k q : Nat} (hq : ∀ d, d < q + 1 → d ∣ q → d = 1 ∨ d = q) (h : ¬ q ∣ k) (h0 : 0 < q) : Nat.Coprime k q := by
  have h1 := Nat.gcd_dvd_right k q
  have h2 := Nat.le_of_dvd h0 h1
  rcases hq _ (by omega) h1 with e | e
  · exact e
  · exact absurd (e ▸ Nat.gcd_dvd_left k q) h

def P : Nat := 2305843009213693951

theorem cut {k m q : Nat} (hk : k ∣ q * m) (hq : ∀ d, d < q + 1 → d ∣ q → d = 1 ∨ d = q) (h0 : 0 < q) (h : ¬ q ∣ k) : k ∣ m :=
  (coprime_of hq h h0).dvd_of_dvd_mul_left hk

theorem one_of {k : Nat} (hk : k ∣ 2305843009213693950)
    (h2 : ¬ 2 ∣ k) (h3 : ¬ 3 ∣ k) (h5 : ¬ 5 ∣ k) (h7 : ¬ 7 ∣ k) (h11 : ¬ 11 ∣ k) (h13 : ¬ 13 ∣ k) (h31 : ¬ 31 ∣ k) (h41 : ¬ 41 ∣ k) (h61 : ¬ 61 ∣ k)
    (h151 : ¬ 151 ∣ k) (h331 : ¬ 331 ∣ k) (h1321 : ¬ 1321 ∣ k) : k = 1 := by
  have a := cut (q := 2) (m := 1152921504606846975) hk (by decide) (by decide) h2
  have a := cut (q := 3) (m := 384307168202282325) a (by decide) (by decide) h3
  have a := cut (q := 3) (m := 128102389400760775) a (by decide) (by decide) h3
  have a := cut (q := 5) (m := 25620477880152155) a (by decide) (by decide) h5
  have a := cut (q := 5) (m := 5124095576030431) a (by decide) (by decide) h5
  have a := cut (q := 7) (m := 732013653718633) a (by decide) (by decide) h7
  have a := cut (q := 11) (m := 66546695792603) a (by decide) (by decide) h11
  have a := cut (q := 13) (m := 5118976599431) a (by decide) (by decide) h13
  have a := cut (q := 31) (m := 165128277401) a (by decide +kernel) (by decide) h31
  have a := cut (q := 41) (m := 4027518961) a (by decide +kernel) (by decide) h41
  have a := cut (q := 61) (m := 66024901) a (by decide +kernel) (by decide) h61
  have a := cut (q := 151) (m := 437251) a (by decide +kernel) (by decide) h151
  have a := cut (q := 331) (m := 1321) a (by decide +kernel) (by decide) h331
  have a := cut (q := 1321) (m := 1) a (by decide +kernel) (by decide) h1321
  exact Nat.dvd_one.1 a

section
variable {N : Nat} (hN : N = 2305843009213693950)
include hN
theorem g_ord : 37 ^ N % P = 1 := by rw [fast64 _ _ _ (by rw [hN]; decide), hN]; decide +kernel

omit hN in
theorem g_not (q m : Nat) (hm : q * m = N) (hlt : m < 2 ^ 64) (hf : fast P 64 37 m 1 % P ≠ 1) {e k : Nat} (hek : e * k = N) (he : 37 ^ e % P = 1) (h0 : 0 < q) : ¬ q ∣ k := by
  rintro ⟨c, rfl⟩
  have h1 : m = e * c := by
    have : q * m = q * (e * c) := by rw [hm, ← hek, Nat.mul_left_comm]
    exact Nat.eq_of_mul_eq_mul_left h0 this
  apply hf
  rw [← fast64 _ _ _ hlt, h1, Nat.pow_mul, ← pow_mod, he, Nat.one_pow]
  rfl

theorem g_min (d : Nat) (h0 : 0 < d) (h1 : d < N) : 37 ^ d % P ≠ 1 := by
  intro hd
  have hg : 37 ^ Nat.gcd d N % P = 1 := pow_gcd 37 P _ _ hd (g_ord hN)
  obtain ⟨k, hk⟩ := Nat.gcd_dvd_right d N
  have hle : Nat.gcd d N ≤ d := Nat.gcd_le_left _ h0
  generalize Nat.gcd d N = e at *
  have hk1 : k = 1 := by
    refine one_of ⟨e, by rw [Nat.mul_comm, ← hk, hN]⟩ ?_ ?_ ?_ ?_ ?_ ?_ ?_ ?_ ?_ ?_ ?_ ?_
    · exact g_not 2 1152921504606846975 hN.symm (by decide) (by decide +kernel) hk.symm hg (by decide)
    · exact g_not 3 768614336404564650 hN.symm (by decide) (by decide +kernel) hk.symm hg (by decide)
    · exact g_not 5 461168601842738790 hN.symm (by decide) (by decide +kernel) hk.symm hg (by decide)
    · exact g_not 7 329406144173384850 hN.symm (by decide) (by decide +kernel) hk.symm hg (by decide)
    · exact g_not 11 209622091746699450 hN.symm (by decide) (by decide +kernel) hk.symm hg (by decide)
    · exact g_not 13 177372539170284150 hN.symm (by decide) (by decide +kernel) hk.symm hg (by decide)
    · exact g_not 31 74382032555280450 hN.symm (by decide) (by decide +kernel) hk.symm hg (by decide)
    · exact g_not 41 56240073395455950 hN.symm (by decide) (by decide +kernel) hk.symm hg (by decide)
    · exact g_not 61 37800705069076950 hN.symm (by decide) (by decide +kernel) hk.symm hg (by decide)
    · exact g_not 151 15270483504726450 hN.symm (by decide) (by decide +kernel) hk.symm hg (by decide)
    · exact g_not 331 6966293079195450 hN.symm (by decide) (by decide +kernel) hk.symm hg (by decide)
    · exact g_not 1321 1745528394559950 hN.symm (by decide) (by decide +kernel) hk.symm hg (by decide)
  subst hk1
  omega

theorem g_inv (i : Nat) (h : i ≤ N) : 37 ^ (N - i) * 37 ^ i % P = 1 := by
  rw [← Nat.pow_add, Nat.sub_add_cancel h]; exact g_ord hN

theorem g_pos (i : Nat) (h : i ≤ N) : 37 ^ i % P ≠ 0 := by
  intro e
  have := g_inv hN i h
  rw [Nat.mul_mod, e, Nat.mul_zero, Nat.zero_mod] at this
  omega

theorem g_inj (i j : Nat) (hi : i < N) (hj : j < N) (hij : i < j) : 37 ^ i % P ≠ 37 ^ j % P := by
  intro e
  refine g_min hN (j - i) (by omega) (by omega) ?_
  have h1 := g_inv hN i (by omega)
  rw [Nat.mul_mod, e, ← Nat.mul_mod, ← Nat.pow_add, show N - i + j = (j - i) + N by omega, Nat.pow_add, Nat.mul_mod, g_ord hN, Nat.mul_one, Nat.mod_mod] at h1
  exact h1

/-- Fermat's little theorem at this prime. -/
theorem fermat (x : Nat) (h : x % P ≠ 0) : x ^ N % P = 1 := by
  have hP : P = N + 1 := hN ▸ rfl
  obtain ⟨i, hi, e⟩ := hits N (fun i => 37 ^ i % P - 1)
    (fun i hi => by have h1 : 37 ^ i % P < P := Nat.mod_lt _ (by rw [hP]; omega)
                    show 37 ^ i % P - 1 < _; have h2 := g_pos hN i (by omega); omega)
    (fun i j hi hj e => by
      have h1 := g_pos hN i (by omega)
      have h2 := g_pos hN j (by omega)
      have h3 : 37 ^ i % P = 37 ^ j % P := by omega
      rcases Nat.lt_trichotomy i j with k | k | k
      · exact absurd h3 (g_inj hN i j hi hj k)
      · exact k
      · exact absurd h3.symm (g_inj hN j i hj hi k))
    (x % P - 1) (by have h1 : x % P < P := Nat.mod_lt _ (by rw [hP]; omega); omega)
  have h2 := g_pos hN i (by omega)
  have h3 : 37 ^ i % P = x % P := by omega
  rw [← pow_mod, ← h3, pow_mod, ← Nat.pow_mul, Nat.mul_comm, Nat.pow_mul, ← pow_mod, g_ord hN, Nat.one_pow]
  rfl
end
end Go.Proofs.Yteapoemockimfaa.Ferm
