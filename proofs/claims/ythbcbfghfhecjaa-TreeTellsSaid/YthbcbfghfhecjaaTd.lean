/-
  Hashes and items: the values; what the library's sorting makes of a list.
-/
import Derived.Test.YthbcbfghfhecjaaCm
namespace Go.Proofs.Ythbcbfghfhecjaa
set_option linter.unusedVariables false
set_option linter.unusedSimpArgs false
open Go.RowKit Pl

/-- A hash: 32 bytes. -/
abbrev H := Fin 32 → UInt8
def H.l (h : H) : List UInt8 := List.ofFn h
def hdv (h : H) : List DV := (H.l h).flatMap bdv
structure It where
  ix : H
  vl : H
def It.dv (x : It) : List DV := hdv x.ix ++ hdv x.vl
def zeroH : H := fun _ => 0
def zeroI : It := ⟨zeroH, zeroH⟩
theorem h_len (h : H) : (hdv h).length = 32 := rfl
theorem it_len (x : It) : x.dv.length = 64 := rfl
theorem it_one (x : It) : x.dv.all DV.one = true := rfl
theorem H.l_len (h : H) : (H.l h).length = 32 := List.length_ofFn
theorem H.l_get (a : H) (i : Fin 32) : (H.l a)[i.val]? = some (a i) := by
  unfold H.l; rw [List.getElem?_ofFn, dif_pos i.isLt]
theorem H.l_inj {a b : H} (h : H.l a = H.l b) : a = b := by
  funext i
  have h1 := H.l_get a i
  rw [h, H.l_get b i] at h1
  exact (Option.some.inj h1).symm
theorem pl_h (h : H) : ∀ X ∈ hdv h, Pl X := pl_flat (fun b => pl_cons (pl_v _) pl_nil) _
theorem pl_it (x : It) : ∀ X ∈ x.dv, Pl X := pl_app (pl_h _) (pl_h _)
/-- One item's cells of a row's. -/
theorem flat_at {α : Type} {enc : α → List DV} {sz : Nat} (h : ∀ x, (enc x).length = sz) (xs : List α) {i : Nat} (hi : i < xs.length) : ((xs.flatMap enc).drop (i * sz)).take sz = enc xs[i] := by
  rw [flat_drop h, ← List.getElem_cons_drop hi, List.flatMap_cons]
  have := h xs[i]
  rw [← this, List.take_left]

/-! The library's sorting. -/
def ltI (x y : It) : Bool := Op.bytesLess (H.l x.ix) (H.l y.ix)
def cmpIt (x y : It) : Int := Lib.compareBytes (H.l x.ix) (H.l y.ix)
theorem cmp_less : ∀ a b : List UInt8, Lib.compareBytes a b < 0 ↔ Op.bytesLess a b = true
  | [], [] => by simp [Lib.compareBytes, Op.bytesLess]
  | [], _ :: _ => by simp [Lib.compareBytes, Op.bytesLess]
  | _ :: _, [] => by simp [Lib.compareBytes, Op.bytesLess]
  | x :: a, y :: b => by
    unfold Lib.compareBytes Op.bytesLess
    by_cases h : x < y
    · simp [h]
    · by_cases k : y < x
      · have : ¬ x = y := fun e => by subst e; exact h k
        simp [h, k, this]
      · have e : x = y := UInt8.le_antisymm (UInt8.not_lt.1 k) (UInt8.not_lt.1 h)
        subst e
        simp [h, cmp_less a b]
theorem cmpIt_lt (x y : It) : cmpIt x y < 0 ↔ ltI x y = true := cmp_less _ _
theorem cmpIt_dec (x y : It) : decide (cmpIt x y < 0) = ltI x y := by
  cases h : ltI x y with
  | true => exact decide_eq_true ((cmpIt_lt x y).2 h)
  | false => exact decide_eq_false (fun q => by rw [(cmpIt_lt x y).1 q] at h; cases h)
def at_ (xs : List It) (i : Nat) : It := xs.getD i zeroI
theorem at_eq {xs : List It} {i : Nat} (h : i < xs.length) : at_ xs i = xs[i] := by unfold at_; simp [List.getD, h]
/-- x[i], x[j] = x[j], x[i]. -/
def swI (xs : List It) (i j : Nat) : List It := (xs.set i (at_ xs j)).set j (at_ xs i)
theorem swI_len (xs : List It) (i j : Nat) : (swI xs i j).length = xs.length := by unfold swI; simp
def insDown : Nat → List It → Nat → List It
  | 0, xs, a => xs
  | j + 1, xs, a => if a < j + 1 ∧ ltI (at_ xs (j + 1)) (at_ xs j) = true then insDown j (swI xs (j + 1) j) a else xs
theorem insDown_len : ∀ (j : Nat) (xs : List It) (a : Nat), (insDown j xs a).length = xs.length
  | 0, xs, a => rfl
  | j + 1, xs, a => by
    unfold insDown; split
    · rw [insDown_len, swI_len]
    · rfl
theorem insDown_step {j : Nat} {xs : List It} {a : Nat} (h : a < j) (hl : ltI (at_ xs j) (at_ xs (j - 1)) = true) : insDown j xs a = insDown (j - 1) (swI xs j (j - 1)) a := by
  cases j with
  | zero => omega
  | succ j => rw [Nat.add_sub_cancel] at hl ⊢; conv => lhs; unfold insDown
              rw [if_pos ⟨h, hl⟩]
theorem insDown_stop {j : Nat} {xs : List It} {a : Nat} (h : ¬ (a < j ∧ ltI (at_ xs j) (at_ xs (j - 1)) = true)) : insDown j xs a = xs := by
  cases j with
  | zero => rfl
  | succ j => rw [Nat.add_sub_cancel] at h; unfold insDown; rw [if_neg h]
def insN : Nat → List It → Nat → Nat → List It
  | 0, xs, a, i => xs
  | n + 1, xs, a, i => insN n (insDown i xs a) a (i + 1)
theorem insN_len : ∀ (n : Nat) (xs : List It) (a i : Nat), (insN n xs a i).length = xs.length
  | 0, xs, a, i => rfl
  | n + 1, xs, a, i => by unfold insN; rw [insN_len, insDown_len]
def insS (xs : List It) (a b : Nat) : List It := insN (b - (a + 1)) xs a (a + 1)
/-- Two ranges of n change places. -/
def swR : Nat → List It → Nat → Nat → Nat → List It
  | 0, xs, a, b, i => xs
  | n + 1, xs, a, b, i => swR n (swI xs (a + i) (b + i)) a b (i + 1)
theorem swR_len : ∀ (n : Nat) (xs : List It) (a b i : Nat), (swR n xs a b i).length = xs.length
  | 0, xs, a, b, i => rfl
  | n + 1, xs, a, b, i => by unfold swR; rw [swR_len, swI_len]
/-- Rotating by changing ranges. -/
def rotG : Nat → List It → Nat → Nat → Nat → List It
  | 0, xs, m, i, j => xs
  | f + 1, xs, m, i, j => if i = j then swR i xs (m - i) m 0 else if j < i then rotG f (swR j xs (m - i) m 0) m (i - j) j else rotG f (swR i xs (m - i) (m + j - i) 0) m i (j - i)
theorem rotG_len : ∀ (f : Nat) (xs : List It) (m i j : Nat), (rotG f xs m i j).length = xs.length
  | 0, xs, m, i, j => rfl
  | f + 1, xs, m, i, j => by
    unfold rotG; split
    · exact swR_len _ _ _ _ _
    · split <;> rw [rotG_len, swR_len]
theorem rotG_eq {f : Nat} {xs : List It} {m i j : Nat} (hf : 0 < f) (h : i = j) : rotG f xs m i j = swR i xs (m - i) m 0 := by
  cases f with
  | zero => omega
  | succ f => unfold rotG; rw [if_pos h]
theorem rotG_gt {f : Nat} {xs : List It} {m i j : Nat} (hf : 0 < f) (h : ¬ i = j) (k : j < i) : rotG f xs m i j = rotG (f - 1) (swR j xs (m - i) m 0) m (i - j) j := by
  cases f with
  | zero => omega
  | succ f => conv => lhs; unfold rotG
              rw [if_neg h, if_pos k]; rfl
theorem rotG_lt {f : Nat} {xs : List It} {m i j : Nat} (hf : 0 < f) (h : ¬ i = j) (k : ¬ j < i) : rotG f xs m i j = rotG (f - 1) (swR i xs (m - i) (m + j - i) 0) m i (j - i) := by
  cases f with
  | zero => omega
  | succ f => conv => lhs; unfold rotG
              rw [if_neg h, if_neg k]; rfl
def rotI (xs : List It) (a m b : Nat) : List It := rotG (b - a) xs m (m - a) (b - m)
theorem rotI_len (xs : List It) (a m b : Nat) : (rotI xs a m b).length = xs.length := rotG_len _ _ _ _ _
/-- The first place from i on where p ends, by halves. -/
def bsP (p : Nat → Bool) : Nat → Nat → Nat → Nat
  | 0, i, _ => i
  | f + 1, i, j => if i < j then (if p ((i + j) / 2) = true then bsP p f ((i + j) / 2 + 1) j else bsP p f i ((i + j) / 2)) else i
theorem bsP_step {p : Nat → Bool} {f i j : Nat} (h : i < j) (hf : j - i ≤ f) : bsP p f i j = if p ((i + j) / 2) = true then bsP p (f - 1) ((i + j) / 2 + 1) j else bsP p (f - 1) i ((i + j) / 2) := by
  cases f with
  | zero => omega
  | succ f => rw [Nat.add_sub_cancel]; conv => lhs; unfold bsP
              rw [if_pos h]
theorem bsP_end {p : Nat → Bool} {f i j : Nat} (h : ¬ i < j) : bsP p f i j = i := by
  cases f with
  | zero => rfl
  | succ f => unfold bsP; rw [if_neg h]
theorem bsP_le {p : Nat → Bool} : ∀ (f i j : Nat), i ≤ j → i ≤ bsP p f i j ∧ bsP p f i j ≤ j
  | 0, i, j, h => ⟨Nat.le_refl _, h⟩
  | f + 1, i, j, h => by
    unfold bsP
    split
    · split
      · have := bsP_le (p := p) f ((i + j) / 2 + 1) j (by omega); omega
      · have := bsP_le (p := p) f i ((i + j) / 2) (by omega); omega
    · omega
def bubF : Nat → List It → Nat → List It
  | 0, xs, k => xs
  | n + 1, xs, k => bubF n (swI xs k (k + 1)) (k + 1)
def bubB : Nat → List It → Nat → List It
  | 0, xs, k => xs
  | n + 1, xs, k => bubB n (swI xs k (k - 1)) (k - 1)
theorem bubF_len : ∀ (n : Nat) (xs : List It) (k : Nat), (bubF n xs k).length = xs.length
  | 0, xs, k => rfl
  | n + 1, xs, k => by unfold bubF; rw [bubF_len, swI_len]
theorem bubB_len : ∀ (n : Nat) (xs : List It) (k : Nat), (bubB n xs k).length = xs.length
  | 0, xs, k => rfl
  | n + 1, xs, k => by unfold bubB; rw [bubB_len, swI_len]
/-- Merging two neighbours. -/
def symA (xs : List It) (a m b : Nat) : List It := bubF (bsP (fun h => ltI (at_ xs h) (at_ xs a)) (b - m) m b - 1 - a) xs a
def symB (xs : List It) (a m b : Nat) : List It := bubB (m - bsP (fun h => !ltI (at_ xs m) (at_ xs h)) (m - a) a m) xs m
def symS (a m b : Nat) : Nat := if (a + b) / 2 < m then (a + b) / 2 + m - b else a
def symR (a m b : Nat) : Nat := if (a + b) / 2 < m then (a + b) / 2 else m
def symC (xs : List It) (a m b : Nat) : Nat := bsP (fun c => !ltI (at_ xs ((a + b) / 2 + m - 1 - c)) (at_ xs c)) (symR a m b - symS a m b) (symS a m b) (symR a m b)
def symX (xs : List It) (a m b : Nat) : List It := if symC xs a m b < m ∧ m < (a + b) / 2 + m - symC xs a m b then rotI xs (symC xs a m b) m ((a + b) / 2 + m - symC xs a m b) else xs
def symM : Nat → List It → Nat → Nat → Nat → List It
  | 0, xs, a, m, b => xs
  | f + 1, xs, a, m, b =>
    if m - a = 1 then symA xs a m b else if b - m = 1 then symB xs a m b
    else
      let s := symC xs a m b
      let e := (a + b) / 2 + m - s
      let ys := symX xs a m b
      let zs := if a < s ∧ s < (a + b) / 2 then symM f ys a s ((a + b) / 2) else ys
      if (a + b) / 2 < e ∧ e < b then symM f zs ((a + b) / 2) e b else zs
theorem symX_len (xs : List It) (a m b : Nat) : (symX xs a m b).length = xs.length := by
  unfold symX
  split
  · exact rotI_len _ _ _ _
  · rfl
theorem symM_len : ∀ (f : Nat) (xs : List It) (a m b : Nat), (symM f xs a m b).length = xs.length
  | 0, xs, a, m, b => rfl
  | f + 1, xs, a, m, b => by
    unfold symM
    split
    · exact bubF_len _ _ _
    · split
      · exact bubB_len _ _ _
      · simp only
        split
        · rw [symM_len]
          split
          · rw [symM_len, symX_len]
          · rw [symX_len]
        · split
          · rw [symM_len, symX_len]
          · rw [symX_len]
theorem symSR (a m b : Nat) : ((a + b) / 2 < m ∧ symS a m b = (a + b) / 2 + m - b ∧ symR a m b = (a + b) / 2) ∨ (¬ (a + b) / 2 < m ∧ symS a m b = a ∧ symR a m b = m) := by
  unfold symS symR
  by_cases h : (a + b) / 2 < m
  · exact .inl ⟨h, if_pos h, if_pos h⟩
  · exact .inr ⟨h, if_neg h, if_neg h⟩
theorem symC_bd (xs : List It) {a m b : Nat} (ham : a < m) (hmb : m < b) : symS a m b ≤ symC xs a m b ∧ symC xs a m b ≤ symR a m b := bsP_le _ _ _ (by have := symSR a m b; omega)
/-! The stable sort. -/
def stB : Nat → List It → Nat → List It
  | 0, xs, a => insS xs a xs.length
  | f + 1, xs, a => if a + 20 ≤ xs.length then stB f (insS xs a (a + 20)) (a + 20) else insS xs a xs.length
theorem insS_len (xs : List It) (a b : Nat) : (insS xs a b).length = xs.length := insN_len _ _ _ _
theorem stB_step {f : Nat} {xs : List It} {a : Nat} (hf : xs.length - a ≤ f) (h : a + 20 ≤ xs.length) : stB f xs a = stB (f - 1) (insS xs a (a + 20)) (a + 20) := by
  cases f with
  | zero => omega
  | succ f => conv => lhs; unfold stB
              rw [if_pos h]; rfl
theorem stB_end {f : Nat} {xs : List It} {a : Nat} (h : ¬ a + 20 ≤ xs.length) : stB f xs a = insS xs a xs.length := by
  cases f with
  | zero => rfl
  | succ f => unfold stB; rw [if_neg h]
theorem stB_len : ∀ (f : Nat) (xs : List It) (a : Nat), (stB f xs a).length = xs.length
  | 0, xs, a => insS_len _ _ _
  | f + 1, xs, a => by
    unfold stB; split
    · rw [stB_len, insS_len]
    · exact insS_len _ _ _
theorem stB_fuel {f g : Nat} : ∀ {xs : List It} {a : Nat}, xs.length - a ≤ f → xs.length - a ≤ g → stB f xs a = stB g xs a := by
  induction f generalizing g with
  | zero => intro xs a h1 h2; rw [stB_end (by omega), stB_end (by omega)]
  | succ f ih =>
    intro xs a h1 h2
    by_cases h : a + 20 ≤ xs.length
    · rw [stB_step h1 h, stB_step h2 h]
      exact ih (by rw [insS_len]; omega) (by rw [insS_len]; omega)
    · rw [stB_end h, stB_end h]
def stP : Nat → List It → Nat → Nat → List It
  | 0, xs, z, a => if a + z < xs.length then symM (xs.length - a) xs a (a + z) xs.length else xs
  | f + 1, xs, z, a => if a + 2 * z ≤ xs.length then stP f (symM (2 * z) xs a (a + z) (a + 2 * z)) z (a + 2 * z) else if a + z < xs.length then symM (xs.length - a) xs a (a + z) xs.length else xs
theorem stP_step {f : Nat} {xs : List It} {z a : Nat} (hz : 0 < z) (hf : xs.length - a ≤ f) (h : a + 2 * z ≤ xs.length) : stP f xs z a = stP (f - 1) (symM (2 * z) xs a (a + z) (a + 2 * z)) z (a + 2 * z) := by
  cases f with
  | zero => omega
  | succ f => conv => lhs; unfold stP
              rw [if_pos h]; rfl
theorem stP_end {f : Nat} {xs : List It} {z a : Nat} (h : ¬ a + 2 * z ≤ xs.length) : stP f xs z a = if a + z < xs.length then symM (xs.length - a) xs a (a + z) xs.length else xs := by
  cases f with
  | zero => rfl
  | succ f => conv => lhs; unfold stP
              rw [if_neg h]
theorem stP_len : ∀ (f : Nat) (xs : List It) (z a : Nat), (stP f xs z a).length = xs.length
  | 0, xs, z, a => by
    unfold stP; split
    · exact symM_len _ _ _ _ _
    · rfl
  | f + 1, xs, z, a => by
    unfold stP; split
    · rw [stP_len, symM_len]
    · split
      · exact symM_len _ _ _ _ _
      · rfl
theorem stP_fuel {f g : Nat} : ∀ {xs : List It} {z a : Nat}, 0 < z → xs.length - a ≤ f → xs.length - a ≤ g → stP f xs z a = stP g xs z a := by
  induction f generalizing g with
  | zero => intro xs z a hz h1 h2; rw [stP_end (by omega), stP_end (by omega)]
  | succ f ih =>
    intro xs z a hz h1 h2
    by_cases h : a + 2 * z ≤ xs.length
    · rw [stP_step hz h1 h, stP_step hz h2 h]
      exact ih hz (by rw [symM_len]; omega) (by rw [symM_len]; omega)
    · rw [stP_end h, stP_end h]
def stM : Nat → Nat → List It → List It
  | 0, z, xs => xs
  | f + 1, z, xs => if z < xs.length then stM f (2 * z) (stP xs.length xs z 0) else xs
theorem stM_step {f z : Nat} {xs : List It} (hf : xs.length - z ≤ f) (h : z < xs.length) : stM f z xs = stM (f - 1) (2 * z) (stP xs.length xs z 0) := by
  cases f with
  | zero => omega
  | succ f => conv => lhs; unfold stM
              rw [if_pos h]; rfl
theorem stM_end {f z : Nat} {xs : List It} (h : ¬ z < xs.length) : stM f z xs = xs := by
  cases f with
  | zero => rfl
  | succ f => unfold stM; rw [if_neg h]
def stI (xs : List It) : List It := stM xs.length 20 (stB xs.length xs 0)
/-! Turned round. -/
def rvN : Nat → List It → Nat → List It
  | 0, xs, i => xs
  | f + 1, xs, i => if i + 1 + i < xs.length then rvN f (swI xs i (xs.length - 1 - i)) (i + 1) else xs
theorem rvN_step {f : Nat} {xs : List It} {i : Nat} (hf : 0 < f) (h : i + 1 + i < xs.length) : rvN f xs i = rvN (f - 1) (swI xs i (xs.length - 1 - i)) (i + 1) := by
  cases f with
  | zero => omega
  | succ f => conv => lhs; unfold rvN
              rw [if_pos h]; rfl
theorem rvN_end {f : Nat} {xs : List It} {i : Nat} (h : ¬ i + 1 + i < xs.length) : rvN f xs i = xs := by
  cases f with
  | zero => rfl
  | succ f => unfold rvN; rw [if_neg h]
def rvI (xs : List It) : List It := rvN xs.length xs 0
end Go.Proofs.Ythbcbfghfhecjaa
