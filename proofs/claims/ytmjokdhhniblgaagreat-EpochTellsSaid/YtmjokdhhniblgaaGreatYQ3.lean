import Derived.Test.YtmjokdhhniblgaaGreatYQ2
import Derived.Test.YtmjokdhhniblgaaGreatYB3
/-
  Hashes and items: the values; what the library's sorting makes of a list. Tags of lumps, as contracts of data. Trees: hashes and items compared, numbers as bytes, bits, lists without doubles, first places: the values. Trees: lists joined; places of sides; what is below: the values. Trees: the reference's Set and sides: the values. Trees: the order of items; lists that are rearranged and keep the order of those that are alike. Trees: the library's merging and its stable sort sort. Trees: merging neighbours and the stable sort: the general step. Trees: sets: the program's and the reference's are one; what stands in a strict order can be told apart by bits. Trees: entries as data. Trees: bits gathered anew; halves of a tree; items that change places: the values. Trees: halves; lists that hold the same items: the values.
-/
section
namespace Go.Proofs.YtmjokdhhniblgaaGreat
set_option linter.unusedVariables false
set_option linter.unusedSimpArgs false
open Go.RowKit Pl
/-- A hash: 32 bytes. -/
abbrev H := Fin 32 → UInt8
def H.l (h : H) : List UInt8 := List.ofFn h
def hdv (h : H) : List DV := (H.l h).flatMap bdv
structure It where
  ix : H
  vl : H
def It.dv (x : It) : List DV := hdv x.ix ++ hdv x.vl
def zeroH : H := fun _ => 0
def zeroI : It := ⟨zeroH, zeroH⟩
theorem h_len (h : H) : (hdv h).length = 32 := rfl
theorem it_len (x : It) : x.dv.length = 64 := rfl
theorem it_one (x : It) : x.dv.all DV.one = true := rfl
theorem H.l_len (h : H) : (H.l h).length = 32 := List.length_ofFn
theorem H.l_get (a : H) (i : Fin 32) : (H.l a)[i.val]? = some (a i) := by
  unfold H.l; rw [List.getElem?_ofFn, dif_pos i.isLt]
theorem H.l_inj {a b : H} (h : H.l a = H.l b) : a = b := by
  funext i
  have h1 := H.l_get a i
  rw [h, H.l_get b i] at h1
  exact (Option.some.inj h1).symm
theorem pl_h (h : H) : ∀ X ∈ hdv h, Pl X := pl_flat (fun b => pl_cons (pl_v _) pl_nil) _
theorem pl_it (x : It) : ∀ X ∈ x.dv, Pl X := pl_app (pl_h _) (pl_h _)
/-- One item's cells of a row's. -/
theorem flat_at {α : Type} {enc : α → List DV} {sz : Nat} (h : ∀ x, (enc x).length = sz) (xs : List α) {i : Nat} (hi : i < xs.length) : ((xs.flatMap enc).drop (i * sz)).take sz = enc xs[i] := by
  rw [flat_drop h, ← List.getElem_cons_drop hi, List.flatMap_cons]
  have := h xs[i]
  rw [← this, List.take_left]
def ltI (x y : It) : Bool := Op.bytesLess (H.l x.ix) (H.l y.ix)
def cmpIt (x y : It) : Int := Lib.compareBytes (H.l x.ix) (H.l y.ix)
theorem cmp_less : ∀ a b : List UInt8, Lib.compareBytes a b < 0 ↔ Op.bytesLess a b = true
  | [], [] => by simp [Lib.compareBytes, Op.bytesLess]
  | [], _ :: _ => by simp [Lib.compareBytes, Op.bytesLess]
  | _ :: _, [] => by simp [Lib.compareBytes, Op.bytesLess]
  | x :: a, y :: b => by
    unfold Lib.compareBytes Op.bytesLess
    by_cases h : x < y
    · simp [h]
    · by_cases k : y < x
      · have : ¬ x = y := fun e => by subst e; exact h k
        simp [h, k, this]
      · have e : x = y := UInt8.le_antisymm (UInt8.not_lt.1 k) (UInt8.not_lt.1 h)
        subst e
        simp [h, cmp_less a b]
theorem cmpIt_lt (x y : It) : cmpIt x y < 0 ↔ ltI x y = true := cmp_less _ _
theorem cmpIt_dec (x y : It) : decide (cmpIt x y < 0) = ltI x y := by
  cases h : ltI x y with
  | true => exact decide_eq_true ((cmpIt_lt x y).2 h)
  | false => exact decide_eq_false (fun q => by rw [(cmpIt_lt x y).1 q] at h; cases h)
def at_ (xs : List It) (i : Nat) : It := xs.getD i zeroI
theorem at_eq {xs : List It} {i : Nat} (h : i < xs.length) : at_ xs i = xs[i] := by unfold at_; simp [List.getD, h]
/-- x[i], x[j] = x[j], x[i]. -/
def swI (xs : List It) (i j : Nat) : List It := (xs.set i (at_ xs j)).set j (at_ xs i)
theorem swI_len (xs : List It) (i j : Nat) : (swI xs i j).length = xs.length := by unfold swI; simp
def insDown : Nat → List It → Nat → List It
  | 0, xs, a => xs
  | j + 1, xs, a => if a < j + 1 ∧ ltI (at_ xs (j + 1)) (at_ xs j) = true then insDown j (swI xs (j + 1) j) a else xs
theorem insDown_len : ∀ (j : Nat) (xs : List It) (a : Nat), (insDown j xs a).length = xs.length
  | 0, xs, a => rfl
  | j + 1, xs, a => by
    unfold insDown; split
    · rw [insDown_len, swI_len]
    · rfl
theorem insDown_step {j : Nat} {xs : List It} {a : Nat} (h : a < j) (hl : ltI (at_ xs j) (at_ xs (j - 1)) = true) : insDown j xs a = insDown (j - 1) (swI xs j (j - 1)) a := by
  cases j with
  | zero => omega
  | succ j => rw [Nat.add_sub_cancel] at hl ⊢; conv => lhs; unfold insDown
              rw [if_pos ⟨h, hl⟩]
theorem insDown_stop {j : Nat} {xs : List It} {a : Nat} (h : ¬ (a < j ∧ ltI (at_ xs j) (at_ xs (j - 1)) = true)) : insDown j xs a = xs := by
  cases j with
  | zero => rfl
  | succ j => rw [Nat.add_sub_cancel] at h; unfold insDown; rw [if_neg h]
def insN : Nat → List It → Nat → Nat → List It
  | 0, xs, a, i => xs
  | n + 1, xs, a, i => insN n (insDown i xs a) a (i + 1)
theorem insN_len : ∀ (n : Nat) (xs : List It) (a i : Nat), (insN n xs a i).length = xs.length
  | 0, xs, a, i => rfl
  | n + 1, xs, a, i => by unfold insN; rw [insN_len, insDown_len]
def insS (xs : List It) (a b : Nat) : List It := insN (b - (a + 1)) xs a (a + 1)
/-- Two ranges of n change places. -/
def swR : Nat → List It → Nat → Nat → Nat → List It
  | 0, xs, a, b, i => xs
  | n + 1, xs, a, b, i => swR n (swI xs (a + i) (b + i)) a b (i + 1)
theorem swR_len : ∀ (n : Nat) (xs : List It) (a b i : Nat), (swR n xs a b i).length = xs.length
  | 0, xs, a, b, i => rfl
  | n + 1, xs, a, b, i => by unfold swR; rw [swR_len, swI_len]
/-- Rotating by changing ranges. -/
def rotG : Nat → List It → Nat → Nat → Nat → List It
  | 0, xs, m, i, j => xs
  | f + 1, xs, m, i, j => if i = j then swR i xs (m - i) m 0 else if j < i then rotG f (swR j xs (m - i) m 0) m (i - j) j else rotG f (swR i xs (m - i) (m + j - i) 0) m i (j - i)
theorem rotG_len : ∀ (f : Nat) (xs : List It) (m i j : Nat), (rotG f xs m i j).length = xs.length
  | 0, xs, m, i, j => rfl
  | f + 1, xs, m, i, j => by
    unfold rotG; split
    · exact swR_len _ _ _ _ _
    · split <;> rw [rotG_len, swR_len]
theorem rotG_eq {f : Nat} {xs : List It} {m i j : Nat} (hf : 0 < f) (h : i = j) : rotG f xs m i j = swR i xs (m - i) m 0 := by
  cases f with
  | zero => omega
  | succ f => unfold rotG; rw [if_pos h]
theorem rotG_gt {f : Nat} {xs : List It} {m i j : Nat} (hf : 0 < f) (h : ¬ i = j) (k : j < i) : rotG f xs m i j = rotG (f - 1) (swR j xs (m - i) m 0) m (i - j) j := by
  cases f with
  | zero => omega
  | succ f => conv => lhs; unfold rotG
              rw [if_neg h, if_pos k]; rfl
theorem rotG_lt {f : Nat} {xs : List It} {m i j : Nat} (hf : 0 < f) (h : ¬ i = j) (k : ¬ j < i) : rotG f xs m i j = rotG (f - 1) (swR i xs (m - i) (m + j - i) 0) m i (j - i) := by
  cases f with
  | zero => omega
  | succ f => conv => lhs; unfold rotG
              rw [if_neg h, if_neg k]; rfl
def rotI (xs : List It) (a m b : Nat) : List It := rotG (b - a) xs m (m - a) (b - m)
theorem rotI_len (xs : List It) (a m b : Nat) : (rotI xs a m b).length = xs.length := rotG_len _ _ _ _ _
/-- The first place from i on where p ends, by halves. -/
def bsP (p : Nat → Bool) : Nat → Nat → Nat → Nat
  | 0, i, _ => i
  | f + 1, i, j => if i < j then (if p ((i + j) / 2) = true then bsP p f ((i + j) / 2 + 1) j else bsP p f i ((i + j) / 2)) else i
theorem bsP_step {p : Nat → Bool} {f i j : Nat} (h : i < j) (hf : j - i ≤ f) : bsP p f i j = if p ((i + j) / 2) = true then bsP p (f - 1) ((i + j) / 2 + 1) j else bsP p (f - 1) i ((i + j) / 2) := by
  cases f with
  | zero => omega
  | succ f => rw [Nat.add_sub_cancel]; conv => lhs; unfold bsP
              rw [if_pos h]
theorem bsP_end {p : Nat → Bool} {f i j : Nat} (h : ¬ i < j) : bsP p f i j = i := by
  cases f with
  | zero => rfl
  | succ f => unfold bsP; rw [if_neg h]
theorem bsP_le {p : Nat → Bool} : ∀ (f i j : Nat), i ≤ j → i ≤ bsP p f i j ∧ bsP p f i j ≤ j
  | 0, i, j, h => ⟨Nat.le_refl _, h⟩
  | f + 1, i, j, h => by
    unfold bsP
    split
    · split
      · have := bsP_le (p := p) f ((i + j) / 2 + 1) j (by omega); omega
      · have := bsP_le (p := p) f i ((i + j) / 2) (by omega); omega
    · omega
def bubF : Nat → List It → Nat → List It
  | 0, xs, k => xs
  | n + 1, xs, k => bubF n (swI xs k (k + 1)) (k + 1)
def bubB : Nat → List It → Nat → List It
  | 0, xs, k => xs
  | n + 1, xs, k => bubB n (swI xs k (k - 1)) (k - 1)
theorem bubF_len : ∀ (n : Nat) (xs : List It) (k : Nat), (bubF n xs k).length = xs.length
  | 0, xs, k => rfl
  | n + 1, xs, k => by unfold bubF; rw [bubF_len, swI_len]
theorem bubB_len : ∀ (n : Nat) (xs : List It) (k : Nat), (bubB n xs k).length = xs.length
  | 0, xs, k => rfl
  | n + 1, xs, k => by unfold bubB; rw [bubB_len, swI_len]
/-- Merging two neighbours. -/
def symA (xs : List It) (a m b : Nat) : List It := bubF (bsP (fun h => ltI (at_ xs h) (at_ xs a)) (b - m) m b - 1 - a) xs a
def symB (xs : List It) (a m b : Nat) : List It := bubB (m - bsP (fun h => !ltI (at_ xs m) (at_ xs h)) (m - a) a m) xs m
def symS (a m b : Nat) : Nat := if (a + b) / 2 < m then (a + b) / 2 + m - b else a
def symR (a m b : Nat) : Nat := if (a + b) / 2 < m then (a + b) / 2 else m
def symC (xs : List It) (a m b : Nat) : Nat := bsP (fun c => !ltI (at_ xs ((a + b) / 2 + m - 1 - c)) (at_ xs c)) (symR a m b - symS a m b) (symS a m b) (symR a m b)
def symX (xs : List It) (a m b : Nat) : List It := if symC xs a m b < m ∧ m < (a + b) / 2 + m - symC xs a m b then rotI xs (symC xs a m b) m ((a + b) / 2 + m - symC xs a m b) else xs
def symM : Nat → List It → Nat → Nat → Nat → List It
  | 0, xs, a, m, b => xs
  | f + 1, xs, a, m, b =>
    if m - a = 1 then symA xs a m b else if b - m = 1 then symB xs a m b
    else
      let s := symC xs a m b
      let e := (a + b) / 2 + m - s
      let ys := symX xs a m b
      let zs := if a < s ∧ s < (a + b) / 2 then symM f ys a s ((a + b) / 2) else ys
      if (a + b) / 2 < e ∧ e < b then symM f zs ((a + b) / 2) e b else zs
theorem symX_len (xs : List It) (a m b : Nat) : (symX xs a m b).length = xs.length := by
  unfold symX
  split
  · exact rotI_len _ _ _ _
  · rfl
theorem symM_len : ∀ (f : Nat) (xs : List It) (a m b : Nat), (symM f xs a m b).length = xs.length
  | 0, xs, a, m, b => rfl
  | f + 1, xs, a, m, b => by
    unfold symM
    split
    · exact bubF_len _ _ _
    · split
      · exact bubB_len _ _ _
      · simp only
        split
        · rw [symM_len]
          split
          · rw [symM_len, symX_len]
          · rw [symX_len]
        · split
          · rw [symM_len, symX_len]
          · rw [symX_len]
theorem symSR (a m b : Nat) : ((a + b) / 2 < m ∧ symS a m b = (a + b) / 2 + m - b ∧ symR a m b = (a + b) / 2) ∨ (¬ (a + b) / 2 < m ∧ symS a m b = a ∧ symR a m b = m) := by
  unfold symS symR
  by_cases h : (a + b) / 2 < m
  · exact .inl ⟨h, if_pos h, if_pos h⟩
  · exact .inr ⟨h, if_neg h, if_neg h⟩
theorem symC_bd (xs : List It) {a m b : Nat} (ham : a < m) (hmb : m < b) : symS a m b ≤ symC xs a m b ∧ symC xs a m b ≤ symR a m b := bsP_le _ _ _ (by have := symSR a m b; omega)
def stB : Nat → List It → Nat → List It
  | 0, xs, a => insS xs a xs.length
  | f + 1, xs, a => if a + 20 ≤ xs.length then stB f (insS xs a (a + 20)) (a + 20) else insS xs a xs.length
theorem insS_len (xs : List It) (a b : Nat) : (insS xs a b).length = xs.length := insN_len _ _ _ _
theorem stB_step {f : Nat} {xs : List It} {a : Nat} (hf : xs.length - a ≤ f) (h : a + 20 ≤ xs.length) : stB f xs a = stB (f - 1) (insS xs a (a + 20)) (a + 20) := by
  cases f with
  | zero => omega
  | succ f => conv => lhs; unfold stB
              rw [if_pos h]; rfl
theorem stB_end {f : Nat} {xs : List It} {a : Nat} (h : ¬ a + 20 ≤ xs.length) : stB f xs a = insS xs a xs.length := by
  cases f with
  | zero => rfl
  | succ f => unfold stB; rw [if_neg h]
theorem stB_len : ∀ (f : Nat) (xs : List It) (a : Nat), (stB f xs a).length = xs.length
  | 0, xs, a => insS_len _ _ _
  | f + 1, xs, a => by
    unfold stB; split
    · rw [stB_len, insS_len]
    · exact insS_len _ _ _
theorem stB_fuel {f g : Nat} : ∀ {xs : List It} {a : Nat}, xs.length - a ≤ f → xs.length - a ≤ g → stB f xs a = stB g xs a := by
  induction f generalizing g with
  | zero => intro xs a h1 h2; rw [stB_end (by omega), stB_end (by omega)]
  | succ f ih =>
    intro xs a h1 h2
    by_cases h : a + 20 ≤ xs.length
    · rw [stB_step h1 h, stB_step h2 h]
      exact ih (by rw [insS_len]; omega) (by rw [insS_len]; omega)
    · rw [stB_end h, stB_end h]
def stP : Nat → List It → Nat → Nat → List It
  | 0, xs, z, a => if a + z < xs.length then symM (xs.length - a) xs a (a + z) xs.length else xs
  | f + 1, xs, z, a => if a + 2 * z ≤ xs.length then stP f (symM (2 * z) xs a (a + z) (a + 2 * z)) z (a + 2 * z) else if a + z < xs.length then symM (xs.length - a) xs a (a + z) xs.length else xs
theorem stP_step {f : Nat} {xs : List It} {z a : Nat} (hz : 0 < z) (hf : xs.length - a ≤ f) (h : a + 2 * z ≤ xs.length) : stP f xs z a = stP (f - 1) (symM (2 * z) xs a (a + z) (a + 2 * z)) z (a + 2 * z) := by
  cases f with
  | zero => omega
  | succ f => conv => lhs; unfold stP
              rw [if_pos h]; rfl
theorem stP_end {f : Nat} {xs : List It} {z a : Nat} (h : ¬ a + 2 * z ≤ xs.length) : stP f xs z a = if a + z < xs.length then symM (xs.length - a) xs a (a + z) xs.length else xs := by
  cases f with
  | zero => rfl
  | succ f => conv => lhs; unfold stP
              rw [if_neg h]
theorem stP_len : ∀ (f : Nat) (xs : List It) (z a : Nat), (stP f xs z a).length = xs.length
  | 0, xs, z, a => by
    unfold stP; split
    · exact symM_len _ _ _ _ _
    · rfl
  | f + 1, xs, z, a => by
    unfold stP; split
    · rw [stP_len, symM_len]
    · split
      · exact symM_len _ _ _ _ _
      · rfl
theorem stP_fuel {f g : Nat} : ∀ {xs : List It} {z a : Nat}, 0 < z → xs.length - a ≤ f → xs.length - a ≤ g → stP f xs z a = stP g xs z a := by
  induction f generalizing g with
  | zero => intro xs z a hz h1 h2; rw [stP_end (by omega), stP_end (by omega)]
  | succ f ih =>
    intro xs z a hz h1 h2
    by_cases h : a + 2 * z ≤ xs.length
    · rw [stP_step hz h1 h, stP_step hz h2 h]
      exact ih hz (by rw [symM_len]; omega) (by rw [symM_len]; omega)
    · rw [stP_end h, stP_end h]
def stM : Nat → Nat → List It → List It
  | 0, z, xs => xs
  | f + 1, z, xs => if z < xs.length then stM f (2 * z) (stP xs.length xs z 0) else xs
theorem stM_step {f z : Nat} {xs : List It} (hf : xs.length - z ≤ f) (h : z < xs.length) : stM f z xs = stM (f - 1) (2 * z) (stP xs.length xs z 0) := by
  cases f with
  | zero => omega
  | succ f => conv => lhs; unfold stM
              rw [if_pos h]; rfl
theorem stM_end {f z : Nat} {xs : List It} (h : ¬ z < xs.length) : stM f z xs = xs := by
  cases f with
  | zero => rfl
  | succ f => unfold stM; rw [if_neg h]
def stI (xs : List It) : List It := stM xs.length 20 (stB xs.length xs 0)
def rvN : Nat → List It → Nat → List It
  | 0, xs, i => xs
  | f + 1, xs, i => if i + 1 + i < xs.length then rvN f (swI xs i (xs.length - 1 - i)) (i + 1) else xs
theorem rvN_step {f : Nat} {xs : List It} {i : Nat} (hf : 0 < f) (h : i + 1 + i < xs.length) : rvN f xs i = rvN (f - 1) (swI xs i (xs.length - 1 - i)) (i + 1) := by
  cases f with
  | zero => omega
  | succ f => conv => lhs; unfold rvN
              rw [if_pos h]; rfl
theorem rvN_end {f : Nat} {xs : List It} {i : Nat} (h : ¬ i + 1 + i < xs.length) : rvN f xs i = xs := by
  cases f with
  | zero => rfl
  | succ f => unfold rvN; rw [if_neg h]
def rvI (xs : List It) : List It := rvN xs.length xs 0
end Go.Proofs.YtmjokdhhniblgaaGreat
end
section
namespace Go.Proofs.YtmjokdhhniblgaaGreat
set_option linter.unusedVariables false
set_option linter.unusedSimpArgs false
open Go.RowKit Pl
theorem flat_one_get {α : Type} (f : α → DV) : ∀ (xs : List α) (i : Nat), (xs.flatMap (fun x => [f x]))[i]? = (xs[i]?).map f
  | [], i => by simp
  | x :: r, 0 => rfl
  | x :: r, i + 1 => by simpa using flat_one_get f r i
theorem rd_of_rep {w : World} {v : Value} {l : List UInt8} (h : (slT bdv 1 l).rep noK w v) : Rd w v l := by
  unfold slT DV.rep at h
  rcases h with ⟨rfl, h, _⟩ | ⟨b, o, c, rfl, h1, h2, h3, h4, h5⟩
  · exact .inl ⟨rfl, List.eq_nil_of_length_eq_zero h⟩
  · refine .inr ⟨b, o, c, rfl, h1, h2, fun i hi => ?_⟩
    obtain ⟨u, k1, k2, k3⟩ := repAt_get h5 (i := i) (X := .v (.int .u8 l[i].toNat)) (by
      have := flat_one_get (fun b : UInt8 => DV.v (.int .u8 b.toNat)) l i
      rw [List.getElem?_eq_getElem hi] at this
      exact this)
    unfold DV.rep at k3; subst k3
    exact k1
def ldv (l : List UInt8) : List DV := [slT bdv 1 l]
theorem rdl_of_rep {w : World} {v : Value} {ls : List (List UInt8)} (h : (slT ldv 1 ls).rep noK w v) : RdL w v ls := by
  unfold slT DV.rep at h
  rcases h with ⟨rfl, h, _⟩ | ⟨b, o, c, rfl, h1, h2, h3, h4, h5⟩
  · exact .inl ⟨rfl, List.eq_nil_of_length_eq_zero h⟩
  · refine .inr ⟨b, o, c, rfl, h1, h2, fun i hi => ?_⟩
    obtain ⟨u, k1, k2, k3⟩ := repAt_get h5 (i := i) (X := slT bdv 1 ls[i]) (by
      have := flat_one_get (fun l : List UInt8 => slT bdv 1 l) ls i
      rw [List.getElem?_eq_getElem hi] at this
      exact this)
    exact ⟨u, k1, rd_of_rep k3⟩
def ofL (l : List UInt8) : H := fun i => l.getD i.val 0
theorem ofL_l {l : List UInt8} (h : l.length = 32) : H.l (ofL l) = l := by
  apply List.ext_getElem?
  intro i
  by_cases hi : i < 32
  · rw [show i = (⟨i, hi⟩ : Fin 32).val from rfl, H.l_get]
    simp [ofL, List.getD, List.getElem?_eq_getElem (show i < l.length by omega)]
  · rw [List.getElem?_eq_none (by rw [H.l_len]; omega), List.getElem?_eq_none (by omega)]
theorem hash_rep {K : Nat → Prop} {w : World} {l : List UInt8} (h : l.length = 32) : (DV.ag (hdv (ofL l))).rep K w (hashV l) := by
  unfold DV.rep
  refine ⟨bvs l, rfl, ?_⟩
  unfold hdv
  rw [ofL_l h]
  clear h
  induction l with
  | nil => simp [repL, bvs]
  | cons x r ih =>
    show repL K w (DV.v (.int .u8 x.toNat) :: r.flatMap bdv) (bv x :: bvs r)
    unfold repL
    exact ⟨_, _, rfl, by unfold DV.rep; rfl, ih⟩
theorem pf_tag {P : Program} {f : FuncId} {tag : Int} {ls : List (List UInt8)} {h : List UInt8} (hl : h.length = 32) (hc : ∀ v w, RdL w v ls → Calls P f #[.int .u8 tag, v] w fun e w' => e = .returned (hashV h) ∧ Below w.heap.size w w') : PF P f [.v (.int .u8 tag), slT ldv 1 ls] (.ag (hdv (ofL h))) := fun w us hr => by
  unfold repL at hr
  obtain ⟨u, t, rfl, r1, hr⟩ := hr
  unfold repL at hr
  obtain ⟨v, t', rfl, r2, hr⟩ := hr
  unfold repL at hr; subst hr
  unfold DV.rep at r1; subst r1
  exact (hc v w (rdl_of_rep r2)).mono fun e w' ⟨h1, h2⟩ => ⟨_, h1, h2, fun K _ => hash_rep hl⟩
/-- A tag of lumps. -/
def tagH (tag : Int) (ls : List (List UInt8)) : H := ofL (sumB (textB tag ls))
theorem tag_pf (tag : Int) (ls : List (List UInt8)) (h0 : 0 ≤ tag) (h1 : tag < 256) (hl : textLen ls ≤ 549755813888) : PF Tryz.prog 64 [.v (.int .u8 tag), slT ldv 1 ls] (.ag (hdv (tagH tag ls))) := pf_tag (sumB_length _) fun v w hv => tag_any tag v ls w h0 h1 hv hl
theorem rtag_pf (tag : Int) (ls : List (List UInt8)) (h0 : 0 ≤ tag) (h1 : tag < 256) (hl : textLen ls ≤ 549755813888) : PF Tryz.prog 44 [.v (.int .u8 tag), slT ldv 1 ls] (.ag (hdv (tagH tag ls))) := pf_tag (sumB_length _) fun v w hv => rtag_any tag v ls w h0 h1 hv hl
end Go.Proofs.YtmjokdhhniblgaaGreat
end
section
namespace Go.Proofs.YtmjokdhhniblgaaGreat
set_option linter.unusedVariables false
set_option linter.unusedSimpArgs false
open Go.RowKit Pl
abbrev hks : List LK := List.replicate 32 (.i .u8)
def u8v (l : List UInt8) : List Value := l.map fun b => .int .u8 b.toNat
theorem vals_u8 : ∀ l : List UInt8, vals (l.flatMap bdv) = some (u8v l)
  | [] => rfl
  | x :: r => by
    show vals (DV.v (.int .u8 x.toNat) :: r.flatMap bdv) = _
    simp only [vals, vals_u8 r, Option.map_some]; rfl
theorem wf_byte (b : UInt8) : (Lit.int .u8 b.toNat).wf = true := by
  have := b.toNat_lt
  simp only [Lit.wf, IntKind.min, IntKind.max, IntKind.bits, IntKind.signed, Bool.and_eq_true, decide_eq_true_eq]
  constructor <;> simp <;> omega
theorem lits_u8 : ∀ l : List UInt8, lits (List.replicate l.length (.i .u8)) (u8v l) = some (l.map fun b => .int .u8 b.toNat)
  | [] => rfl
  | x :: r => by
    show lits (LK.i .u8 :: List.replicate r.length (.i .u8)) (Value.int .u8 x.toNat :: u8v r) = _
    simp only [lits, LK.lit, wf_byte, and_self, if_true, lits_u8 r, List.map_cons]
theorem u8v_inj {l m : List UInt8} : u8v l = u8v m ↔ l = m := by
  refine ⟨fun h => ?_, fun h => by rw [h]⟩
  unfold u8v at h
  refine List.map_inj_right (f := fun b : UInt8 => Value.int .u8 b.toNat) (fun x y e => ?_) |>.1 h
  simp only [Value.int.injEq, true_and] at e
  exact UInt8.toNat_inj.1 (by omega)
section
variable {P : Program} {C : Cx} {L : Lo} {Γ : Ga} {d : Nat} {ty : TypeId} {pos : String} {af : Array Edge} {gd : Option (Nat × Bool)}
theorem Pl.OT.equ8 {xt yt : TypeId} {x y : Operand} {cs ds : List DV} (l m : List UInt8) (n : Nat) (hn : Nat.blt d C.n = true) (hx : evd L x = some (.ag cs)) (hy : evd L y = some (.ag ds)) (hc : cs = l.flatMap bdv) (hd : ds = m.flatMap bdv) (ht : eqT P xt = some (List.replicate n (.i .u8))) (hl : l.length = n) (hm : m.length = n) :
    OT P C ⟨some d, .binOp .eql xt x y yt, ty, pos, af, gd⟩ L Γ (upd L d (.f (.v (.bool (decide (l = m)))))) Γ := by
  subst hc; subst hd
  exact .eqag _ hn hx hy (vals_u8 l) (vals_u8 m) ht (by rw [← hl]; exact lits_u8 l) (by rw [← hm]; exact lits_u8 m) (by rw [decide_eq_true_eq, u8v_inj])
theorem Pl.OT.neu8 {xt yt : TypeId} {x y : Operand} {cs ds : List DV} (l m : List UInt8) (n : Nat) (hn : Nat.blt d C.n = true) (hx : evd L x = some (.ag cs)) (hy : evd L y = some (.ag ds)) (hc : cs = l.flatMap bdv) (hd : ds = m.flatMap bdv) (ht : eqT P xt = some (List.replicate n (.i .u8))) (hl : l.length = n) (hm : m.length = n) :
    OT P C ⟨some d, .binOp .neq xt x y yt, ty, pos, af, gd⟩ L Γ (upd L d (.f (.v (.bool (decide (¬ l = m)))))) Γ := by
  subst hc; subst hd
  exact .neag _ hn hx hy (vals_u8 l) (vals_u8 m) ht (by rw [← hl]; exact lits_u8 l) (by rw [← hm]; exact lits_u8 m) (by rw [decide_eq_true_eq, u8v_inj])
theorem Pl.OT.eqh {xt yt : TypeId} {x y : Operand} {a b : H} (hn : Nat.blt d C.n = true) (hx : evd L x = some (.ag (hdv a))) (hy : evd L y = some (.ag (hdv b))) (ht : eqT P xt = some hks) :
    OT P C ⟨some d, .binOp .eql xt x y yt, ty, pos, af, gd⟩ L Γ (upd L d (.f (.v (.bool (decide (H.l a = H.l b)))))) Γ := .equ8 _ _ 32 hn hx hy rfl rfl ht (H.l_len a) (H.l_len b)
theorem Pl.OT.neh {xt yt : TypeId} {x y : Operand} {a b : H} (hn : Nat.blt d C.n = true) (hx : evd L x = some (.ag (hdv a))) (hy : evd L y = some (.ag (hdv b))) (ht : eqT P xt = some hks) :
    OT P C ⟨some d, .binOp .neq xt x y yt, ty, pos, af, gd⟩ L Γ (upd L d (.f (.v (.bool (decide (¬ H.l a = H.l b)))))) Γ := .neu8 _ _ 32 hn hx hy rfl rfl ht (H.l_len a) (H.l_len b)
end
theorem repL_u8 {K : Nat → Prop} {w : World} : ∀ l : List UInt8, repL K w (l.flatMap bdv) (bvs l)
  | [] => by simp [repL, bvs]
  | x :: r => by
    show repL K w (DV.v (.int .u8 x.toNat) :: r.flatMap bdv) (bv x :: bvs r)
    unfold repL
    exact ⟨_, _, rfl, by unfold DV.rep; rfl, repL_u8 r⟩
theorem po_own {P : Program} {f : FuncId} {u : Value} {l : List UInt8} (hc : ∀ w, Calls P f #[u] w (GivesOwn w l)) : PO P f [.v u] 5 1 l.length (l.flatMap bdv) := fun w us hr => by
  unfold repL at hr
  obtain ⟨v, t, rfl, r1, hr⟩ := hr
  unfold repL at hr; subst hr
  unfold DV.rep at r1; subst r1
  exact (hc w).mono fun e w' ⟨v, h1, h2, h3⟩ => ⟨v, bvs l, h1, h3, h2, bvs_one l, fun K _ => repL_u8 l⟩
theorem num_po (n : Int) (h0 : 0 ≤ n) (h1 : n < 18446744073709551616) : PO Tryz.prog 66 [.v (.int .u64 n)] 5 1 (numB n).length ((numB n).flatMap bdv) := po_own fun w => (num_any n w h0 h1).mono fun e w' ⟨h2, h3⟩ => by
  subst h3
  exact ⟨_, h2, own_lit w w.heap.size (numB n) (Nat.le_refl _) (by simp [numB, maxLen]), bl_alloc (Below.refl _ _) _⟩
theorem rnum_po (n : Int) (h0 : 0 ≤ n) (h1 : n < 18446744073709551616) : PO Tryz.prog 78 [.v (.int .u64 n)] 5 1 (numB n).length ((numB n).flatMap bdv) := po_own fun w => rnum_any n w h0 h1
theorem num_pf (n : Int) (h0 : 0 ≤ n) (h1 : n < 18446744073709551616) : PF Tryz.prog 66 [.v (.int .u64 n)] (slT bdv 1 (numB n)) := (num_po n h0 h1).pf
theorem rnum_pf (n : Int) (h0 : 0 ≤ n) (h1 : n < 18446744073709551616) : PF Tryz.prog 78 [.v (.int .u64 n)] (slT bdv 1 (numB n)) := (rnum_po n h0 h1).pf
def u64w (n : Int) : Int := n % 18446744073709551616
theorem u64w_bd (n : Int) : 0 ≤ u64w n ∧ u64w n < 18446744073709551616 := by unfold u64w; omega
theorem numB_len (n : Int) : (numB n).length = 8 := rfl
def indexH (nm : List UInt8) : H := tagH 105 [nm]
def valueH (ver key : Int) : H := tagH 118 [numB (u64w ver), numB key]
def itemI (nm : List UInt8) (ver key : Int) : It := ⟨indexH nm, valueH ver key⟩
def emptyH : H := tagH 122 []
def leafH (x : It) : H := tagH 108 [H.l x.ix, H.l x.vl]
def nodeH (a b : H) : H := tagH 110 [H.l a, H.l b]
def byteN (h : H) (k : Nat) : Nat := if hk : k < 32 then (h ⟨k, hk⟩).toNat else 0
def bitN (h : H) (k : Nat) : Nat := byteN h (k / 8) / 2 ^ (7 - k % 8) % 2
def bitI (h : H) (i : Int) : Int := if i < 0 then 0 else if i ≥ 256 then 0 else (bitN h i.toNat : Nat)
theorem bitI_nat (h : H) {k : Nat} (hk : k < 256) : bitI h (k : Int) = ((bitN h k : Nat) : Int) := by
  unfold bitI; rw [if_neg (by omega), if_neg (by omega), Int.toNat_natCast]
theorem bitN_lt (h : H) (k : Nat) : bitN h k < 2 := by unfold bitN; omega
theorem byteN_lt (h : H) (k : Nat) : byteN h k < 256 := by unfold byteN; split; exact UInt8.toNat_lt _; omega
theorem hdv_byte (h : H) {k : Nat} (hk : k < 32) : (hdv h)[k]? = some (.v (.int .u8 ((byteN h k : Nat) : Int))) := by
  unfold hdv byteN
  rw [u8_get, show k = (⟨k, hk⟩ : Fin 32).val from rfl, H.l_get, dif_pos hk]; rfl
theorem shr_bit {n j : Nat} (hj : j ≤ 7) : ((n : Nat) : Int).fdiv (2 ^ (min ((j : Nat) : Int).toNat IntKind.u8.bits)) = ((n / 2 ^ j : Nat) : Int) := by
  have : min ((j : Nat) : Int).toNat IntKind.u8.bits = j := by have : IntKind.u8.bits = 8 := rfl; rw [this]; omega
  have e : (2 : Int) ^ j = ((2 ^ j : Nat) : Int) := by rw [Int.natCast_pow]; rfl
  rw [this, e, Int.fdiv_eq_ediv_of_nonneg _ (Int.natCast_nonneg _), Int.natCast_ediv]
theorem and1_i64 (n : Nat) (h : n < 256) : IntKind.i64.wrap (BitVec.ofInt IntKind.i64.bits ((n : Nat) : Int) &&& BitVec.ofInt IntKind.i64.bits 1).toNat = ((n % 2 : Nat) : Int) := by
  have h1 : IntKind.i64.bits = 64 := rfl
  rw [h1]
  have : (BitVec.ofInt 64 ((n : Nat) : Int) &&& BitVec.ofInt 64 1).toNat = n % 2 := by
    rw [BitVec.toNat_and]
    have e1 : (BitVec.ofInt 64 ((n : Nat) : Int)).toNat = n := by rw [BitVec.ofInt_natCast, BitVec.toNat_ofNat]; omega
    have e2 : (BitVec.ofInt 64 1).toNat = 1 := rfl
    rw [e1, e2, Nat.and_one_is_mod]
  rw [this, IntKind.wrap_i64]; omega
theorem and1_u8 (n : Nat) (h : n < 256) : IntKind.u8.wrap (BitVec.ofInt IntKind.u8.bits ((n : Nat) : Int) &&& BitVec.ofInt IntKind.u8.bits 1).toNat = ((n % 2 : Nat) : Int) := by
  have h1 : IntKind.u8.bits = 8 := rfl
  rw [h1]
  have : (BitVec.ofInt 8 ((n : Nat) : Int) &&& BitVec.ofInt 8 1).toNat = n % 2 := by
    rw [BitVec.toNat_and]
    have e1 : (BitVec.ofInt 8 ((n : Nat) : Int)).toNat = n := by rw [BitVec.ofInt_natCast, BitVec.toNat_ofNat]; omega
    have e2 : (BitVec.ofInt 8 1).toNat = 1 := rfl
    rw [e1, e2, Nat.and_one_is_mod]
  rw [this, IntKind.wrap_u8]; omega
def alike (x y : It) : Bool := decide (H.l x.ix = H.l y.ix)
def ddp (p : It) : List It → List It
  | [] => []
  | x :: r => if alike x p = true then ddp x r else x :: ddp x r
def dd : List It → List It
  | [] => []
  | x :: r => x :: ddp x r
theorem ddp_snoc : ∀ (l : List It) (p x : It), ddp p (l ++ [x]) = if alike x (l.getLastD p) = true then ddp p l else ddp p l ++ [x]
  | [], p, x => by
    show ddp p [x] = if alike x p = true then [] else [x]
    unfold ddp; split <;> rfl
  | y :: r, p, x => by
    have e : (y :: r).getLastD p = r.getLastD y := by cases r <;> rfl
    rw [List.cons_append, e]
    unfold ddp
    rw [ddp_snoc r y x]
    by_cases h1 : alike y p = true
    · rw [if_pos h1, if_pos h1]
    · rw [if_neg h1, if_neg h1]
      by_cases h2 : alike x (r.getLastD y) = true
      · rw [if_pos h2, if_pos h2]
      · rw [if_neg h2, if_neg h2]; rfl
theorem last_take {x : It} {r : List It} {j : Nat} (hj : j < r.length) : (r.take j).getLastD x = (x :: r)[j]'(by simp; omega) := by
  cases j with
  | zero => simp [List.getLastD]
  | succ j =>
    rw [List.getLastD_eq_getLast?, List.getLast?_eq_getElem?]
    simp only [List.length_take, Nat.min_eq_left (Nat.le_of_lt hj), Nat.add_sub_cancel, List.getElem_cons_succ]
    rw [List.getElem?_take_of_lt (by omega), List.getElem?_eq_getElem (by omega)]
    rfl
theorem dd_snoc {l : List It} {k : Nat} (h0 : 0 < k) (hk : k < l.length) : dd (l.take (k + 1)) = if alike l[k] (l[k - 1]'(by omega)) = true then dd (l.take k) else dd (l.take k) ++ [l[k]] := by
  cases l with
  | nil => simp at hk
  | cons x r =>
    obtain ⟨j, rfl⟩ : ∃ j, k = j + 1 := ⟨k - 1, by omega⟩
    have hj : j < r.length := by simpa using hk
    have e := last_take (x := x) hj
    rw [List.take_succ_cons, List.take_succ_cons, take_snoc' hj]
    show x :: ddp x (r.take j ++ [r[j]]) = if alike r[j] ((x :: r)[j]'(by simp; omega)) = true then x :: ddp x (r.take j) else (x :: ddp x (r.take j)) ++ [r[j]]
    rw [ddp_snoc, e]
    split <;> rfl
theorem dd_one {l : List It} (h : l.length < 2) : dd l = l := by
  match l, h with
  | [], _ => rfl
  | [x], _ => rfl
  | _ :: _ :: _, h => simp at h; omega
theorem drop_more {α : Type} {a b : List α} {n : Nat} (h : a.drop (n - 1) = b.drop (n - 1)) : a.drop n = b.drop n := by
  rcases Nat.eq_zero_or_pos n with rfl | hn
  · exact h
  · have := congrArg (List.drop 1) h
    rwa [List.drop_drop, List.drop_drop, Nat.sub_add_cancel hn] at this
theorem get_drop {α : Type} {a b : List α} {n i : Nat} (h : a.drop n = b.drop n) (hi : n ≤ i) (ha : i < a.length) (hb : i < b.length) : a[i] = b[i] := by
  have h1 : (a.drop n)[i - n]? = (b.drop n)[i - n]? := by rw [h]
  rw [List.getElem?_drop, List.getElem?_drop, Nat.add_sub_cancel' hi, List.getElem?_eq_getElem ha, List.getElem?_eq_getElem hb] at h1
  exact Option.some.inj h1
theorem get_same {α : Type} {a : List α} {i j : Nat} (h : i = j) (hi : i < a.length) (hj : j < a.length) : a[i] = a[j] := by subst h; rfl
theorem take_set_snoc {α : Type} {a : List α} {i : Nat} {x : α} (h : i < a.length) : (a.set i x).take (i + 1) = a.take i ++ [x] := by
  rw [List.take_succ_eq_append_getElem (by rw [List.length_set]; exact h), List.take_set_of_le (Nat.le_refl _), List.getElem_set_self]
def fst_ (p : It → Bool) : List It → Nat
  | [] => 0
  | x :: r => if p x then 0 else fst_ p r + 1
theorem fst_le (p : It → Bool) : ∀ l, fst_ p l ≤ l.length
  | [] => by simp [fst_]
  | x :: r => by unfold fst_; split <;> simp; exact fst_le p r
theorem fst_app (p : It → Bool) (x : It) (hx : p x = true) : ∀ l, fst_ p (l ++ [x]) = fst_ p l
  | [] => by simp [fst_, hx]
  | y :: r => by simp only [List.cons_append, fst_, fst_app p x hx r]
theorem fst_at {p : It → Bool} : ∀ {l : List It} {k : Nat} (hk : k < l.length), p l[k] = true → (∀ j (hj : j < l.length), j < k → p l[j] = false) → fst_ p l = k
  | x :: r, 0, _, h, _ => by simp only [List.getElem_cons_zero] at h; simp [fst_, h]
  | x :: r, k + 1, hk, h, hn => by
    have h0 : p x = false := hn 0 (by simp) (by omega)
    have := fst_at (l := r) (k := k) (by simpa using hk) (by simpa using h) (fun j hj hjk => hn (j + 1) (by simpa using hj) (by omega))
    simp [fst_, h0, this]
theorem fst_none {p : It → Bool} : ∀ {l : List It}, (∀ j (hj : j < l.length), p l[j] = false) → fst_ p l = l.length
  | [], _ => rfl
  | x :: r, hn => by
    have h0 : p x = false := hn 0 (by simp)
    have := fst_none (l := r) (fun j hj => hn (j + 1) (by simpa using hj))
    simp [fst_, h0, this]
def bitB (at_ : Int) (x : It) : Bool := decide (bitI x.ix at_ = 1)
def idxF (at_ : Int) (l : List It) : Int := if fst_ (bitB at_) l < l.length then fst_ (bitB at_) l else -1
def onesH : H := fun _ => 255
def onesI : It := ⟨onesH, zeroH⟩
def onesN (k : Nat) : H := fun j => if j.val < k then 255 else 0
theorem ones_set {k : Nat} (hk : k < 32) : Pl.splice (hdv (onesN k)) k [.v (.int .u8 255)] = hdv (onesN (k + 1)) := by
  have := flat_set (enc := bdv) (sz := 1) (fun _ => rfl) (H.l (onesN k)) k 255 (by rw [H.l_len]; exact hk)
  rw [Nat.mul_one] at this
  unfold hdv
  rw [show ([DV.v (.int .u8 255)] : List DV) = bdv 255 from rfl, this]
  congr 1
  apply List.ext_getElem?
  intro i
  by_cases hi : i < 32
  · rw [List.getElem?_set, show (H.l (onesN (k + 1)))[i]? = some (onesN (k + 1) ⟨i, hi⟩) from H.l_get _ ⟨i, hi⟩, show (H.l (onesN k))[i]? = some (onesN k ⟨i, hi⟩) from H.l_get _ ⟨i, hi⟩]
    by_cases e : k = i
    · subst e; simp [H.l_len, hk, onesN]
    · rw [if_neg e]; simp only [onesN]; congr 1
      by_cases q : i < k
      · rw [if_pos q, if_pos (by omega)]
      · rw [if_neg q, if_neg (by omega)]
  · rw [List.getElem?_eq_none (by simp [H.l_len]; omega), List.getElem?_eq_none (by rw [H.l_len]; omega)]
theorem bit_ones : ∀ k : Fin 256, bitN onesH k.val = 1 := by decide +kernel
theorem ones_bit {at_ : Int} (h0 : 0 ≤ at_) (h1 : at_ < 256) : bitB at_ onesI = true := by
  obtain ⟨k, rfl⟩ : ∃ k : Nat, at_ = k := ⟨at_.toNat, by omega⟩
  have := bit_ones ⟨k, by omega⟩
  have e : bitI onesI.ix k = 1 := by
    rw [bitI_nat _ (by omega)]
    show ((bitN onesH k : Nat) : Int) = 1
    rw [this]; rfl
  exact decide_eq_true e
end Go.Proofs.YtmjokdhhniblgaaGreat
end
section
namespace Go.Proofs.YtmjokdhhniblgaaGreat
set_option linter.unusedVariables false
set_option linter.unusedSimpArgs false
open Go.RowKit Pl
def ildv (l : List It) : List DV := [slT It.dv 64 l]
theorem flat_take_succ {xss : List (List It)} {i : Nat} (h : i < xss.length) : (xss.take (i + 1)).flatten = (xss.take i).flatten ++ xss[i] := by rw [take_snoc' h, List.flatten_append]; simp
theorem flat_take_len {xss : List (List It)} {i : Nat} (h : i < xss.length) : (xss.take (i + 1)).flatten.length = (xss.take i).flatten.length + xss[i].length := by rw [flat_take_succ h, List.length_append]
theorem flat_take_le (xss : List (List It)) (i : Nat) : (xss.take i).flatten.length ≤ xss.flatten.length := by
  have := congrArg List.length (congrArg List.flatten (List.take_append_drop i xss))
  rw [List.flatten_append, List.length_append] at this; omega
theorem it_all (l : List It) : (l.flatMap It.dv).all DV.one = true := flat_one it_one l
theorem it_flat (l : List It) : (l.flatMap It.dv).length = l.length * 64 := flat_length it_len l
theorem Pl.PC.nil1 {P : Program} {f : FuncId} {α : Type} {enc : α → List DV} {sz : Nat} {Xs : List DV} {Y : DV} (h : PC P f (slT enc sz [] :: Xs) Y) : PC P f (.v (.slice none 0 0) :: Xs) Y := fun w K us hK hr => h w K us hK (by
  unfold repL at hr ⊢
  obtain ⟨u, t, rfl, h1, h2⟩ := hr
  refine ⟨u, t, rfl, ?_, h2⟩
  unfold DV.rep at h1; subst h1
  unfold slT DV.rep; exact .inl ⟨rfl, rfl, rfl⟩)
theorem Pl.PC.nil2 {P : Program} {f : FuncId} {α : Type} {enc : α → List DV} {sz : Nat} {X : DV} {Xs : List DV} {Y : DV} (h : PC P f (X :: slT enc sz [] :: Xs) Y) : PC P f (X :: .v (.slice none 0 0) :: Xs) Y := fun w K us hK hr => h w K us hK (by
  unfold repL at hr ⊢
  obtain ⟨u, t, rfl, h1, h2⟩ := hr
  refine ⟨u, t, rfl, h1, ?_⟩
  unfold repL at h2 ⊢
  obtain ⟨u2, t2, rfl, h3, h4⟩ := h2
  refine ⟨u2, t2, rfl, ?_, h4⟩
  unfold DV.rep at h3; subst h3
  unfold slT DV.rep; exact .inl ⟨rfl, rfl, rfl⟩)
def bit0 (k : Nat) (x : It) : Bool := bitN x.ix k == 0
def belowH : Nat → Nat → List It → H
  | 0, _, _ => emptyH
  | f + 1, k, l => match l with
    | [] => emptyH
    | [x] => leafH x
    | l => nodeH (belowH f (k + 1) (l.filter (bit0 k))) (belowH f (k + 1) (l.filter (fun x => !bit0 k x)))
theorem bitB_nat {k : Nat} (hk : k < 256) (x : It) : bitB (k : Int) x = !bit0 k x := by
  unfold bitB bit0
  rw [bitI_nat _ hk]
  have := bitN_lt x.ix k
  by_cases h : bitN x.ix k = 0
  · simp [h]
  · have : bitN x.ix k = 1 := by omega
    simp [this]
/-- Items of which those with a 0 at a place stand ahead of those with a 1. -/
def sided (p : It → Bool) : List It → Prop
  | [] => True
  | x :: r => (p x = true → ∀ y ∈ r, p y = true) ∧ sided p r
theorem take_side (p : It → Bool) : ∀ {l : List It}, sided p l → l.take (fst_ p l) = l.filter (fun x => !p x) ∧ l.drop (fst_ p l) = l.filter p
  | [], _ => by simp [fst_]
  | x :: r, ⟨h1, h2⟩ => by
    unfold fst_
    by_cases hx : p x = true
    · have h3 := h1 hx
      rw [if_pos hx]
      refine ⟨?_, ?_⟩
      · rw [List.take_zero, List.filter_cons_of_neg (by simp [hx])]
        exact (List.filter_eq_nil_iff.2 (fun y hy => by simp [h3 y hy])).symm
      · rw [List.drop_zero, List.filter_cons_of_pos hx, List.filter_eq_self.2 h3]
    · obtain ⟨k1, k2⟩ := take_side p h2
      rw [if_neg hx]
      simp only [Bool.not_eq_true] at hx
      refine ⟨?_, ?_⟩
      · rw [List.take_succ_cons, k1, List.filter_cons_of_pos (by simp [hx])]
      · rw [List.drop_succ_cons, k2, List.filter_cons_of_neg (by simp [hx])]
/-- Items that can be told apart by the bits from a place on, those with a 0 ahead. -/
def okT : Nat → Nat → List It → Prop
  | 0, _, l => l.length < 2
  | f + 1, k, l => l.length < 2 ∨ (k < 256 ∧ sided (fun x => !bit0 k x) l ∧ okT f (k + 1) (l.filter (bit0 k)) ∧ okT f (k + 1) (l.filter (fun x => !bit0 k x)))
theorem belowH_two {f k : Nat} {l : List It} (h : ¬ l.length < 2) : belowH (f + 1) k l = nodeH (belowH f (k + 1) (l.filter (bit0 k))) (belowH f (k + 1) (l.filter (fun x => !bit0 k x))) := by
  match l, h with
  | [], h => simp at h
  | [x], h => simp at h
  | x :: y :: r, _ => rfl
theorem okT_two {f k : Nat} {l : List It} (ho : okT f k l) (h : ¬ l.length < 2) : ∃ g, f = g + 1 ∧ k < 256 ∧ sided (fun x => !bit0 k x) l ∧ okT g (k + 1) (l.filter (bit0 k)) ∧ okT g (k + 1) (l.filter (fun x => !bit0 k x)) := by
  cases f with
  | zero => exact absurd ho h
  | succ g => exact ⟨g, rfl, ho.resolve_left h⟩
theorem one_of {l : List It} (h : l.length = 1) : ∃ x, l = [x] := by
  match l, h with
  | [x], _ => exact ⟨x, rfl⟩
theorem filter_nn (p : It → Bool) (l : List It) : l.filter (fun x => !(fun x => !p x) x) = l.filter p := by congr 1; funext x; simp
theorem fst_congr {p q : It → Bool} (h : ∀ x, p x = q x) (l : List It) : fst_ p l = fst_ q l := by rw [show p = q from funext h]
theorem idxF_ones {a : Nat} (h : a < 256) (l : List It) : idxF (a : Int) (l ++ [onesI]) = ((fst_ (fun x => !bit0 a x) l : Nat) : Int) := by
  unfold idxF
  rw [fst_app _ _ (ones_bit (by omega) (by omega)), fst_congr (bitB_nat h), if_pos]
  have := fst_le (fun x => !bit0 a x) l
  simp; omega
/-- What Set gives. -/
def setA (l m : List It) : List It := dd (stI (rvI [l, m].flatten))
theorem rvN_len : ∀ (f : Nat) (xs : List It) (i : Nat), (rvN f xs i).length = xs.length
  | 0, xs, i => rfl
  | f + 1, xs, i => by unfold rvN; split; rw [rvN_len, swI_len]; rfl
theorem rvI_len (xs : List It) : (rvI xs).length = xs.length := rvN_len _ _ _
theorem stM_len : ∀ (f z : Nat) (xs : List It), (stM f z xs).length = xs.length
  | 0, z, xs => rfl
  | f + 1, z, xs => by unfold stM; split; rw [stM_len, stP_len]; rfl
theorem stI_len (xs : List It) : (stI xs).length = xs.length := by unfold stI; rw [stM_len, stB_len]
end Go.Proofs.YtmjokdhhniblgaaGreat
end
section
namespace Go.Proofs.YtmjokdhhniblgaaGreat
set_option linter.unusedVariables false
set_option linter.unusedSimpArgs false
open Go.RowKit Pl
/-- Where an item belongs: the first place that is not ahead of it. -/
def plc (x : It) (out : List It) : Nat := fst_ (fun y => !ltI y x) out
def insR (out : List It) (x : It) : List It := if plc x out < out.length ∧ alike (at_ out (plc x out)) x = true then out.set (plc x out) x else out.take (plc x out) ++ [x] ++ out.drop (plc x out)
def setR (l m : List It) : List It := (l ++ m).foldl insR []
theorem insR_len (out : List It) (x : It) : (insR out x).length ≤ out.length + 1 := by
  unfold insR; split
  · simp
  · simp; have := fst_le (fun y => !ltI y x) out; unfold plc; omega
theorem insR_set {out : List It} {x : It} {k : Nat} (hk : k < out.length) (hp : plc x out = k) (ha : alike out[k] x = true) : insR out x = out.set k x := by
  unfold insR; rw [hp, if_pos ⟨hk, by rw [at_eq hk]; exact ha⟩]
theorem insR_new {out : List It} {x : It} {k : Nat} (hp : plc x out = k) (ha : ∀ hk : k < out.length, ¬ alike out[k] x = true) : insR out x = out.take k ++ [x] ++ out.drop k := by
  unfold insR; rw [hp, if_neg (fun q => ha q.1 (by rw [← at_eq q.1]; exact q.2))]
theorem flat_ix (xs : List It) {i : Nat} (hi : i < xs.length) : ((xs.flatMap It.dv).drop (i * 64)).take 32 = hdv xs[i].ix := by
  have h := flat_at it_len xs hi
  have : ((xs.flatMap It.dv).drop (i * 64)).take 32 = (((xs.flatMap It.dv).drop (i * 64)).take 64).take 32 := by rw [List.take_take]; rfl
  rw [this, h]; rfl
theorem foldl_snoc {l : List It} {k : Nat} (h : k < l.length) : (l.take (k + 1)).foldl insR [] = insR ((l.take k).foldl insR []) l[k] := by rw [take_snoc' h, List.foldl_append]; rfl
theorem plc_at {out : List It} {x : It} {k : Nat} (hk : k < out.length) (h : ltI out[k] x = false) (hj : ∀ j (hj : j < out.length), j < k → ltI out[j] x = true) : plc x out = k := fst_at hk (by simp [h]) (fun j h1 h2 => by simp [hj j h1 h2])
theorem plc_none {out : List It} {x : It} {k : Nat} (hk : ¬ k < out.length) (h0 : k ≤ out.length) (hj : ∀ j (hj : j < out.length), j < k → ltI out[j] x = true) : plc x out = k := by
  have e : k = out.length := by omega
  rw [e]
  exact fst_none (fun j h1 => by simp [hj j h1 (by omega)])
theorem bit0_dec {k : Nat} (hk : k < 256) (x : It) : decide (bitI x.ix (k : Int) = 0) = bit0 k x := by
  unfold bit0
  rw [bitI_nat _ hk]
  by_cases h : bitN x.ix k = 0
  · simp [h]
  · simp [h]
theorem filter_snoc {α : Type} (p : α → Bool) {l : List α} {k : Nat} (h : k < l.length) : (l.take (k + 1)).filter p = if p l[k] = true then (l.take k).filter p ++ [l[k]] else (l.take k).filter p := by
  rw [take_snoc' h, List.filter_append]
  by_cases e : p l[k] = true
  · simp [e]
  · simp [e]
theorem filter_take_le {α : Type} (p : α → Bool) (l : List α) (k : Nat) : ((l.take k).filter p).length ≤ l.length := Nat.le_trans (List.length_filter_le _ _) (by simp; omega)
end Go.Proofs.YtmjokdhhniblgaaGreat
end
section
namespace Go.Proofs.YtmjokdhhniblgaaGreat
set_option linter.unusedVariables false
set_option linter.unusedSimpArgs false
open Go.RowKit Pl
theorem bl_irrefl : ∀ a : List UInt8, Op.bytesLess a a = false
  | [] => rfl
  | x :: a => by unfold Op.bytesLess; simp [bl_irrefl a]
theorem bl_trans : ∀ {a b c : List UInt8}, Op.bytesLess a b = true → Op.bytesLess b c = true → Op.bytesLess a c = true
  | a, b, [], h1, h2 => by cases b <;> simp [Op.bytesLess] at h2
  | [], b, z :: c, _, _ => by simp [Op.bytesLess]
  | x :: a, [], z :: c, h1, _ => by simp [Op.bytesLess] at h1
  | x :: a, y :: b, z :: c, h1, h2 => by
    unfold Op.bytesLess at h1 h2 ⊢
    by_cases e1 : x = y
    · subst e1
      by_cases e2 : x = z
      · subst e2; simp at h1 h2 ⊢; exact bl_trans h1 h2
      · simp [e2] at h2 ⊢; simp at h1; exact h2
    · simp [e1] at h1
      by_cases e2 : y = z
      · subst e2; simp at h2; simp [e1, h1]
      · simp [e2] at h2
        have h3 : x < z := UInt8.lt_trans h1 h2
        have e3 : x ≠ z := fun e => by subst e; exact absurd h3 (UInt8.lt_irrefl _)
        simp [e3, h3]
theorem bl_total : ∀ {a b : List UInt8}, Op.bytesLess a b = false → Op.bytesLess b a = false → a = b
  | [], [], _, _ => rfl
  | [], y :: b, h, _ => by simp [Op.bytesLess] at h
  | x :: a, [], _, h => by simp [Op.bytesLess] at h
  | x :: a, y :: b, h1, h2 => by
    unfold Op.bytesLess at h1 h2
    by_cases e : x = y
    · subst e; simp at h1 h2; rw [bl_total h1 h2]
    · have e' : y ≠ x := fun q => e q.symm
      simp [e] at h1; simp [e'] at h2
      exact absurd (UInt8.le_antisymm h2 h1) e
theorem lt_irrefl (x : It) : ltI x x = false := bl_irrefl _
theorem lt_trans {x y z : It} (h : ltI x y = true) (k : ltI y z = true) : ltI x z = true := bl_trans h k
theorem lt_asymm {x y : It} (h : ltI x y = true) : ltI y x = false := by
  cases e : ltI y x with
  | false => rfl
  | true => have := lt_trans h e; rw [lt_irrefl] at this; cases this
theorem lt_total {x y : It} (h : ltI x y = false) (k : ltI y x = false) : H.l x.ix = H.l y.ix := bl_total h k
theorem le_trans {x y z : It} (h : ltI y x = false) (k : ltI z y = false) : ltI z x = false := by
  cases e : ltI z x with
  | false => rfl
  | true =>
    cases e2 : ltI x y with
    | true => have := lt_trans e e2; rw [k] at this; cases this
    | false =>
      have := lt_total e2 h
      have e3 : ltI z y = true := by unfold ltI at e ⊢; rw [← this]; exact e
      rw [k] at e3; cases e3
theorem lt_le {x y z : It} (h : ltI x y = true) (k : ltI z y = false) : ltI x z = true := by
  cases e : ltI x z with
  | true => rfl
  | false =>
    have := le_trans k e
    rw [h] at this; cases this
theorem le_lt {x y z : It} (h : ltI y x = false) (k : ltI y z = true) : ltI x z = true := by
  cases e : ltI x z with
  | true => rfl
  | false =>
    have := le_trans e h
    rw [k] at this; cases this
theorem lt_ne {x y : It} (h : ltI x y = true) : ¬ H.l x.ix = H.l y.ix := fun e => by unfold ltI at h; rw [e, bl_irrefl] at h; cases h
def cls (k : List UInt8) (xs : List It) : List It := xs.filter (fun x => decide (H.l x.ix = k))
theorem cls_app (k : List UInt8) (xs ys : List It) : cls k (xs ++ ys) = cls k xs ++ cls k ys := List.filter_append ..
theorem cls_cons (k : List UInt8) (x : It) (xs : List It) : cls k (x :: xs) = if H.l x.ix = k then x :: cls k xs else cls k xs := by
  unfold cls; by_cases h : H.l x.ix = k <;> simp [h]
theorem cls_none {k : List UInt8} {xs : List It} (h : ∀ x ∈ xs, ¬ H.l x.ix = k) : cls k xs = [] := by
  unfold cls; rw [List.filter_eq_nil_iff]; intro x hx; simp [h x hx]
theorem mem_cls {k : List UInt8} {xs : List It} {x : It} : x ∈ cls k xs ↔ x ∈ xs ∧ H.l x.ix = k := by unfold cls; simp
def Rea (xs ys : List It) : Prop := ∀ k, cls k ys = cls k xs
theorem Rea.refl (xs : List It) : Rea xs xs := fun _ => rfl
theorem Rea.trans {xs ys zs : List It} (h : Rea xs ys) (k : Rea ys zs) : Rea xs zs := fun q => (k q).trans (h q)
theorem Rea.app {a b c d : List It} (h : Rea a b) (k : Rea c d) : Rea (a ++ c) (b ++ d) := fun q => by rw [cls_app, cls_app, h q, k q]
theorem Rea.mem {xs ys : List It} (h : Rea xs ys) {x : It} : x ∈ ys ↔ x ∈ xs := by
  have := h (H.l x.ix)
  constructor
  · intro hx
    have : x ∈ cls (H.l x.ix) ys := mem_cls.2 ⟨hx, rfl⟩
    rw [h] at this; exact (mem_cls.1 this).1
  · intro hx
    have : x ∈ cls (H.l x.ix) xs := mem_cls.2 ⟨hx, rfl⟩
    rw [← h] at this; exact (mem_cls.1 this).1
/-- Two blocks whose items are nowhere alike change places. -/
theorem Rea.swap {u v : List It} (h : ∀ x ∈ u, ∀ y ∈ v, ¬ H.l x.ix = H.l y.ix) : Rea (u ++ v) (v ++ u) := fun k => by
  rw [cls_app, cls_app]
  by_cases hu : ∃ x ∈ u, H.l x.ix = k
  · obtain ⟨x, hx, rfl⟩ := hu
    rw [cls_none (fun y hy e => h x hx y hy e.symm)]; simp
  · rw [cls_none (xs := u) (fun x hx e => hu ⟨x, hx, e⟩)]; simp
def Srt (xs : List It) : Prop := xs.Pairwise (fun x y => ltI y x = false)
def Str (xs : List It) : Prop := xs.Pairwise (fun x y => ltI x y = true)
theorem srt_app {xs ys : List It} : Srt (xs ++ ys) ↔ Srt xs ∧ Srt ys ∧ ∀ x ∈ xs, ∀ y ∈ ys, ltI y x = false := List.pairwise_append
theorem str_app {xs ys : List It} : Str (xs ++ ys) ↔ Str xs ∧ Str ys ∧ ∀ x ∈ xs, ∀ y ∈ ys, ltI x y = true := List.pairwise_append
theorem Str.filter {xs : List It} (h : Str xs) (p : It → Bool) : Str (xs.filter p) := List.Pairwise.filter p h
theorem at_mid (a : List It) (x : It) (b : List It) : at_ (a ++ x :: b) a.length = x := by unfold at_; simp [List.getD]
theorem at_mid' {a : List It} {x : It} {b : List It} {n : Nat} (h : n = a.length) : at_ (a ++ x :: b) n = x := by subst h; exact at_mid a x b
theorem swI_mid (a : List It) (x : It) (b : List It) (y : It) (c : List It) {i j : Nat} (hi : i = a.length) (hj : j = a.length + 1 + b.length) : swI (a ++ x :: (b ++ y :: c)) i j = a ++ y :: (b ++ x :: c) := by
  subst hi; subst hj
  have h1 : at_ (a ++ x :: (b ++ y :: c)) a.length = x := at_mid _ _ _
  have h2 : at_ (a ++ x :: (b ++ y :: c)) (a.length + 1 + b.length) = y := by
    rw [show a ++ x :: (b ++ y :: c) = (a ++ x :: b) ++ y :: c by simp]
    exact at_mid' (by simp; omega)
  unfold swI
  rw [h1, h2, List.set_append_right _ _ (Nat.le_refl _), Nat.sub_self, List.set_cons_zero, List.set_append_right _ _ (by omega), show a.length + 1 + b.length - a.length = b.length + 1 by omega, List.set_cons_succ, List.set_append_right _ _ (Nat.le_refl _), Nat.sub_self, List.set_cons_zero]
theorem swI_next (a : List It) (x y : It) (c : List It) {i j : Nat} (hi : i = a.length) (hj : j = a.length + 1) : swI (a ++ x :: y :: c) i j = a ++ y :: x :: c := swI_mid a x [] y c hi (by simpa using hj)
theorem swI_comm (xs : List It) (i j : Nat) : swI xs i j = swI xs j i := by
  unfold swI
  by_cases h : i = j
  · subst h; rfl
  · exact List.set_comm _ _ h
theorem insDown_spec (x : It) : ∀ (n : Nat) (p s q : List It), s.length = n → Srt s → ∃ w, insDown (p.length + n) (p ++ (s ++ x :: q)) p.length = p ++ (w ++ q) ∧ Srt w ∧ Rea (s ++ [x]) w ∧ w.length = n + 1
  | 0, p, s, q, hs, _ => by
    obtain rfl := List.eq_nil_of_length_eq_zero hs
    exact ⟨[x], by rw [insDown_stop (by omega)]; simp, by simp [Srt], Rea.refl _, rfl⟩
  | n + 1, p, s, q, hs, hso => by
    obtain ⟨s', y, rfl⟩ : ∃ s' y, s = s' ++ [y] := by
      rcases List.eq_nil_or_concat s with rfl | ⟨s', y, h⟩
      · simp at hs
      · exact ⟨s', y, by simpa using h⟩
    have hl : s'.length = n := by simpa using hs
    obtain ⟨h1, _, h2⟩ := srt_app.1 hso
    have e1 : p ++ (s' ++ [y] ++ x :: q) = (p ++ s') ++ y :: x :: q := by simp
    have a1 : at_ (p ++ (s' ++ [y] ++ x :: q)) (p.length + (n + 1)) = x := by
      rw [show p ++ (s' ++ [y] ++ x :: q) = (p ++ s' ++ [y]) ++ x :: q by simp]
      exact at_mid' (by simp; omega)
    have a2 : at_ (p ++ (s' ++ [y] ++ x :: q)) (p.length + (n + 1) - 1) = y := by
      rw [e1]; exact at_mid' (by simp; omega)
    by_cases hxy : ltI x y = true
    · rw [insDown_step (by omega) (by rw [a1, a2]; exact hxy), swI_comm, e1, swI_next (p ++ s') y x q (by simp; omega) (by simp; omega)]
      obtain ⟨w, k1, k2, k3, k4⟩ := insDown_spec x n p s' (y :: q) hl h1
      refine ⟨w ++ [y], ?_, ?_, ?_, by simp [k4]⟩
      · rw [show p.length + (n + 1) - 1 = p.length + n by omega, show p ++ s' ++ x :: y :: q = p ++ (s' ++ x :: (y :: q)) by simp, k1]; simp
      · refine srt_app.2 ⟨k2, by simp [Srt], fun z hz t ht => ?_⟩
        obtain rfl : t = y := by simpa using ht
        rcases List.mem_append.1 (k3.mem.1 hz) with hz | hz
        · exact h2 z hz t (by simp)
        · obtain rfl : z = x := by simpa using hz
          exact lt_asymm hxy
      · have : Rea (s' ++ [y] ++ [x]) (s' ++ [x] ++ [y]) := by
          rw [List.append_assoc, List.append_assoc]
          exact (Rea.refl s').app (Rea.swap (fun a ha b hb => by
            obtain rfl : a = y := by simpa using ha
            obtain rfl : b = x := by simpa using hb
            exact fun e => lt_ne hxy e.symm))
        exact this.trans (k3.app (Rea.refl _))
    · have hxy : ltI x y = false := by simpa using hxy
      refine ⟨s' ++ [y] ++ [x], ?_, ?_, Rea.refl _, by simp [hl]⟩
      · rw [insDown_stop (fun c => by rw [a1, a2, hxy] at c; cases c.2)]; simp
      · refine srt_app.2 ⟨hso, by simp [Srt], fun z hz t ht => ?_⟩
        obtain rfl : t = x := by simpa using ht
        rcases List.mem_append.1 hz with hz | hz
        · exact le_trans (h2 z hz y (by simp)) hxy
        · obtain rfl : z = y := by simpa using hz
          exact hxy
theorem insN_spec : ∀ (r p w q : List It), Srt w → ∃ w', insN r.length (p ++ (w ++ (r ++ q))) p.length (p.length + w.length) = p ++ (w' ++ q) ∧ Srt w' ∧ Rea (w ++ r) w' ∧ w'.length = w.length + r.length
  | [], p, w, q, hw => ⟨w, rfl, hw, by simpa using Rea.refl w, rfl⟩
  | x :: r, p, w, q, hw => by
    obtain ⟨w1, k1, k2, k3, k4⟩ := insDown_spec x w.length p w (r ++ q) rfl hw
    obtain ⟨w2, j1, j2, j3, j4⟩ := insN_spec r p w1 q k2
    refine ⟨w2, ?_, j2, ?_, by rw [j4, k4, List.length_cons]; omega⟩
    · show insN (r.length + 1) _ _ _ = _
      unfold insN
      rw [List.cons_append, k1, show p.length + w.length + 1 = p.length + w1.length by omega, j1]
    · rw [show w ++ x :: r = (w ++ [x]) ++ r by simp]
      exact (k3.app (Rea.refl r)).trans j3
theorem insS_spec (p u q : List It) {a b : Nat} (ha : a = p.length) (hb : b = p.length + u.length) : ∃ w, insS (p ++ (u ++ q)) a b = p ++ (w ++ q) ∧ Srt w ∧ Rea u w ∧ w.length = u.length := by
  subst ha; subst hb
  unfold insS
  cases u with
  | nil => exact ⟨[], by rw [show p.length + ([] : List It).length - (p.length + 1) = 0 by simp]; rfl, by simp [Srt], Rea.refl _, rfl⟩
  | cons x r =>
    obtain ⟨w, k1, k2, k3, k4⟩ := insN_spec r p [x] q (by simp [Srt])
    refine ⟨w, ?_, k2, k3, by rw [k4]; simp; omega⟩
    rw [show p.length + (x :: r).length - (p.length + 1) = r.length by simp; omega]
    exact k1
end Go.Proofs.YtmjokdhhniblgaaGreat
end
section
namespace Go.Proofs.YtmjokdhhniblgaaGreat
set_option linter.unusedVariables false
set_option linter.unusedSimpArgs false
open Go.RowKit Pl
theorem bsP_spec {p : Nat → Bool} : ∀ (f i j : Nat), i ≤ j → j - i ≤ f → (∀ h h', i ≤ h → h ≤ h' → h' < j → p h' = true → p h = true) → (∀ h, i ≤ h → h < bsP p f i j → p h = true) ∧ (∀ h, bsP p f i j ≤ h → h < j → p h = false)
  | 0, i, j, hij, hf, _ => ⟨fun h h1 h2 => by simp only [bsP] at h2; omega, fun h h1 h2 => by simp only [bsP] at h1; omega⟩
  | f + 1, i, j, hij, hf, hm => by
    by_cases hlt : i < j
    · rw [bsP_step hlt hf, Nat.add_sub_cancel]
      by_cases hp : p ((i + j) / 2) = true
      · rw [if_pos hp]
        obtain ⟨h1, h2⟩ := bsP_spec (p := p) f ((i + j) / 2 + 1) j (by omega) (by omega) (fun h h' a b c => hm h h' (by omega) b c)
        refine ⟨fun h a b => ?_, h2⟩
        by_cases hc : (i + j) / 2 + 1 ≤ h
        · exact h1 h hc b
        · exact hm h ((i + j) / 2) a (by omega) (by omega) hp
      · rw [if_neg hp]
        obtain ⟨h1, h2⟩ := bsP_spec (p := p) f i ((i + j) / 2) (by omega) (by omega) (fun h h' a b c => hm h h' a b (by omega))
        refine ⟨h1, fun h a b => ?_⟩
        by_cases hc : h < (i + j) / 2
        · exact h2 h a hc
        · cases e : p h with
          | false => rfl
          | true => exact absurd (hm ((i + j) / 2) h (by omega) (by omega) b e) hp
    · rw [bsP_end hlt]
      exact ⟨fun h a b => by omega, fun h a b => by omega⟩
theorem swR_spec : ∀ (x y a b c : List It) (i k l : Nat), x.length = y.length → k + i = a.length → l + i = a.length + x.length + b.length → swR x.length (a ++ (x ++ (b ++ (y ++ c)))) k l i = a ++ (y ++ (b ++ (x ++ c)))
  | [], y, a, b, c, i, k, l, h, _, _ => by
    obtain rfl := List.eq_nil_of_length_eq_zero (l := y) (by simpa using h.symm)
    rfl
  | u :: x, [], a, b, c, i, k, l, h, _, _ => by simp at h
  | u :: x, v :: y, a, b, c, i, k, l, h, hk, hl => by
    have e1 : a ++ (u :: x ++ (b ++ (v :: y ++ c))) = a ++ u :: ((x ++ b) ++ v :: (y ++ c)) := by simp
    show swR x.length (swI _ (k + i) (l + i)) k l (i + 1) = _
    rw [e1, swI_mid a u (x ++ b) v (y ++ c) hk (by rw [hl]; simp; omega)]
    have := swR_spec x y (a ++ [v]) (b ++ [u]) c (i + 1) k l (by simpa using h) (by simp; omega) (by simp at hl ⊢; omega)
    rw [show a ++ v :: ((x ++ b) ++ u :: (y ++ c)) = (a ++ [v]) ++ (x ++ ((b ++ [u]) ++ (y ++ c))) by simp, this]
    simp
theorem rotG_spec : ∀ (f : Nat) (u v p q : List It) (m : Nat), 0 < u.length → 0 < v.length → u.length + v.length ≤ f → m = p.length + u.length → rotG f (p ++ (u ++ (v ++ q))) m u.length v.length = p ++ (v ++ (u ++ q))
  | 0, u, v, p, q, m, h1, _, h3, _ => by omega
  | f + 1, u, v, p, q, m, h1, h2, h3, hm => by
    by_cases e : u.length = v.length
    · rw [rotG_eq (by omega) e]
      have := swR_spec u v p [] q 0 (m - u.length) m e (by omega) (by simp; omega)
      simpa using this
    · by_cases g : v.length < u.length
      · rw [rotG_gt (by omega) e g, Nat.add_sub_cancel]
        obtain ⟨u1, u2, rfl, hu1⟩ : ∃ u1 u2, u = u1 ++ u2 ∧ u1.length = v.length := ⟨u.take v.length, u.drop v.length, (List.take_append_drop _ _).symm, by rw [List.length_take]; omega⟩
        have hu2 : u2.length = (u1 ++ u2).length - v.length := by simp; omega
        have := swR_spec u1 v p u2 q 0 (m - (u1 ++ u2).length) m (by omega) (by omega) (by simp at hm ⊢; omega)
        rw [hu1] at this
        rw [show p ++ (u1 ++ u2 ++ (v ++ q)) = p ++ (u1 ++ (u2 ++ (v ++ q))) by simp, this, ← hu2]
        have ih := rotG_spec f u2 u1 (p ++ v) q m (by simp at g; omega) (by omega) (by simp at h3; omega) (by simp at hm ⊢; omega)
        rw [hu1] at ih
        rw [show p ++ (v ++ (u2 ++ (u1 ++ q))) = (p ++ v) ++ (u2 ++ (u1 ++ q)) by simp, ih]
        simp
      · rw [rotG_lt (by omega) e g, Nat.add_sub_cancel]
        obtain ⟨v1, v2, rfl, hv2⟩ : ∃ v1 v2, v = v1 ++ v2 ∧ v2.length = u.length := ⟨v.take (v.length - u.length), v.drop (v.length - u.length), (List.take_append_drop _ _).symm, by rw [List.length_drop]; omega⟩
        have hv1 : v1.length = (v1 ++ v2).length - u.length := by simp; omega
        have := swR_spec u v2 p v1 q 0 (m - u.length) (m + (v1 ++ v2).length - u.length) (by omega) (by omega) (by simp; omega)
        rw [show p ++ (u ++ (v1 ++ v2 ++ q)) = p ++ (u ++ (v1 ++ (v2 ++ q))) by simp, this, ← hv1]
        have ih := rotG_spec f v2 v1 p (u ++ q) m (by omega) (by simp at e g; omega) (by simp at h3; omega) (by omega)
        rw [hv2] at ih
        rw [ih]
        simp
theorem rotI_spec (p u v q : List It) {a m b : Nat} (hu : 0 < u.length) (hv : 0 < v.length) (ha : a = p.length) (hm : m = a + u.length) (hb : b = m + v.length) : rotI (p ++ (u ++ (v ++ q))) a m b = p ++ (v ++ (u ++ q)) := by
  subst ha; subst hm; subst hb
  unfold rotI
  have := rotG_spec (p.length + u.length + v.length - p.length) u v p q (p.length + u.length) hu hv (by omega) rfl
  rw [show p.length + u.length - p.length = u.length by omega, show p.length + u.length + v.length - (p.length + u.length) = v.length by omega]
  exact this
theorem bubF_spec : ∀ (v p q : List It) (x : It) {k : Nat}, k = p.length → bubF v.length (p ++ x :: (v ++ q)) k = p ++ (v ++ x :: q)
  | [], p, q, x, k, _ => rfl
  | y :: v, p, q, x, k, hk => by
    show bubF v.length (swI _ k (k + 1)) (k + 1) = _
    rw [List.cons_append, swI_next p x y (v ++ q) hk (by omega), show p ++ y :: x :: (v ++ q) = (p ++ [y]) ++ x :: (v ++ q) by simp, bubF_spec v (p ++ [y]) q x (by simp; omega)]
    simp
theorem bubB_spec : ∀ (n : Nat) (u p q : List It) (y : It) {k : Nat}, u.length = n → k = p.length + n → bubB n (p ++ (u ++ y :: q)) k = p ++ y :: (u ++ q)
  | 0, u, p, q, y, k, hu, _ => by
    obtain rfl := List.eq_nil_of_length_eq_zero hu; rfl
  | n + 1, u, p, q, y, k, hu, hk => by
    obtain ⟨u', x, rfl⟩ : ∃ u' x, u = u' ++ [x] := by
      rcases List.eq_nil_or_concat u with rfl | ⟨s', y, h⟩
      · simp at hu
      · exact ⟨s', y, by simpa using h⟩
    have hl : u'.length = n := by simpa using hu
    show bubB n (swI _ k (k - 1)) (k - 1) = _
    rw [swI_comm, show p ++ (u' ++ [x] ++ y :: q) = (p ++ u') ++ x :: y :: q by simp, swI_next (p ++ u') x y q (by simp; omega) (by simp; omega), show (p ++ u') ++ y :: x :: q = p ++ (u' ++ y :: (x :: q)) by simp, bubB_spec n u' p (x :: q) y hl (by omega)]
    simp
theorem at_l {p u r : List It} {h : Nat} (h1 : p.length ≤ h) (h2 : h < p.length + u.length) : ∃ x, at_ (p ++ (u ++ r)) h = x ∧ u[h - p.length]? = some x := by
  have hi : h - p.length < u.length := by omega
  refine ⟨u[h - p.length], ?_, List.getElem?_eq_getElem hi⟩
  unfold at_
  rw [List.getD_eq_getElem?_getD, List.getElem?_append_right h1, List.getElem?_append_left hi, List.getElem?_eq_getElem hi]; rfl
theorem srt_get {u : List It} (hs : Srt u) {i j : Nat} {x y : It} (hi : u[i]? = some x) (hj : u[j]? = some y) (hij : i ≤ j) : ltI y x = false := by
  rcases Nat.lt_or_eq_of_le hij with h | h
  · obtain ⟨h1, e1⟩ := List.getElem?_eq_some_iff.1 hi
    obtain ⟨h2, e2⟩ := List.getElem?_eq_some_iff.1 hj
    have := List.pairwise_iff_getElem.1 hs i j h1 h2 h
    rw [e1, e2] at this; exact this
  · subst h; rw [hi] at hj; cases hj; exact lt_irrefl _
theorem at_le {p u r : List It} (hs : Srt u) {h h' : Nat} (h1 : p.length ≤ h) (h2 : h ≤ h') (h3 : h' < p.length + u.length) : ltI (at_ (p ++ (u ++ r)) h') (at_ (p ++ (u ++ r)) h) = false := by
  obtain ⟨x, e1, k1⟩ := at_l (p := p) (u := u) (r := r) h1 (by omega)
  obtain ⟨y, e2, k2⟩ := at_l (p := p) (u := u) (r := r) (h := h') (by omega) h3
  rw [e1, e2]; exact srt_get hs k1 k2 (by omega)
def Mrg (u v w : List It) : Prop := Srt w ∧ Rea (u ++ v) w ∧ w.length = u.length + v.length
theorem symA_spec (p v q : List It) (x : It) {a m b : Nat} (hv : Srt v) (ha : a = p.length) (hm : m = a + 1) (hb : b = m + v.length) : ∃ w, symA (p ++ ([x] ++ (v ++ q))) a m b = p ++ (w ++ q) ∧ Mrg [x] v w := by
  unfold symA
  let P := fun h => ltI (at_ (p ++ ([x] ++ (v ++ q))) h) (at_ (p ++ ([x] ++ (v ++ q))) a)
  have hax : at_ (p ++ ([x] ++ (v ++ q))) a = x := at_mid' (b := v ++ q) ha
  have e : p ++ ([x] ++ (v ++ q)) = (p ++ [x]) ++ (v ++ q) := by simp
  have hpl : (p ++ [x]).length = m := by simp; omega
  have hle := bsP_le (p := P) (b - m) m b (by omega)
  have hsp := bsP_spec (p := P) (b - m) m b (by omega) (Nat.le_refl _) (fun h h' h1 h2 h3 hp => by
    show ltI _ _ = true
    have := at_le (p := p ++ [x]) (r := q) hv (h := h) (h' := h') (by omega) h2 (by omega)
    rw [← e] at this
    exact le_lt this hp)
  show ∃ w, bubF (bsP P (b - m) m b - 1 - a) _ a = _ ∧ _
  generalize hi : bsP P (b - m) m b = i at hle hsp ⊢
  obtain ⟨v1, v2, rfl, hv1⟩ : ∃ v1 v2, v = v1 ++ v2 ∧ v1.length = i - m := ⟨v.take (i - m), v.drop (i - m), (List.take_append_drop _ _).symm, by rw [List.length_take]; omega⟩
  have l1 : ∀ y ∈ v1, ltI y x = true := fun y hy => by
    obtain ⟨j, hj, rfl⟩ := List.getElem_of_mem hy
    have := hsp.1 (m + j) (by omega) (by omega)
    obtain ⟨z, e1, k1⟩ := at_l (p := p ++ [x]) (u := v1 ++ v2) (r := q) (h := m + j) (by omega) (by simp; omega)
    rw [← e] at e1
    rw [show m + j - (p ++ [x]).length = j by omega, List.getElem?_append_left hj, List.getElem?_eq_getElem hj] at k1
    cases k1
    show ltI _ _ = true
    have h9 : ltI (at_ (p ++ ([x] ++ (v1 ++ v2 ++ q))) (m + j)) (at_ (p ++ ([x] ++ (v1 ++ v2 ++ q))) a) = true := this
    rwa [e1, hax] at h9
  have l2 : ∀ y ∈ v2, ltI y x = false := fun y hy => by
    obtain ⟨j, hj, rfl⟩ := List.getElem_of_mem hy
    have hlen : b = m + (v1.length + v2.length) := by rw [hb]; simp
    have := hsp.2 (i + j) (by omega) (by omega)
    obtain ⟨z, e1, k1⟩ := at_l (p := p ++ [x]) (u := v1 ++ v2) (r := q) (h := i + j) (by omega) (by simp; omega)
    rw [← e] at e1
    rw [List.getElem?_append_right (by omega), show i + j - (p ++ [x]).length - v1.length = j by omega, List.getElem?_eq_getElem hj] at k1
    cases k1
    have h9 : ltI (at_ (p ++ ([x] ++ (v1 ++ v2 ++ q))) (i + j)) (at_ (p ++ ([x] ++ (v1 ++ v2 ++ q))) a) = false := this
    rwa [e1, hax] at h9
  obtain ⟨s1, s2, s3⟩ := srt_app.1 hv
  refine ⟨v1 ++ x :: v2, ?_, ?_, ?_, by simp; omega⟩
  · have := bubF_spec v1 p (v2 ++ q) x (k := a) ha
    rw [hv1, show i - m = i - 1 - a by omega] at this
    rw [show p ++ ([x] ++ (v1 ++ v2 ++ q)) = p ++ x :: (v1 ++ (v2 ++ q)) by simp, this]; simp
  · refine srt_app.2 ⟨s1, List.pairwise_cons.2 ⟨l2, s2⟩, fun y hy z hz => ?_⟩
    rcases List.mem_cons.1 hz with rfl | hz
    · exact lt_asymm (l1 y hy)
    · exact s3 y hy z hz
  · rw [show [x] ++ (v1 ++ v2) = ([x] ++ v1) ++ v2 by simp, show v1 ++ x :: v2 = (v1 ++ [x]) ++ v2 by simp]
    exact (Rea.swap (fun a ha b hb => by
      obtain rfl : a = x := by simpa using ha
      exact fun e => lt_ne (l1 b hb) e.symm)).app (Rea.refl _)
theorem symB_spec (p u q : List It) (y : It) {a m b : Nat} (hu : Srt u) (ha : a = p.length) (hm : m = a + u.length) : ∃ w, symB (p ++ (u ++ ([y] ++ q))) a m b = p ++ (w ++ q) ∧ Mrg u [y] w := by
  unfold symB
  let P := fun h => !ltI (at_ (p ++ (u ++ ([y] ++ q))) m) (at_ (p ++ (u ++ ([y] ++ q))) h)
  have hay : at_ (p ++ (u ++ ([y] ++ q))) m = y := by
    rw [show p ++ (u ++ ([y] ++ q)) = (p ++ u) ++ y :: q by simp]; exact at_mid' (by simp; omega)
  have hle := bsP_le (p := P) (m - a) a m (by omega)
  have hsp := bsP_spec (p := P) (m - a) a m (by omega) (Nat.le_refl _) (fun h h' h1 h2 h3 hp => by
    have := at_le (p := p) (r := [y] ++ q) hu (h := h) (h' := h') (by omega) h2 (by omega)
    simp only [P, Bool.not_eq_true'] at hp ⊢
    exact le_trans this hp)
  show ∃ w, bubB (m - bsP P (m - a) a m) _ m = _ ∧ _
  generalize hi : bsP P (m - a) a m = i at hle hsp ⊢
  obtain ⟨u1, u2, rfl, hu1⟩ : ∃ u1 u2, u = u1 ++ u2 ∧ u1.length = i - a := ⟨u.take (i - a), u.drop (i - a), (List.take_append_drop _ _).symm, by rw [List.length_take]; omega⟩
  have hlen : m = a + (u1.length + u2.length) := by rw [hm]; simp
  have l1 : ∀ z ∈ u1, ltI y z = false := fun z hz => by
    obtain ⟨j, hj, rfl⟩ := List.getElem_of_mem hz
    have := hsp.1 (a + j) (by omega) (by omega)
    obtain ⟨z, e1, k1⟩ := at_l (p := p) (u := u1 ++ u2) (r := [y] ++ q) (h := a + j) (by omega) (by simp; omega)
    rw [show a + j - p.length = j by omega, List.getElem?_append_left hj, List.getElem?_eq_getElem hj] at k1
    cases k1
    simp only [P, Bool.not_eq_true', e1, hay] at this
    exact this
  have l2 : ∀ z ∈ u2, ltI y z = true := fun z hz => by
    obtain ⟨j, hj, rfl⟩ := List.getElem_of_mem hz
    have := hsp.2 (i + j) (by omega) (by omega)
    obtain ⟨z, e1, k1⟩ := at_l (p := p) (u := u1 ++ u2) (r := [y] ++ q) (h := i + j) (by omega) (by simp; omega)
    rw [List.getElem?_append_right (by omega), show i + j - p.length - u1.length = j by omega, List.getElem?_eq_getElem hj] at k1
    cases k1
    simp only [P, Bool.not_eq_false', e1, hay] at this
    exact this
  obtain ⟨s1, s2, s3⟩ := srt_app.1 hu
  refine ⟨u1 ++ y :: u2, ?_, ?_, ?_, by simp; omega⟩
  · have := bubB_spec (m - i) u2 (p ++ u1) q y (k := m) (by omega) (by simp; omega)
    rw [show p ++ (u1 ++ u2 ++ ([y] ++ q)) = (p ++ u1) ++ (u2 ++ y :: q) by simp, this]; simp
  · refine srt_app.2 ⟨s1, List.pairwise_cons.2 ⟨fun z hz => lt_asymm (l2 z hz), s2⟩, fun z hz t ht => ?_⟩
    rcases List.mem_cons.1 ht with rfl | ht
    · exact l1 z hz
    · exact s3 z hz t ht
  · rw [show u1 ++ u2 ++ [y] = u1 ++ (u2 ++ [y]) by simp, show u1 ++ y :: u2 = u1 ++ ([y] ++ u2) by simp]
    exact (Rea.refl _).app (Rea.swap (fun a ha b hb => by
      obtain rfl : b = y := by simpa using hb
      exact fun e => lt_ne (l2 a ha) e.symm))
end Go.Proofs.YtmjokdhhniblgaaGreat
end
section
namespace Go.Proofs.YtmjokdhhniblgaaGreat
set_option linter.unusedVariables false
set_option linter.unusedSimpArgs false
open Go.RowKit Pl
theorem at_mem {p u r : List It} {x : It} (hx : x ∈ u) : ∃ j, j < u.length ∧ at_ (p ++ (u ++ r)) (p.length + j) = x := by
  obtain ⟨j, hj, rfl⟩ := List.getElem_of_mem hx
  obtain ⟨z, e1, k1⟩ := at_l (p := p) (u := u) (r := r) (h := p.length + j) (by omega) (by omega)
  rw [show p.length + j - p.length = j by omega, List.getElem?_eq_getElem hj] at k1
  cases k1
  exact ⟨j, hj, e1⟩
/-- Where the search for the cut ends. -/
theorem symC_cut (xs : List It) {a m b : Nat} (ham : a < m) (hmb : m < b) (lu : ∀ h h', a ≤ h → h ≤ h' → h' < m → ltI (at_ xs h') (at_ xs h) = false) (lv : ∀ h h', m ≤ h → h ≤ h' → h' < b → ltI (at_ xs h') (at_ xs h) = false) :
    (a ≤ symC xs a m b ∧ symC xs a m b ≤ m ∧ m + symC xs a m b ≤ (a + b) / 2 + m ∧ (a + b) / 2 + m ≤ b + symC xs a m b) ∧
    (∀ h h', symC xs a m b ≤ h → h < m → m ≤ h' → h' + symC xs a m b < (a + b) / 2 + m → ltI (at_ xs h') (at_ xs h) = true) ∧
    (∀ h h', a ≤ h → h < symC xs a m b → (a + b) / 2 + m ≤ h' + symC xs a m b → h' < b → ltI (at_ xs h') (at_ xs h) = false) := by
  obtain ⟨d, hd⟩ : ∃ d, (a + b) / 2 = d := ⟨_, rfl⟩
  have hd2 : 2 * d ≤ a + b ∧ a + b ≤ 2 * d + 1 := by omega
  have hSR := symSR a m b
  have hC : symC xs a m b = bsP (fun c => !ltI (at_ xs ((a + b) / 2 + m - 1 - c)) (at_ xs c)) (symR a m b - symS a m b) (symS a m b) (symR a m b) := rfl
  rw [hd] at hSR hC ⊢
  generalize symS a m b = S at hSR hC
  generalize symR a m b = R at hSR hC
  have hle := bsP_le (p := fun c => !ltI (at_ xs (d + m - 1 - c)) (at_ xs c)) (R - S) S R (by omega)
  have hsp := bsP_spec (p := fun c => !ltI (at_ xs (d + m - 1 - c)) (at_ xs c)) (R - S) S R (by omega) (Nat.le_refl _) (fun h h' k1 k2 k3 hp => by
    simp only [Bool.not_eq_true'] at hp ⊢
    have e1 := lu h h' (by omega) k2 (by omega)
    have e2 := lv (d + m - 1 - h') (d + m - 1 - h) (by omega) (by omega) (by omega)
    exact le_trans (le_trans e1 hp) e2)
  rw [← hC] at hle hsp
  generalize symC xs a m b = s at hle hsp ⊢
  clear hC
  refine ⟨by omega, fun h h' k1 k2 k3 k4 => ?_, fun h h' k1 k2 k3 k4 => ?_⟩
  · have hs : s < R := by omega
    have := hsp.2 s (Nat.le_refl _) hs
    simp only [Bool.not_eq_false'] at this
    exact lt_le (le_lt (lv h' (d + m - 1 - s) k3 (by omega) (by omega)) this) (lu s h (by omega) k1 k2)
  · have hs : S < s := by omega
    have := hsp.1 (s - 1) (by omega) (by omega)
    simp only [Bool.not_eq_true'] at this
    exact le_trans (le_trans (lu h (s - 1) k1 (by omega) (by omega)) this) (lv (d + m - 1 - (s - 1)) h' (by omega) (by omega) k4)
theorem symM_eq {f : Nat} {xs : List It} {a m b : Nat} (c1 : ¬ m - a = 1) (c2 : ¬ b - m = 1) : symM (f + 1) xs a m b =
    (if (a + b) / 2 < (a + b) / 2 + m - symC xs a m b ∧ (a + b) / 2 + m - symC xs a m b < b then symM f (if a < symC xs a m b ∧ symC xs a m b < (a + b) / 2 then symM f (symX xs a m b) a (symC xs a m b) ((a + b) / 2) else symX xs a m b) ((a + b) / 2) ((a + b) / 2 + m - symC xs a m b) b
      else (if a < symC xs a m b ∧ symC xs a m b < (a + b) / 2 then symM f (symX xs a m b) a (symC xs a m b) ((a + b) / 2) else symX xs a m b)) := by
  conv => lhs; unfold symM
  rw [if_neg c1, if_neg c2]
/-- Both halves, merged each. -/
theorem sym_halves (f : Nat) (ih : ∀ (p u v q : List It) (a m b : Nat), 0 < u.length → 0 < v.length → Srt u → Srt v → u.length + v.length ≤ f → a = p.length → m = a + u.length → b = m + v.length → ∃ w, symM f (p ++ (u ++ (v ++ q))) a m b = p ++ (w ++ q) ∧ Mrg u v w)
    (p u1 u2 v1 v2 q : List It) {a s d e b : Nat} (su1 : Srt u1) (su2 : Srt u2) (sv1 : Srt v1) (sv2 : Srt v2) (ha : a = p.length) (hs : s = a + u1.length) (hd : d = s + v1.length) (he : e = d + u2.length) (hb : b = e + v2.length) (h1 : u1.length + v1.length ≤ f) (h2 : u2.length + v2.length ≤ f) :
    ∃ w1 w2, (if d < e ∧ e < b then symM f (if a < s ∧ s < d then symM f (p ++ (u1 ++ (v1 ++ (u2 ++ (v2 ++ q))))) a s d else p ++ (u1 ++ (v1 ++ (u2 ++ (v2 ++ q))))) d e b else (if a < s ∧ s < d then symM f (p ++ (u1 ++ (v1 ++ (u2 ++ (v2 ++ q))))) a s d else p ++ (u1 ++ (v1 ++ (u2 ++ (v2 ++ q)))))) = p ++ ((w1 ++ w2) ++ q) ∧ Mrg u1 v1 w1 ∧ Mrg u2 v2 w2 := by
  obtain ⟨w1, hz, hw⟩ : ∃ w1, (if a < s ∧ s < d then symM f (p ++ (u1 ++ (v1 ++ (u2 ++ (v2 ++ q))))) a s d else p ++ (u1 ++ (v1 ++ (u2 ++ (v2 ++ q))))) = p ++ (w1 ++ (u2 ++ (v2 ++ q))) ∧ Mrg u1 v1 w1 := by
    by_cases c : a < s ∧ s < d
    · rw [if_pos c]
      exact ih p u1 v1 (u2 ++ (v2 ++ q)) a s d (by omega) (by omega) su1 sv1 h1 ha hs hd
    · rw [if_neg c]
      rcases Nat.lt_or_ge a s with h | h
      · obtain rfl := List.eq_nil_of_length_eq_zero (l := v1) (by omega)
        exact ⟨u1, by simp, su1, by simpa using Rea.refl u1, by simp⟩
      · obtain rfl := List.eq_nil_of_length_eq_zero (l := u1) (by omega)
        exact ⟨v1, by simp, sv1, by simpa using Rea.refl v1, by simp⟩
  rw [hz]
  have hw1 : d = (p ++ w1).length := by rw [List.length_append, hw.2.2]; omega
  by_cases c : d < e ∧ e < b
  · rw [if_pos c]
    obtain ⟨w2, k1, k2⟩ := ih (p ++ w1) u2 v2 q d e b (by omega) (by omega) su2 sv2 h2 hw1 he hb
    refine ⟨w1, w2, ?_, hw, k2⟩
    rw [show p ++ (w1 ++ (u2 ++ (v2 ++ q))) = (p ++ w1) ++ (u2 ++ (v2 ++ q)) by simp, k1]; simp
  · rw [if_neg c]
    rcases Nat.lt_or_ge d e with h | h
    · obtain rfl := List.eq_nil_of_length_eq_zero (l := v2) (by omega)
      exact ⟨w1, u2, by simp, hw, su2, by simpa using Rea.refl u2, by simp⟩
    · obtain rfl := List.eq_nil_of_length_eq_zero (l := u2) (by omega)
      exact ⟨w1, v2, by simp, hw, sv2, by simpa using Rea.refl v2, by simp⟩
theorem symX_spec (p u1 u2 v1 v2 q : List It) {a m b : Nat} (ha : a = p.length) (hm : m = a + u1.length + u2.length) (hs : symC (p ++ ((u1 ++ u2) ++ ((v1 ++ v2) ++ q))) a m b = a + u1.length) (he : (a + b) / 2 + m - (a + u1.length) = m + v1.length) :
    symX (p ++ ((u1 ++ u2) ++ ((v1 ++ v2) ++ q))) a m b = p ++ (u1 ++ (v1 ++ (u2 ++ (v2 ++ q)))) := by
  unfold symX
  rw [hs, he]
  by_cases c : a + u1.length < m ∧ m < m + v1.length
  · rw [if_pos c, show p ++ (u1 ++ u2 ++ (v1 ++ v2 ++ q)) = (p ++ u1) ++ (u2 ++ (v1 ++ (v2 ++ q))) by simp, rotI_spec (p ++ u1) u2 v1 (v2 ++ q) (by omega) (by omega) (by simp; omega) (by omega) rfl]
    simp
  · rw [if_neg c]
    rcases Nat.lt_or_ge (a + u1.length) m with h | h
    · obtain rfl := List.eq_nil_of_length_eq_zero (l := v1) (by omega); simp
    · obtain rfl := List.eq_nil_of_length_eq_zero (l := u2) (by omega); simp
theorem cut_at (l : List It) {n : Nat} (h : n ≤ l.length) : ∃ x y, l = x ++ y ∧ x.length = n := ⟨l.take n, l.drop n, (List.take_append_drop _ _).symm, by rw [List.length_take]; omega⟩
theorem symM_st (f : Nat) (ih : ∀ (p u v q : List It) (a m b : Nat), 0 < u.length → 0 < v.length → Srt u → Srt v → u.length + v.length ≤ f → a = p.length → m = a + u.length → b = m + v.length → ∃ w, symM f (p ++ (u ++ (v ++ q))) a m b = p ++ (w ++ q) ∧ Mrg u v w)
    (p u v q : List It) (a m b : Nat) (hu0 : 0 < u.length) (hv0 : 0 < v.length) (su : Srt u) (sv : Srt v) (hf : u.length + v.length ≤ f + 1) (ha : a = p.length) (hm : m = a + u.length) (hb : b = m + v.length) : ∃ w, symM (f + 1) (p ++ (u ++ (v ++ q))) a m b = p ++ (w ++ q) ∧ Mrg u v w := by
  by_cases c1 : m - a = 1
  · obtain ⟨x, rfl⟩ := one_of (l := u) (by omega)
    unfold symM
    rw [if_pos c1]
    exact symA_spec p v q x sv ha (by simpa using hm) hb
  by_cases c2 : b - m = 1
  · obtain ⟨y, rfl⟩ := one_of (l := v) (by omega)
    unfold symM
    rw [if_neg c1, if_pos c2]
    exact symB_spec p u q y su ha hm
  have lu : ∀ h h', a ≤ h → h ≤ h' → h' < m → ltI (at_ (p ++ (u ++ (v ++ q))) h') (at_ (p ++ (u ++ (v ++ q))) h) = false := fun h h' k1 k2 k3 => at_le su (by omega) k2 (by omega)
  have lv : ∀ h h', m ≤ h → h ≤ h' → h' < b → ltI (at_ (p ++ (u ++ (v ++ q))) h') (at_ (p ++ (u ++ (v ++ q))) h) = false := fun h h' k1 k2 k3 => by
    rw [show p ++ (u ++ (v ++ q)) = (p ++ u) ++ (v ++ q) by simp]; exact at_le sv (by simp; omega) k2 (by simp; omega)
  obtain ⟨bnd, q1, q2⟩ := symC_cut (p ++ (u ++ (v ++ q))) (a := a) (m := m) (b := b) (by omega) (by omega) lu lv
  clear lu lv
  rw [symM_eq c1 c2]
  obtain ⟨s, hs⟩ : ∃ s, symC (p ++ (u ++ (v ++ q))) a m b = s := ⟨_, rfl⟩
  obtain ⟨d, hd⟩ : ∃ d, (a + b) / 2 = d := ⟨_, rfl⟩
  have hd2 : a < d ∧ d < b := by omega
  rw [hs, hd] at bnd q1 q2
  obtain ⟨u1, u2, rfl, hu1⟩ := cut_at u (n := s - a) (by omega)
  obtain ⟨v1, v2, rfl, hv1⟩ := cut_at v (n := d + m - s - m) (by omega)
  simp only [List.length_append] at hm hb hf hu0 hv0
  have k21 : ∀ x ∈ u2, ∀ y ∈ v1, ltI y x = true := fun x hx y hy => by
    obtain ⟨j, hj, e1⟩ := at_mem (p := p ++ u1) (r := v1 ++ v2 ++ q) hx
    obtain ⟨i, hi, e2⟩ := at_mem (p := p ++ u1 ++ u2) (r := v2 ++ q) hy
    rw [show p ++ u1 ++ (u2 ++ (v1 ++ v2 ++ q)) = p ++ (u1 ++ u2 ++ (v1 ++ v2 ++ q)) by simp] at e1
    rw [show p ++ u1 ++ u2 ++ (v1 ++ (v2 ++ q)) = p ++ (u1 ++ u2 ++ (v1 ++ v2 ++ q)) by simp] at e2
    rw [← e1, ← e2]
    exact q1 _ _ (by simp; omega) (by simp; omega) (by simp; omega) (by simp; omega)
  have k12 : ∀ x ∈ u1, ∀ y ∈ v2, ltI y x = false := fun x hx y hy => by
    obtain ⟨j, hj, e1⟩ := at_mem (p := p) (r := u2 ++ (v1 ++ v2 ++ q)) hx
    obtain ⟨i, hi, e2⟩ := at_mem (p := p ++ u1 ++ u2 ++ v1) (r := q) hy
    rw [show p ++ (u1 ++ (u2 ++ (v1 ++ v2 ++ q))) = p ++ (u1 ++ u2 ++ (v1 ++ v2 ++ q)) by simp] at e1
    rw [show p ++ u1 ++ u2 ++ v1 ++ (v2 ++ q) = p ++ (u1 ++ u2 ++ (v1 ++ v2 ++ q)) by simp] at e2
    rw [← e1, ← e2]
    exact q2 _ _ (by omega) (by omega) (by simp; omega) (by simp; omega)
  clear q1 q2
  obtain ⟨su1, su2, su12⟩ := srt_app.1 su
  obtain ⟨sv1, sv2, sv12⟩ := srt_app.1 sv
  have hsa : s = a + u1.length := by omega
  have he : d + m - s = m + v1.length := by omega
  have hX := symX_spec p u1 u2 v1 v2 q (b := b) ha (by omega) (hs.trans hsa) (by rw [hd, ← hsa]; exact he)
  rw [hX, hs, hd]
  obtain ⟨w1, w2, k1, ⟨m1, m2, m3⟩, n1, n2, n3⟩ := sym_halves f ih p u1 u2 v1 v2 q (a := a) (s := s) (d := d) (e := d + m - s) (b := b) su1 su2 sv1 sv2 ha hsa (by omega) (by omega) (by omega) (by omega) (by omega)
  refine ⟨w1 ++ w2, k1, ?_, ?_, by simp [m3, n3]; omega⟩
  · refine srt_app.2 ⟨m1, n1, fun x hx y hy => ?_⟩
    rcases List.mem_append.1 (m2.mem.1 hx) with hx | hx <;> rcases List.mem_append.1 (n2.mem.1 hy) with hy | hy
    · exact su12 x hx y hy
    · exact k12 x hx y hy
    · exact lt_asymm (k21 y hy x hx)
    · exact sv12 x hx y hy
  · have r1 : Rea (u1 ++ u2 ++ (v1 ++ v2)) (u1 ++ v1 ++ (u2 ++ v2)) := by
      rw [show u1 ++ u2 ++ (v1 ++ v2) = u1 ++ ((u2 ++ v1) ++ v2) by simp, show u1 ++ v1 ++ (u2 ++ v2) = u1 ++ ((v1 ++ u2) ++ v2) by simp]
      exact (Rea.refl _).app ((Rea.swap fun x hx y hy e => lt_ne (k21 x hx y hy) e.symm).app (Rea.refl _))
    exact r1.trans (m2.app n2)
theorem symM_spec' : ∀ (f : Nat) (p u v q : List It) (a m b : Nat), 0 < u.length → 0 < v.length → Srt u → Srt v → u.length + v.length ≤ f → a = p.length → m = a + u.length → b = m + v.length → ∃ w, symM (f) (p ++ (u ++ (v ++ q))) a m b = p ++ (w ++ q) ∧ Mrg u v w
  | 0, p, u, v, q, a, m, b => fun h1 _ _ _ h5 => by omega
  | f + 1, p, u, v, q, a, m, b => fun h1 h2 h3 h4 h5 h6 h7 h8 => symM_st f (symM_spec' f) p u v q a m b h1 h2 h3 h4 h5 h6 h7 h8
theorem symM_spec (f : Nat) (p u v q : List It) {a m b : Nat} : 0 < u.length → 0 < v.length → Srt u → Srt v → u.length + v.length ≤ f → a = p.length → m = a + u.length → b = m + v.length → ∃ w, symM (f) (p ++ (u ++ (v ++ q))) a m b = p ++ (w ++ q) ∧ Mrg u v w := symM_spec' f p u v q a m b
inductive Chk (z : Nat) : List It → Prop
  | last {l : List It} : l.length ≤ z → Srt l → Chk z l
  | more {u r : List It} : u.length = z → Srt u → Chk z r → Chk z (u ++ r)
theorem stB_spec : ∀ (n : Nat) (p r : List It) {f a : Nat}, r.length ≤ n → r.length ≤ f → a = p.length → ∃ r', stB f (p ++ r) a = p ++ r' ∧ Chk 20 r' ∧ Rea r r'
  | n, p, r, f, a, hn, hf, ha => by
    by_cases h : a + 20 ≤ (p ++ r).length
    · have h' : 20 ≤ r.length := by simp at h; omega
      cases n with
      | zero => omega
      | succ n =>
        rw [stB_step (by simp; omega) h]
        obtain ⟨u, s, rfl, hu⟩ : ∃ u s, r = u ++ s ∧ u.length = 20 := ⟨r.take 20, r.drop 20, (List.take_append_drop _ _).symm, by rw [List.length_take]; omega⟩
        obtain ⟨w, k1, k2, k3, k4⟩ := insS_spec p u s (a := a) (b := a + 20) ha (by omega)
        simp only [List.length_append] at hn hf
        obtain ⟨s', j1, j2, j3⟩ := stB_spec n (p ++ w) s (f := f - 1) (a := a + 20) (by omega) (by omega) (by simp; omega)
        refine ⟨w ++ s', ?_, .more (by omega) k2 j2, k3.app j3⟩
        rw [k1, show p ++ (w ++ s) = (p ++ w) ++ s by simp, j1]; simp
    · rw [stB_end h]
      obtain ⟨w, k1, k2, k3, k4⟩ := insS_spec p r [] (a := a) (b := (p ++ r).length) ha (by simp)
      simp only [List.append_nil] at k1
      exact ⟨w, k1, .last (by simp at h; omega) k2, k3⟩
theorem chk_cut {z : Nat} (hz : 0 < z) {r : List It} (h : Chk z r) (hl : z < r.length) : ∃ u s, r = u ++ s ∧ u.length = z ∧ Srt u ∧ Chk z s := by
  cases h with
  | last h1 _ => omega
  | more h1 h2 h3 => exact ⟨_, _, rfl, h1, h2, h3⟩
theorem chk_srt {z : Nat} {r : List It} (h : Chk z r) (hl : r.length ≤ z) : Srt r := by
  cases h with
  | last _ h => exact h
  | more h1 h2 h3 =>
    rename_i u s
    simp only [List.length_append] at hl
    obtain rfl := List.eq_nil_of_length_eq_zero (l := s) (by omega)
    simpa using h2
theorem chk_tail {z : Nat} {u s : List It} (hu : u.length = z) (hz : 0 < z) (h : Chk z (u ++ s)) : Srt u ∧ Chk z s := by
  cases h' : s with
  | nil =>
    subst h'
    rw [List.append_nil] at h
    exact ⟨chk_srt h (by omega), .last (by simp) (by simp [Srt])⟩
  | cons x t =>
    obtain ⟨u', s', e, k1, k2, k3⟩ := chk_cut hz h (by rw [h']; simp; omega)
    obtain ⟨rfl, rfl⟩ := List.append_inj e (by omega)
    rw [← h']; exact ⟨k2, k3⟩
theorem stP_spec : ∀ (n : Nat) (p r : List It) {f a z : Nat}, 0 < z → r.length ≤ n → r.length ≤ f → a = p.length → Chk z r → ∃ r', stP f (p ++ r) z a = p ++ r' ∧ Chk (2 * z) r' ∧ Rea r r'
  | n, p, r, f, a, z, hz, hn, hf, ha, hc => by
    by_cases h : a + 2 * z ≤ (p ++ r).length
    · have h' : 2 * z ≤ r.length := by simp at h; omega
      cases n with
      | zero => omega
      | succ n =>
        rw [stP_step hz (by simp; omega) h]
        obtain ⟨u, s, rfl, hu, hsu, hcs⟩ := chk_cut hz hc (by omega)
        simp only [List.length_append] at hn hf h'
        obtain ⟨v, t, rfl, hv⟩ : ∃ v t, s = v ++ t ∧ v.length = z := ⟨s.take z, s.drop z, (List.take_append_drop _ _).symm, by rw [List.length_take]; omega⟩
        obtain ⟨hsv, hct⟩ := chk_tail hv hz hcs
        simp only [List.length_append] at hn hf h'
        obtain ⟨w, k1, k2, k3, k4⟩ := symM_spec (2 * z) p u v t (a := a) (m := a + z) (b := a + 2 * z) (by omega) (by omega) hsu hsv (by omega) ha (by omega) (by omega)
        obtain ⟨t', j1, j2, j3⟩ := stP_spec n (p ++ w) t (f := f - 1) (a := a + 2 * z) hz (by omega) (by omega) (by simp; omega) hct
        refine ⟨w ++ t', ?_, .more (by omega) k2 j2, ?_⟩
        · rw [show p ++ (u ++ (v ++ t)) = p ++ (u ++ (v ++ t)) from rfl, k1, show p ++ (w ++ t) = (p ++ w) ++ t by simp, j1]; simp
        · rw [← List.append_assoc]; exact k3.app j3
    · rw [stP_end h]
      have h' : r.length < 2 * z := by simp at h; omega
      by_cases g : a + z < (p ++ r).length
      · rw [if_pos g]
        simp only [List.length_append] at g
        obtain ⟨u, s, rfl, hu, hsu, hcs⟩ := chk_cut hz hc (by omega)
        simp only [List.length_append] at g h'
        have hss := chk_srt hcs (by omega)
        obtain ⟨w, k1, k2, k3, k4⟩ := symM_spec ((p ++ (u ++ s)).length - a) p u s [] (a := a) (m := a + z) (b := (p ++ (u ++ s)).length) (by omega) (by omega) hsu hss (by simp; omega) ha (by omega) (by simp; omega)
        simp only [List.append_nil] at k1
        exact ⟨w, k1, .last (by omega) k2, k3⟩
      · rw [if_neg g]
        simp only [List.length_append] at g
        exact ⟨r, rfl, .last (by omega) (chk_srt hc (by omega)), Rea.refl _⟩
theorem stM_spec : ∀ (f : Nat) (z : Nat) (xs : List It), 0 < z → xs.length ≤ z + f → Chk z xs → Srt (stM f z xs) ∧ Rea xs (stM f z xs)
  | 0, z, xs, hz, hl, hc => by
    show Srt xs ∧ Rea xs xs
    exact ⟨chk_srt hc (by omega), Rea.refl _⟩
  | f + 1, z, xs, hz, hl, hc => by
    unfold stM
    by_cases h : z < xs.length
    · rw [if_pos h]
      obtain ⟨r', k1, k2, k3⟩ := stP_spec xs.length [] xs (f := xs.length) (a := 0) hz (Nat.le_refl _) (Nat.le_refl _) rfl hc
      simp only [List.nil_append] at k1
      have hlen : r'.length = xs.length := by rw [← k1, stP_len]
      rw [k1]
      obtain ⟨j1, j2⟩ := stM_spec f (2 * z) r' (by omega) (by omega) k2
      exact ⟨j1, k3.trans j2⟩
    · rw [if_neg h]
      exact ⟨chk_srt hc (by omega), Rea.refl _⟩
theorem stI_spec (xs : List It) : Srt (stI xs) ∧ Rea xs (stI xs) := by
  obtain ⟨r', k1, k2, k3⟩ := stB_spec xs.length [] xs (f := xs.length) (a := 0) (Nat.le_refl _) (Nat.le_refl _) rfl
  simp only [List.nil_append] at k1
  unfold stI
  rw [k1]
  have hlen : r'.length = xs.length := by rw [← k1, stB_len]
  obtain ⟨j1, j2⟩ := stM_spec xs.length 20 r' (by omega) (by omega) k2
  exact ⟨j1, k3.trans j2⟩
theorem rvN_spec : ∀ (f : Nat) (a m b : List It) {i : Nat}, m.length ≤ 2 * f + 1 → i = a.length → i = b.length → rvN f (a ++ (m ++ b)) i = a ++ (m.reverse ++ b)
  | 0, a, m, b, i, hf, ha, hb => by
    show a ++ (m ++ b) = _
    match m, hf with
    | [], _ => rfl
    | [x], _ => rfl
    | _ :: _ :: _, h => exact absurd h (by simp)
  | f + 1, a, m, b, i, hf, ha, hb => by
    by_cases h : i + 1 + i < (a ++ (m ++ b)).length
    · rw [rvN_step (by omega) h, Nat.add_sub_cancel]
      simp only [List.length_append] at h
      have hm2 : 2 ≤ m.length := by omega
      obtain ⟨x, m', y, rfl⟩ : ∃ x m' y, m = x :: (m' ++ [y]) := by
        cases m with
        | nil => exact absurd hm2 (by simp)
        | cons x t =>
          rcases List.eq_nil_or_concat t with rfl | ⟨s', y, e⟩
          · exact absurd hm2 (by simp)
          · exact ⟨x, s', y, by simp [e]⟩
      rw [show a ++ (x :: (m' ++ [y]) ++ b) = a ++ x :: (m' ++ y :: b) by simp, swI_mid a x m' y b ha (by simp; omega), show a ++ y :: (m' ++ x :: b) = (a ++ [y]) ++ (m' ++ ([x] ++ b)) by simp,
        rvN_spec f (a ++ [y]) m' ([x] ++ b) (by simp at hf; omega) (by simp; omega) (by simp; omega)]
      simp
    · rw [rvN_end h]
      simp only [List.length_append] at h
      match m, h with
      | [], _ => rfl
      | [x], _ => rfl
      | _ :: _ :: _, h => simp at h; omega
theorem rvI_eq (xs : List It) : rvI xs = xs.reverse := by
  have := rvN_spec xs.length [] xs [] (i := 0) (by omega) rfl rfl
  simpa [rvI] using this
end Go.Proofs.YtmjokdhhniblgaaGreat
end
section
namespace Go.Proofs.YtmjokdhhniblgaaGreat
set_option linter.unusedVariables false
set_option linter.unusedSimpArgs false
open Go.RowKit Pl
theorem alike_iff {x y : It} : alike x y = true ↔ H.l x.ix = H.l y.ix := by unfold alike; simp
theorem ltI_of_key {x y z : It} (h : H.l x.ix = H.l y.ix) : ltI x z = ltI y z := by unfold ltI; rw [h]
theorem ddp_spec : ∀ (r : List It) (p : It), Srt (p :: r) → Str (p :: ddp p r) ∧ ∀ k, cls k (p :: ddp p r) = (cls k (p :: r)).take 1
  | [], p, _ => ⟨by simp [ddp, Str], fun k => by
    show cls k [p] = (cls k [p]).take 1
    rw [cls_cons]; split <;> simp [cls]⟩
  | x :: r, p, hs => by
    have hpx : ltI x p = false := List.rel_of_pairwise_cons hs (by simp)
    obtain ⟨h1, h2⟩ := ddp_spec r x (List.Pairwise.of_cons hs)
    obtain ⟨h3, h4⟩ := List.pairwise_cons.1 h1
    unfold ddp
    by_cases ha : alike x p = true
    · rw [if_pos ha]
      have e := alike_iff.1 ha
      refine ⟨List.pairwise_cons.2 ⟨fun y hy => by rw [← ltI_of_key e]; exact h3 y hy, h4⟩, fun k => ?_⟩
      have hk := h2 k
      rw [cls_cons k p, cls_cons k p, cls_cons k x]
      rw [cls_cons k x, cls_cons k x] at hk
      by_cases hkp : H.l p.ix = k
      · rw [if_pos (by rw [e]; exact hkp), if_pos (by rw [e]; exact hkp)] at hk
        rw [if_pos hkp, if_pos hkp]
        simp at hk
        simp [hk]
      · rw [if_neg (by rw [e]; exact hkp), if_neg (by rw [e]; exact hkp)] at hk
        rw [if_neg hkp, if_neg hkp, if_neg (by rw [e]; exact hkp)]
        exact hk
    · rw [if_neg ha]
      have hlt : ltI p x = true := by
        cases q : ltI p x with
        | true => rfl
        | false => exact absurd (alike_iff.2 (lt_total hpx q)) ha
      refine ⟨List.pairwise_cons.2 ⟨fun y hy => ?_, h1⟩, fun k => ?_⟩
      · rcases List.mem_cons.1 hy with rfl | hy
        · exact hlt
        · exact lt_trans hlt (h3 y hy)
      · rw [cls_cons k p, cls_cons k p, h2 k]
        by_cases hkp : H.l p.ix = k
        · rw [if_pos hkp, if_pos hkp, ← h2 k, cls_none (fun y hy => ?_)]
          · simp
          · subst hkp
            rcases List.mem_cons.1 hy with rfl | hy
            · exact fun e => lt_ne hlt e.symm
            · exact fun e => lt_ne (lt_trans hlt (h3 y hy)) e.symm
        · rw [if_neg hkp, if_neg hkp]
theorem dd_spec (xs : List It) (h : Srt xs) : Str (dd xs) ∧ ∀ k, cls k (dd xs) = (cls k xs).take 1 := by
  cases xs with
  | nil => exact ⟨by simp [dd, Str], fun k => by simp [dd, cls]⟩
  | cons x r => exact ddp_spec r x h
/-- A strict order's list is told by its items. -/
theorem str_unique : ∀ {xs ys : List It}, Str xs → Str ys → (∀ k, cls k xs = cls k ys) → xs = ys
  | [], [], _, _, _ => rfl
  | [], y :: ys, _, _, h => by have := h (H.l y.ix); rw [cls_cons, if_pos rfl] at this; simp [cls] at this
  | x :: xs, [], _, _, h => by have := h (H.l x.ix); rw [cls_cons, if_pos rfl] at this; simp [cls] at this
  | x :: xs, y :: ys, hx, hy, h => by
    obtain ⟨h1, h2⟩ := List.pairwise_cons.1 hx
    obtain ⟨h3, h4⟩ := List.pairwise_cons.1 hy
    have mx : x ∈ y :: ys := (mem_cls.1 (show x ∈ cls (H.l x.ix) (y :: ys) by rw [← h]; exact mem_cls.2 ⟨by simp, rfl⟩)).1
    have my : y ∈ x :: xs := (mem_cls.1 (show y ∈ cls (H.l y.ix) (x :: xs) by rw [h]; exact mem_cls.2 ⟨by simp, rfl⟩)).1
    have e : x = y := by
      rcases List.mem_cons.1 mx with e | mx
      · exact e
      · rcases List.mem_cons.1 my with e | my
        · exact e.symm
        · have := lt_trans (h1 y my) (h3 x mx)
          rw [lt_irrefl] at this; cases this
    subst e
    refine congrArg (x :: ·) (str_unique h2 h4 fun k => ?_)
    have := h k
    rw [cls_cons, cls_cons] at this
    split at this
    · exact (List.cons.inj this).2
    · exact this
theorem plc_split {out : List It} (x : It) (h : Str out) : ∃ a b, out = a ++ b ∧ plc x out = a.length ∧ (∀ y ∈ a, ltI y x = true) ∧ ∀ y ∈ b, ltI y x = false := by
  induction out with
  | nil => exact ⟨[], [], rfl, rfl, by simp, by simp⟩
  | cons z r ih =>
    obtain ⟨h1, h2⟩ := List.pairwise_cons.1 h
    unfold plc fst_
    by_cases hz : ltI z x = true
    · obtain ⟨a, b, rfl, k1, k2, k3⟩ := ih h2
      refine ⟨z :: a, b, rfl, ?_, ?_, k3⟩
      · rw [if_neg (by simp [hz])]; unfold plc at k1; rw [k1]; rfl
      · intro y hy
        rcases List.mem_cons.1 hy with rfl | hy
        · exact hz
        · exact k2 y hy
    · refine ⟨[], z :: r, rfl, by rw [if_pos (by simpa using hz)]; rfl, by simp, fun y hy => ?_⟩
      rcases List.mem_cons.1 hy with rfl | hy
      · simpa using hz
      · cases q : ltI y x with
        | false => rfl
        | true => exact absurd (lt_trans (h1 y hy) q) hz
theorem insR_spec {out : List It} (x : It) (h : Str out) : Str (insR out x) ∧ ∀ k, cls k (insR out x) = if H.l x.ix = k then [x] else cls k out := by
  obtain ⟨a, b, rfl, hp, ha, hb⟩ := plc_split x h
  obtain ⟨s1, s2, s3⟩ := str_app.1 h
  by_cases hc : plc x (a ++ b) < (a ++ b).length ∧ alike (at_ (a ++ b) (plc x (a ++ b))) x = true
  · have hb0 : b ≠ [] := fun e => by subst e; rw [hp] at hc; simp at hc
    obtain ⟨y, c, rfl⟩ : ∃ y c, b = y :: c := by cases b with | nil => exact absurd rfl hb0 | cons y c => exact ⟨y, c, rfl⟩
    rw [hp, at_mid] at hc
    have e := alike_iff.1 hc.2
    have hi : insR (a ++ y :: c) x = a ++ x :: c := by
      unfold insR
      rw [hp, at_mid, if_pos hc, List.set_append_right _ _ (Nat.le_refl _), Nat.sub_self, List.set_cons_zero]
    rw [hi]
    obtain ⟨s4, s5⟩ := List.pairwise_cons.1 s2
    refine ⟨str_app.2 ⟨s1, List.pairwise_cons.2 ⟨fun z hz => by rw [← ltI_of_key e]; exact s4 z hz, s5⟩, fun z hz t ht => ?_⟩, fun k => ?_⟩
    · rcases List.mem_cons.1 ht with rfl | ht
      · exact ha z hz
      · exact s3 z hz t (by simp [ht])
    · rw [cls_app, cls_cons, cls_app, cls_cons k y, e]
      by_cases hk : H.l x.ix = k
      · rw [if_pos hk, if_pos hk, cls_none (fun z hz q => lt_ne (ha z hz) (q.trans hk.symm)), cls_none (fun z hz q => lt_ne (s4 z hz) ((e.trans hk).trans q.symm))]
        simp
      · rw [if_neg hk, if_neg hk, if_neg hk]
  · have hi : insR (a ++ b) x = a ++ x :: b := by
      unfold insR
      rw [if_neg hc, hp, List.take_left, List.drop_left]; simp
    have hne : ∀ z ∈ b, ltI x z = true := fun z hz => by
      obtain ⟨y, c, rfl⟩ : ∃ y c, b = y :: c := by cases b with | nil => cases hz | cons y c => exact ⟨y, c, rfl⟩
      have hy : ltI x y = true := by
        cases q : ltI x y with
        | true => rfl
        | false =>
          refine absurd ⟨?_, ?_⟩ hc
          · rw [hp]; simp
          · rw [hp, at_mid]; exact alike_iff.2 (lt_total (hb y (by simp)) q)
      rcases List.mem_cons.1 hz with rfl | hz
      · exact hy
      · exact lt_trans hy ((List.pairwise_cons.1 s2).1 z hz)
    rw [hi]
    refine ⟨str_app.2 ⟨s1, List.pairwise_cons.2 ⟨hne, s2⟩, fun z hz t ht => ?_⟩, fun k => ?_⟩
    · rcases List.mem_cons.1 ht with rfl | ht
      · exact ha z hz
      · exact s3 z hz t ht
    · rw [cls_app, cls_cons, cls_app]
      by_cases hk : H.l x.ix = k
      · rw [if_pos hk, if_pos hk, cls_none (fun z hz q => lt_ne (ha z hz) (q.trans hk.symm)), cls_none (fun z hz q => lt_ne (hne z hz) (hk.trans q.symm))]
        simp
      · rw [if_neg hk, if_neg hk]
theorem fold_spec : ∀ (A out : List It), Str out → Str (A.foldl insR out) ∧ ∀ k, cls k (A.foldl insR out) = if cls k A = [] then cls k out else (cls k A).reverse.take 1
  | [], out, h => ⟨h, fun k => by simp [cls]⟩
  | x :: A, out, h => by
    obtain ⟨h1, h2⟩ := insR_spec x h
    obtain ⟨h3, h4⟩ := fold_spec A (insR out x) h1
    refine ⟨h3, fun k => ?_⟩
    show cls k (A.foldl insR (insR out x)) = _
    rw [h4 k, h2 k, cls_cons]
    by_cases hk : H.l x.ix = k
    · rw [if_pos hk, if_pos hk, if_neg (show ¬ x :: cls k A = [] by simp)]
      by_cases hA : cls k A = []
      · rw [if_pos hA, hA]; rfl
      · rw [if_neg hA, List.reverse_cons, List.take_append_of_le_length]
        have : 0 < (cls k A).length := List.length_pos_iff.2 hA
        simp; omega
    · rw [if_neg hk, if_neg hk]
theorem setR_spec (l m : List It) : Str (setR l m) ∧ ∀ k, cls k (setR l m) = (cls k (l ++ m)).reverse.take 1 := by
  obtain ⟨h1, h2⟩ := fold_spec (l ++ m) [] (by simp [Str])
  refine ⟨h1, fun k => ?_⟩
  show cls k ((l ++ m).foldl insR []) = _
  rw [h2 k]
  split
  · rename_i e; rw [e]; simp [cls]
  · rfl
theorem setA_eq (l m : List It) : setA l m = setR l m := by
  obtain ⟨r1, r2⟩ := setR_spec l m
  have hf : [l, m].flatten = l ++ m := by simp
  unfold setA
  rw [hf, rvI_eq]
  obtain ⟨s1, s2⟩ := stI_spec (l ++ m).reverse
  obtain ⟨d1, d2⟩ := dd_spec _ s1
  refine str_unique d1 r1 fun k => ?_
  rw [d2 k, s2 k, r2 k]
  unfold cls
  rw [List.filter_reverse]
theorem setR_str (l m : List It) : Str (setR l m) := (setR_spec l m).1
theorem byte_bits {A B : Nat} (hA : A < 256) (hB : B < 256) : ∀ r, r ≤ 8 → (∀ j, j < r → A / 2 ^ (7 - j) % 2 = B / 2 ^ (7 - j) % 2) → A / 2 ^ (8 - r) = B / 2 ^ (8 - r)
  | 0, _, _ => by rw [Nat.div_eq_of_lt hA, Nat.div_eq_of_lt hB]
  | r + 1, hr, h => by
    have ih := byte_bits hA hB r (by omega) (fun j hj => h j (by omega))
    have hb := h r (by omega)
    have e : 8 - r = (7 - r) + 1 := by omega
    rw [e, Nat.pow_succ, ← Nat.div_div_eq_div_mul, ← Nat.div_div_eq_div_mul] at ih
    rw [show 8 - (r + 1) = 7 - r by omega]
    omega
theorem byte_lt {A B : Nat} (hA : A < 256) (hB : B < 256) {r : Nat} (hr : r < 8) (h : ∀ j, j < r → A / 2 ^ (7 - j) % 2 = B / 2 ^ (7 - j) % 2) (h1 : A / 2 ^ (7 - r) % 2 = 1) (h0 : B / 2 ^ (7 - r) % 2 = 0) : B < A := by
  have ih := byte_bits hA hB r (by omega) h
  have e : 8 - r = (7 - r) + 1 := by omega
  rw [e, Nat.pow_succ, ← Nat.div_div_eq_div_mul, ← Nat.div_div_eq_div_mul] at ih
  rcases Nat.lt_or_ge B A with q | q
  · exact q
  · have := Nat.div_le_div_right (c := 2 ^ (7 - r)) q
    omega
theorem less_at : ∀ {a b : List UInt8} {n : Nat} {x y : UInt8}, a.take n = b.take n → a[n]? = some x → b[n]? = some y → x < y → Op.bytesLess a b = true
  | [], b, n, x, y, _, ha, _, _ => by simp at ha
  | u :: a, [], n, x, y, _, _, hb, _ => by simp at hb
  | u :: a, v :: b, 0, x, y, _, ha, hb, hxy => by
    simp at ha hb; subst ha; subst hb
    unfold Op.bytesLess
    have : u ≠ v := fun e => by subst e; exact absurd hxy (UInt8.lt_irrefl _)
    simp [this, hxy]
  | u :: a, v :: b, n + 1, x, y, h, ha, hb, hxy => by
    simp at h ha hb
    obtain ⟨rfl, h⟩ := h
    unfold Op.bytesLess
    simp [less_at h ha hb hxy]
theorem byteN_get (h : H) {q : Nat} (hq : q < 32) : ∃ x, (H.l h)[q]? = some x ∧ x.toNat = byteN h q := ⟨h ⟨q, hq⟩, H.l_get h ⟨q, hq⟩, by unfold byteN; rw [dif_pos hq]⟩
theorem bytes_eq {a b : H} : ∀ {n : Nat}, n ≤ 32 → (∀ j, j < 8 * n → bitN a j = bitN b j) → (H.l a).take n = (H.l b).take n
  | 0, _, _ => by simp
  | n + 1, hn, h => by
    have ih := bytes_eq (n := n) (by omega) (fun j hj => h j (by omega))
    obtain ⟨x, h1, h2⟩ := byteN_get a (q := n) (by omega)
    obtain ⟨y, h3, h4⟩ := byteN_get b (q := n) (by omega)
    have e : byteN a n = byteN b n := by
      have := byte_bits (byteN_lt a n) (byteN_lt b n) 8 (Nat.le_refl _) (fun j hj => by
        have := h (8 * n + j) (by omega)
        unfold bitN at this
        rwa [show (8 * n + j) / 8 = n by omega, show (8 * n + j) % 8 = j by omega] at this)
      simpa using this
    have exy : x = y := UInt8.toNat_inj.1 (by omega)
    rw [List.take_add_one, List.take_add_one, ih, h1, h3, exy]
theorem bits_less {a b : H} {k : Nat} (hk : k < 256) (h : ∀ j, j < k → bitN a j = bitN b j) (ha : bitN a k = 1) (hb : bitN b k = 0) : Op.bytesLess (H.l b) (H.l a) = true := by
  obtain ⟨x, h1, h2⟩ := byteN_get a (q := k / 8) (by omega)
  obtain ⟨y, h3, h4⟩ := byteN_get b (q := k / 8) (by omega)
  have hlt : byteN b (k / 8) < byteN a (k / 8) := byte_lt (byteN_lt _ _) (byteN_lt _ _) (r := k % 8) (by omega) (fun j hj => by
    have := h (8 * (k / 8) + j) (by omega)
    unfold bitN at this
    rwa [show (8 * (k / 8) + j) / 8 = k / 8 by omega, show (8 * (k / 8) + j) % 8 = j by omega] at this) ha hb
  refine less_at (n := k / 8) (bytes_eq (by omega) (fun j hj => (h j (by omega)).symm)) h3 h1 ?_
  rw [UInt8.lt_iff_toNat_lt]; omega
def agree (k : Nat) (l : List It) : Prop := ∀ x ∈ l, ∀ y ∈ l, ∀ j, j < k → bitN x.ix j = bitN y.ix j
theorem sided_of {k : Nat} (hk : k < 256) : ∀ {l : List It}, Str l → agree k l → sided (fun x => !bit0 k x) l
  | [], _, _ => trivial
  | x :: r, hs, ha => by
    obtain ⟨h1, h2⟩ := List.pairwise_cons.1 hs
    refine ⟨fun hx y hy => ?_, sided_of hk h2 (fun a b c d j hj => ha a (by simp [b]) c (by simp [d]) j hj)⟩
    have bx := bitN_lt x.ix k
    have by_ := bitN_lt y.ix k
    simp only [bit0, Bool.not_eq_true', beq_eq_false_iff_ne] at hx ⊢
    intro h0
    have := bits_less hk (ha x (by simp) y (by simp [hy])) (by omega) h0
    have q := lt_asymm (h1 y hy)
    unfold ltI at q
    rw [this] at q; cases q
theorem okT_of : ∀ (f k : Nat) (l : List It), k + f = 256 → Str l → agree k l → okT f k l
  | 0, k, l, hk, hs, ha => by
    show l.length < 2
    match l, hs with
    | [], _ => simp
    | [x], _ => simp
    | x :: y :: r, hs =>
      have h1 := List.rel_of_pairwise_cons hs (show y ∈ y :: r by simp)
      have := bytes_eq (a := x.ix) (b := y.ix) (n := 32) (Nat.le_refl _) (fun j hj => ha x (by simp) y (by simp) j (by omega))
      rw [List.take_of_length_le (by rw [H.l_len]; omega), List.take_of_length_le (by rw [H.l_len]; omega)] at this
      exact absurd this (lt_ne h1)
  | f + 1, k, l, hk, hs, ha => by
    refine .inr ⟨by omega, sided_of (by omega) hs ha, okT_of f (k + 1) _ (by omega) (hs.filter _) ?_, okT_of f (k + 1) _ (by omega) (hs.filter _) ?_⟩
    · intro x hx y hy j hj
      obtain ⟨x1, x2⟩ := List.mem_filter.1 hx
      obtain ⟨y1, y2⟩ := List.mem_filter.1 hy
      rcases Nat.lt_or_eq_of_le (Nat.le_of_lt_succ hj) with h | rfl
      · exact ha x x1 y y1 j h
      · simp only [bit0, beq_iff_eq] at x2 y2; omega
    · intro x hx y hy j hj
      obtain ⟨x1, x2⟩ := List.mem_filter.1 hx
      obtain ⟨y1, y2⟩ := List.mem_filter.1 hy
      rcases Nat.lt_or_eq_of_le (Nat.le_of_lt_succ hj) with h | rfl
      · exact ha x x1 y y1 j h
      · have b1 := bitN_lt x.ix j
        have b2 := bitN_lt y.ix j
        simp only [bit0, Bool.not_eq_true', beq_eq_false_iff_ne] at x2 y2; omega
theorem okT_str {l : List It} (h : Str l) : okT 256 0 l := okT_of 256 0 l rfl h (fun x _ y _ j hj => absurd hj (Nat.not_lt_zero j))
/-- A tree's root. -/
def rootH (l : List It) : H := belowH 257 0 (setR l [])
theorem setR_len (l m : List It) : (setR l m).length ≤ l.length + m.length := by
  have : ∀ (A out : List It), (A.foldl insR out).length ≤ out.length + A.length := fun A => by
    induction A with
    | nil => intro out; simp
    | cons x A ih => intro out; have h1 := ih (insR out x); have h2 := insR_len out x; simp at h1 ⊢; omega
  have := this (l ++ m) []
  simpa [setR] using this
end Go.Proofs.YtmjokdhhniblgaaGreat
end
section
namespace Go.Proofs.YtmjokdhhniblgaaGreat
set_option linter.unusedVariables false
set_option linter.unusedSimpArgs false
open Go.RowKit Pl
def entD (nm : List UInt8) (ver key : Int) : List DV := [.v (.string ⟨⟨nm⟩⟩), .v (.int .i64 ver), .v (.int .u64 key)]
section
variable {P : Program} {C : Cx} {L : Lo} {Γ : Ga} {d : Nat} {ty : TypeId} {pos : String} {af : Array Edge} {gd : Option (Nat × Bool)}
theorem Pl.OT.nehf {xt yt : TypeId} {x y : Operand} {a b : H} (h : a = b) (hn : Nat.blt d C.n = true) (hx : evd L x = some (.ag (hdv a))) (hy : evd L y = some (.ag (hdv b))) (ht : eqT P xt = some hks) :
    OT P C ⟨some d, .binOp .neq xt x y yt, ty, pos, af, gd⟩ L Γ (upd L d (.f (.v (.bool false)))) Γ := by
  have := OT.neh (P := P) (C := C) (Γ := Γ) (ty := ty) (pos := pos) (af := af) (gd := gd) (yt := yt) hn hx hy ht
  rwa [show decide (¬ H.l a = H.l b) = false by rw [h]; simp] at this
end
theorem rootH_def (l : List It) : belowH (256 + 1) 0 (setR l []) = rootH l := rfl
def h3 (a b : UInt8) : H := fun j => if j.val = 0 then a else if j.val = 2 then b else 0
def w2 (x : UInt16) : UInt16 := x >>> 2
def w7 (x : UInt16) : UInt16 := x >>> 7
def w8 (x : UInt16) : Int := ((x.toNat / 256 : Nat) : Int)
def b2 (x : UInt16) : UInt8 := (w2 x).toUInt8
def b7 (x : UInt16) : UInt8 := (w7 x).toUInt8
end Go.Proofs.YtmjokdhhniblgaaGreat
end
section
namespace Go.Proofs.YtmjokdhhniblgaaGreat
set_option linter.unusedVariables false
set_option linter.unusedSimpArgs false
open Go.RowKit Pl
end Go.Proofs.YtmjokdhhniblgaaGreat
end
section
namespace Go.Proofs.YtmjokdhhniblgaaGreat
set_option linter.unusedVariables false
set_option linter.unusedSimpArgs false
open Go.RowKit Pl
def selB (s : Nat) (x : It) : Bool := bitN x.ix 0 == s
def hvs (X : List It) (s j : Nat) : H := if j < s then belowH 256 1 (X.filter (selB j)) else zeroH
end Go.Proofs.YtmjokdhhniblgaaGreat
end

