import Derived.Test.YtdjcclcejmeheaaGreatZGv
import Derived.Test.YtdjcclcejmeheaaGreatZGu
/-
  The proof that a log begins with another one, the neighbours of a leaf: what is made is taken; heads of the seat's epochs.
-/
namespace Go.Proofs.YtdjcclcejmeheaaGreat
set_option linter.unusedVariables false
set_option linter.unusedSimpArgs false
open Go.RowKit Pl
/-- The proof of a part; the neighbours of a leaf. -/
def sbG : Nat → List H → Nat → Bool → List H
  | 0, _, _, _ => []
  | f + 1, l, m, w => if m = l.length then (if w = true then [] else [lroot l]) else if m ≤ splitN l.length then sbG f (l.take (splitN l.length)) m w ++ [lroot (l.drop (splitN l.length))] else sbG f (l.drop (splitN l.length)) (m - splitN l.length) false ++ [lroot (l.take (splitN l.length))]
def subF (l : List H) (m : Nat) (w : Bool) : List H := sbG l.length l m w
theorem sbG_eq : ∀ (f g : Nat) (l : List H) (m : Nat) (w : Bool), 1 ≤ m → m ≤ l.length → l.length ≤ f → l.length ≤ g → sbG f l m w = sbG g l m w
  | 0, _, l, m, _, h0, h1, h, _ => absurd h (by omega)
  | f + 1, 0, l, m, _, h0, h1, _, h => absurd h (by omega)
  | f + 1, g + 1, l, m, w, h0, h1, h2, h3 => by
    unfold sbG
    by_cases e : m = l.length
    · rw [if_pos e, if_pos e]
    · have hs := splitN_two (n := l.length) (by omega)
      have t1 : (l.take (splitN l.length)).length = splitN l.length := by rw [List.length_take]; omega
      have t2 : (l.drop (splitN l.length)).length = l.length - splitN l.length := List.length_drop
      rw [if_neg e, if_neg e]
      by_cases k : m ≤ splitN l.length
      · rw [if_pos k, if_pos k, sbG_eq f g _ m w h0 (by omega) (by omega) (by omega)]
      · rw [if_neg k, if_neg k, sbG_eq f g _ (m - splitN l.length) false (by omega) (by omega) (by omega) (by omega)]
section
variable {l : List H} {m i : Nat} {w : Bool}
theorem subF_same (h : 1 ≤ l.length) : subF l l.length w = if w = true then [] else [lroot l] := by
  unfold subF
  rw [sbG_eq l.length (l.length + 1) l _ w h (Nat.le_refl _) (Nat.le_refl _) (by omega), sbG, if_pos rfl]
theorem subF_left (h0 : 1 ≤ m) (h : m < l.length) (k : m ≤ splitN l.length) : subF l m w = subF (l.take (splitN l.length)) m w ++ [lroot (l.drop (splitN l.length))] := by
  have hs := splitN_two (n := l.length) (by omega)
  have t1 : (l.take (splitN l.length)).length = splitN l.length := by rw [List.length_take]; omega
  unfold subF
  rw [sbG_eq l.length (l.length + 1) l m w h0 (by omega) (Nat.le_refl _) (by omega), sbG, if_neg (by omega), if_pos k, sbG_eq l.length (l.take (splitN l.length)).length _ m w h0 (by omega) (by omega) (Nat.le_refl _)]
theorem subF_right (h0 : 1 ≤ m) (h : m < l.length) (k : ¬ m ≤ splitN l.length) : subF l m w = subF (l.drop (splitN l.length)) (m - splitN l.length) false ++ [lroot (l.take (splitN l.length))] := by
  have hs := splitN_two (n := l.length) (by omega)
  have t2 : (l.drop (splitN l.length)).length = l.length - splitN l.length := List.length_drop
  unfold subF
  rw [sbG_eq l.length (l.length + 1) l m w h0 (by omega) (Nat.le_refl _) (by omega), sbG, if_neg (by omega), if_neg k, sbG_eq l.length (l.drop (splitN l.length)).length _ (m - splitN l.length) false (by omega) (by omega) (by omega) (Nat.le_refl _)]
end
theorem subF_len : ∀ (f : Nat) (l : List H) (m : Nat) (w : Bool), (sbG f l m w).length ≤ f + 1
  | 0, _, _, _ => Nat.zero_le _
  | f + 1, l, m, w => by
    unfold sbG
    split
    · split
      · exact Nat.zero_le _
      · show 1 ≤ _; omega
    · split
      · rw [List.length_append]; have := subF_len f (l.take (splitN l.length)) m w; show _ + 1 ≤ _; omega
      · rw [List.length_append]; have := subF_len f (l.drop (splitN l.length)) (m - splitN l.length) false; show _ + 1 ≤ _; omega
def ptG : Nat → List H → Nat → List H
  | 0, _, _ => []
  | f + 1, l, i => if l.length < 2 then [] else if i < splitN l.length then ptG f (l.take (splitN l.length)) i ++ [lroot (l.drop (splitN l.length))] else ptG f (l.drop (splitN l.length)) (i - splitN l.length) ++ [lroot (l.take (splitN l.length))]
def pathF (l : List H) (i : Nat) : List H := ptG l.length l i
theorem ptG_eq : ∀ (f g : Nat) (l : List H) (i : Nat), l.length ≤ f → l.length ≤ g → ptG f l i = ptG g l i
  | 0, 0, _, _, _, _ => rfl
  | 0, g + 1, l, i, h, _ => by unfold ptG; rw [if_pos (by omega)]
  | f + 1, 0, l, i, _, h => by unfold ptG; rw [if_pos (by omega)]
  | f + 1, g + 1, l, i, h2, h3 => by
    unfold ptG
    by_cases e : l.length < 2
    · rw [if_pos e, if_pos e]
    · have hs := splitN_two (n := l.length) (by omega)
      have t1 : (l.take (splitN l.length)).length = splitN l.length := by rw [List.length_take]; omega
      have t2 : (l.drop (splitN l.length)).length = l.length - splitN l.length := List.length_drop
      rw [if_neg e, if_neg e, ptG_eq f g (l.take (splitN l.length)) i (by omega) (by omega), ptG_eq f g (l.drop (splitN l.length)) (i - splitN l.length) (by omega) (by omega)]
section
variable {l : List H} {i : Nat}
theorem pathF_one (h : l.length < 2) : pathF l i = [] := by
  unfold pathF
  rw [ptG_eq l.length (l.length + 1) l i (Nat.le_refl _) (by omega), ptG, if_pos h]
theorem pathF_left (h : 2 ≤ l.length) (k : i < splitN l.length) : pathF l i = pathF (l.take (splitN l.length)) i ++ [lroot (l.drop (splitN l.length))] := by
  have hs := splitN_two h
  have t1 : (l.take (splitN l.length)).length = splitN l.length := by rw [List.length_take]; omega
  unfold pathF
  rw [ptG_eq l.length (l.length + 1) l i (Nat.le_refl _) (by omega), ptG, if_neg (by omega), if_pos k, ptG_eq l.length (l.take (splitN l.length)).length _ i (by omega) (Nat.le_refl _)]
theorem pathF_right (h : 2 ≤ l.length) (k : ¬ i < splitN l.length) : pathF l i = pathF (l.drop (splitN l.length)) (i - splitN l.length) ++ [lroot (l.take (splitN l.length))] := by
  have hs := splitN_two h
  have t2 : (l.drop (splitN l.length)).length = l.length - splitN l.length := List.length_drop
  unfold pathF
  rw [ptG_eq l.length (l.length + 1) l i (Nat.le_refl _) (by omega), ptG, if_neg (by omega), if_neg k, ptG_eq l.length (l.drop (splitN l.length)).length _ (i - splitN l.length) (by omega) (Nat.le_refl _)]
end
theorem pathF_len : ∀ (f : Nat) (l : List H) (i : Nat), (ptG f l i).length ≤ f
  | 0, _, _ => Nat.zero_le _
  | f + 1, l, i => by
    unfold ptG
    split
    · exact Nat.zero_le _
    · split
      · rw [List.length_append]; have := pathF_len f (l.take (splitN l.length)) i; show _ + 1 ≤ _; omega
      · rw [List.length_append]; have := pathF_len f (l.drop (splitN l.length)) (i - splitN l.length); show _ + 1 ≤ _; omega
/-- Parts of a part. -/
theorem part_root {l : List H} {m : Nat} (h : splitN l.length < m) (hm : m ≤ l.length) (h2 : 2 ≤ l.length) : lroot (l.take m) = lnode (lroot (l.take (splitN l.length))) (lroot ((l.drop (splitN l.length)).take (m - splitN l.length))) := by
  have hs := splitN_two h2
  obtain ⟨d, hd⟩ := splitN_pow h2
  have e1 : (l.take m).length = m := by rw [List.length_take]; omega
  have e2 : splitN m = splitN l.length := by rw [hd]; exact splitN_eq (by omega) (by omega)
  have q := lroot_two (l := l.take m) (by omega)
  rw [e1, e2, List.take_take, Nat.min_eq_left (by omega), List.drop_take] at q
  exact q
theorem both_sub : ∀ (N : Nat) (l : List H) (m : Nat) (w : Bool) (old : H), l.length ≤ N → 1 ≤ m → m ≤ l.length → (w = true → old = lroot (l.take m)) → bothF old m l.length w (subF l m w) = (lroot (l.take m), lroot l, true)
  | 0, l, m, _, _, h, h0, h1, _ => absurd h (by omega)
  | N + 1, l, m, w, old, h, h0, h1, hw => by
    by_cases e : m = l.length
    · subst e
      rw [bothF_same h0, subF_same h0, List.take_length]
      cases w with
      | true => rw [if_pos rfl, if_pos rfl, hw rfl, List.take_length]; rfl
      | false => rfl
    · have hs := splitN_two (n := l.length) (by omega)
      have t1 : (l.take (splitN l.length)).length = splitN l.length := by rw [List.length_take]; omega
      have t2 : (l.drop (splitN l.length)).length = l.length - splitN l.length := List.length_drop
      by_cases k : m ≤ splitN l.length
      · have ih := both_sub N (l.take (splitN l.length)) m w old (by omega) h0 (by omega) (fun z => by rw [List.take_take, Nat.min_eq_left k]; exact hw z)
        rw [t1, List.take_take, Nat.min_eq_left k] at ih
        rw [subF_left h0 (by omega) k, bothF_left h0 (by omega) (by simp) k, initD_snoc, lastD_snoc, ih, lroot_two (l := l) (by omega)]
      · have ih := both_sub N (l.drop (splitN l.length)) (m - splitN l.length) false old (by omega) (by omega) (by omega) (fun z => by cases z)
        rw [t2] at ih
        rw [subF_right h0 (by omega) k, bothF_right h0 (by omega) (by simp) k, initD_snoc, lastD_snoc, ih, part_root (l := l) (m := m) (by omega) h1 (by omega), lroot_two (l := l) (by omega)]
theorem up_path : ∀ (N : Nat) (l : List H) (i : Nat) (x : H), l[i]? = some x → l.length ≤ N → upF l.length i x (pathF l i) = (lroot l, true)
  | 0, l, i, x, hx, h => by
    have := (List.getElem?_eq_some_iff.1 hx).1
    exact absurd this (by omega)
  | N + 1, l, i, x, hx, h => by
    have hi := (List.getElem?_eq_some_iff.1 hx).1
    by_cases e : l.length < 2
    · have e1 : l.length = 1 := by omega
      have e0 : i = 0 := by omega
      subst e0
      have hx2 := (List.getElem?_eq_some_iff.1 hx).2
      rw [e1, upF_one, pathF_one e, lroot_one e1 hi, hx2]; rfl
    · have hs := splitN_two (n := l.length) (by omega)
      have t1 : (l.take (splitN l.length)).length = splitN l.length := by rw [List.length_take]; omega
      have t2 : (l.drop (splitN l.length)).length = l.length - splitN l.length := List.length_drop
      by_cases k : i < splitN l.length
      · have ih := up_path N (l.take (splitN l.length)) i x (by rw [List.getElem?_take, if_pos k]; exact hx) (by omega)
        rw [t1] at ih
        rw [pathF_left (by omega) k, upF_left (by omega) (by simp) k, initD_snoc, lastD_snoc, ih, lroot_two (l := l) (by omega)]
      · have ih := up_path N (l.drop (splitN l.length)) (i - splitN l.length) x (by rw [List.getElem?_drop, show splitN l.length + (i - splitN l.length) = i by omega]; exact hx) (by omega)
        rw [t2] at ih
        rw [pathF_right (by omega) k, upF_right (by omega) (by simp) k, initD_snoc, lastD_snoc, ih, lroot_two (l := l) (by omega)]
theorem grow_sub {l : List H} {m : Nat} (h0 : 1 ≤ m) (h : m ≤ l.length) : growL (lroot (l.take m)) (lroot l) m l.length (subF l m true) = true := by
  unfold growL
  rw [both_sub l.length l m true _ (Nat.le_refl _) h0 h (fun _ => rfl)]; simp
theorem in_path {l : List H} {i : Nat} {x : H} (h : l[i]? = some x) : inLog (lroot l) l.length i x (pathF l i) = true := by
  unfold inLog
  rw [up_path l.length l i x h (Nat.le_refl _)]; simp
theorem last_one {p : List H} (h : p.length = 1) : p[(0 : Int).toNat]? = some (lastD p) := by
  have e := lastD_at (p := p) (by omega)
  rw [e, show (0 : Int).toNat = p.length - 1 by simp [h]]
  exact List.getElem?_eq_getElem _
theorem byt_of (b : UInt8) {x : Int} (h : x = (b.toNat : Int)) : byt x = b := by
  unfold byt; rw [h]; simp
theorem numB_leNum : ∀ {l : List UInt8}, l.length = 8 → numB (leNum l) = l
  | [a, b, c, d, e, f, g, h], _ => by
    have ha := a.toNat_lt
    have hb := b.toNat_lt
    have hc := c.toNat_lt
    have hd := d.toNat_lt
    have he := e.toNat_lt
    have hf := f.toNat_lt
    have hg := g.toNat_lt
    have hh := h.toNat_lt
    simp only [numB, leNum]
    rw [byt_of a (by omega), byt_of b (by omega), byt_of c (by omega), byt_of d (by omega), byt_of e (by omega), byt_of f (by omega), byt_of g (by omega), byt_of h (by omega)]
theorem rd8_cons {l : List UInt8} (h : 8 ≤ l.length) : l = numB (rdN (l, 0)) ++ (rdS (l, 0) 8).1 ∧ rdS (l, 0) 8 = (l.drop 8, 0) := by
  obtain ⟨h1, h2, h3⟩ := rd_ok (l := l) (x := 0) (n := 8) rfl h
  have e : rdS (l, 0) 8 = (l.drop 8, 0) := by unfold rdS; simp only [h2, h3]
  refine ⟨?_, e⟩
  rw [e]
  unfold rdN
  simp only [h1]
  rw [numB_leNum (by rw [List.length_take]; omega), List.take_append_drop]
theorem rd32_cons {l : List UInt8} (h : 32 ≤ l.length) : l = H.l (rdH (l, 0)) ++ (rdS (l, 0) 32).1 ∧ rdS (l, 0) 32 = (l.drop 32, 0) := by
  obtain ⟨h1, h2, h3⟩ := rd_ok (l := l) (x := 0) (n := 32) rfl h
  have e : rdS (l, 0) 32 = (l.drop 32, 0) := by unfold rdS; simp only [h2, h3]
  refine ⟨?_, e⟩
  rw [e]
  unfold rdH
  simp only [h1]
  rw [ofL_l (by rw [List.length_take]; omega), List.take_append_drop]
theorem intI_back {n : Int} (h0 : 0 ≤ n) (h1 : 0 ≤ intI n) : u64w (intI n) = n := by
  unfold intI at h1 ⊢
  split at h1
  · omega
  · rename_i q; rw [if_neg q]; unfold u64w; omega
theorem readH_parts {l : List UInt8} (h : (readH intI l).2 = 0) : l.length = 105 ∧ l.getD 0 0 = 72 ∧ rightH (hdF intI (l.drop 1, 0)) = true ∧ (readH intI l).1 = hdF intI (l.drop 1, 0) := by
  unfold readH at h ⊢
  by_cases a : 512 < l.length
  · rw [if_pos a] at h; cases h
  rw [if_neg a] at h ⊢
  by_cases b : l.length < 105
  · rw [if_pos b] at h; cases h
  rw [if_neg b] at h ⊢
  by_cases c : 105 < l.length ∨ ¬ l.getD 0 0 = 72
  · rw [if_pos c] at h; cases h
  rw [if_neg c] at h ⊢
  by_cases d : rightH (hdF intI (l.drop 1, 0)) = true
  · rw [if_pos d]; exact ⟨by omega, Classical.byContradiction (fun q => c (.inr q)), d, rfl⟩
  · rw [if_neg d] at h; cases h
theorem put_readH {l : List UInt8} (h : (readH intI l).2 = 0) : putH (readH intI l).1 = l := by
  obtain ⟨h1, h2, h3, h4⟩ := readH_parts h
  rw [h4]
  obtain ⟨s, hs⟩ : ∃ s, s = l.drop 1 := ⟨_, rfl⟩
  have hl : s.length = 104 := by rw [hs, List.length_drop]; omega
  have h0 : l = 72 :: s := by
    cases l with
    | nil => cases h1
    | cons x r => rw [hs, List.drop_succ_cons, List.drop_zero]; rw [List.getD_cons_zero] at h2; rw [h2]
  rw [← hs] at h3 ⊢
  have hr := of_decide_eq_true h3
  obtain ⟨a1, b1⟩ := rd8_cons (l := s) (by omega)
  obtain ⟨a2, b2⟩ := rd8_cons (l := s.drop 8) (by rw [List.length_drop]; omega)
  obtain ⟨a3, b3⟩ := rd8_cons (l := (s.drop 8).drop 8) (by simp only [List.length_drop]; omega)
  obtain ⟨a4, b4⟩ := rd32_cons (l := ((s.drop 8).drop 8).drop 8) (by simp only [List.length_drop]; omega)
  obtain ⟨a5, b5⟩ := rd32_cons (l := (((s.drop 8).drop 8).drop 8).drop 32) (by simp only [List.length_drop]; omega)
  obtain ⟨a6, b6⟩ := rd8_cons (l := ((((s.drop 8).drop 8).drop 8).drop 32).drop 32) (by simp only [List.length_drop]; omega)
  obtain ⟨a7, b7⟩ := rd8_cons (l := (((((s.drop 8).drop 8).drop 8).drop 32).drop 32).drop 8) (by simp only [List.length_drop]; omega)
  rw [b1] at a1
  rw [b2] at a2
  rw [b3] at a3
  rw [b4] at a4
  rw [b5] at a5
  rw [b6] at a6
  rw [b7] at a7
  have e8 : ((((((s.drop 8).drop 8).drop 8).drop 32).drop 32).drop 8).drop 8 = [] := List.eq_nil_of_length_eq_zero (by simp only [List.length_drop]; omega)
  rw [putH_cons]
  unfold hdF at hr ⊢
  simp only [b1, b2, b3, b4, b5, b6] at hr ⊢
  have n1 := rdN_bd (s, 0)
  have n2 := rdN_bd (s.drop 8, 0)
  have n3 := rdN_bd ((s.drop 8).drop 8, 0)
  rw [intI_back n1.1 (by omega), intI_back n2.1 (by omega), intI_back n3.1 (by omega), h0]
  rw [e8] at a7
  refine congrArg (72 :: ·) ?_
  rw [← a7, ← a6, ← a5, ← a4, ← a3, ← a2, ← a1]
/-- In a log: by a head's own leaf. -/
theorem inF_leaf {y : Int} {old new : List UInt8} {p : List H} : inG (headsF y old new).1 (headsF y old new).2.1 (headsF y old new).2.2 (hleaf (headsF y old new).1) p = inF y old new p := by
  unfold inF
  by_cases e : (headsF y old new).2.2 = 0
  · have z := (headsE_zero e).1
    have q : putH (headsF y old new).1 = old := put_readH z
    unfold hleaf
    rw [q]
  · rw [inG_err e, inG_err e]
structure HeadsOk (hs : List Hd) : Prop where
  ok : ∀ h ∈ hs, h.ok
  right : ∀ h ∈ hs, rightH h = true
  chk : ∀ h ∈ hs, checkH (pubF 5) h = true
  ep : ∀ (i : Nat) (h : i < hs.length), hs[i].ep = ((i + 1 : Nat) : Int)
  lg : ∀ (i : Nat) (h : i < hs.length), hs[i].log = lroot ((hs.map hleaf).take i)
theorem eps_heads (l : List UInt8) (hl : l.length ≤ 1000) : HeadsOk (epsR 5 l).hs := by
  have w := epsR_well 5 l hl
  have o := epsR_ok 5 l
  have r := epsR_right 5 l hl
  have ol := o.hs
  have st : ∀ (i : Nat) (h : i < (epsR 5 l).ps.length), _ := fun i h => step_in w.good (by have := o.ps; omega) (i := i) h
  have e : (epsR 5 l).hs = (epsR 5 l).ps.map Pub.hd := w.hs
  refine ⟨fun h hh => (r h hh).2, fun h hh => (r h hh).1, fun h hh => ?_, fun i h => ?_, fun i h => ?_⟩
  · rw [e] at hh
    obtain ⟨p, hp, rfl⟩ := List.mem_map.1 hh
    obtain ⟨i, hi, rfl⟩ := List.getElem_of_mem hp
    exact (st i hi).sigd
  · simp only [e, List.length_map] at h ⊢
    rw [List.getElem_map]
    have q := (st i h).ep
    rw [List.length_map, List.length_take, Nat.min_eq_left (by omega)] at q
    exact q
  · simp only [e, List.length_map] at h ⊢
    rw [List.getElem_map, (st i h).lg, List.map_take, List.map_take]
section
variable {hs : List Hd} (o : HeadsOk hs) {m n : Nat} (m0 : 1 ≤ m) (m1 : m ≤ hs.length) (n0 : 1 ≤ n) (n1 : n ≤ hs.length)
include o
theorem two_heads {a b : Hd} (ha : a ∈ hs) (hb : b ∈ hs) : headsF (pubF 5) (putH a) (putH b) = (a, b, 0) := by
  unfold headsF
  rw [read_putH (o.right a ha) (o.ok a ha), read_putH (o.right b hb) (o.ok b hb), headsE_ok rfl rfl (o.chk a ha) (o.chk b hb)]
include m0 m1 n0 n1
theorem grown_of {p : List H} (hp : 1 < m → m ≤ n → p = subF ((hs.map hleaf).take (n - 1)) (m - 1) true) : growF (pubF 5) (putH (hs[m - 1]'(by omega))) (putH (hs[n - 1]'(by omega))) p = if 1 < m ∧ m ≤ n then 0 else 23 := by
  have ha : hs[m - 1]'(by omega) ∈ hs := List.getElem_mem _
  have hb : hs[n - 1]'(by omega) ∈ hs := List.getElem_mem _
  have ea := o.ep (m - 1) (by omega)
  have eb := o.ep (n - 1) (by omega)
  unfold growF
  rw [two_heads o ha hb]
  by_cases q : 1 < m ∧ m ≤ n
  · rw [if_pos q, hp q.1 q.2]
    refine growG_ok rfl (by show ¬ ((hs[m - 1]'(by omega)).ep < 2 ∨ (hs[n - 1]'(by omega)).ep < (hs[m - 1]'(by omega)).ep); omega) ?_
    show growL (hs[m - 1]'(by omega)).log (hs[n - 1]'(by omega)).log ((hs[m - 1]'(by omega)).ep - 1).toNat ((hs[n - 1]'(by omega)).ep - 1).toNat _ = true
    have tl : ((hs.map hleaf).take (n - 1)).length = n - 1 := by rw [List.length_take, List.length_map]; omega
    have g := grow_sub (l := (hs.map hleaf).take (n - 1)) (m := m - 1) (by omega) (by omega)
    rw [List.take_take, Nat.min_eq_left (by omega), tl] at g
    rw [o.lg (m - 1) (by omega), o.lg (n - 1) (by omega), show ((hs[m - 1]'(by omega)).ep - 1).toNat = m - 1 by omega, show ((hs[n - 1]'(by omega)).ep - 1).toNat = n - 1 by omega]
    exact g
  · rw [if_neg q]
    exact growG_form rfl (by show (hs[m - 1]'(by omega)).ep < 2 ∨ (hs[n - 1]'(by omega)).ep < (hs[m - 1]'(by omega)).ep; omega)
theorem in_of {p : List H} (hp : m < n → p = pathF ((hs.map hleaf).take (n - 1)) (m - 1)) : inF (pubF 5) (putH (hs[m - 1]'(by omega))) (putH (hs[n - 1]'(by omega))) p = if m < n then 0 else 23 := by
  have ha : hs[m - 1]'(by omega) ∈ hs := List.getElem_mem _
  have hb : hs[n - 1]'(by omega) ∈ hs := List.getElem_mem _
  have ea := o.ep (m - 1) (by omega)
  have eb := o.ep (n - 1) (by omega)
  unfold inF
  rw [two_heads o ha hb]
  by_cases q : m < n
  · rw [if_pos q, hp q]
    refine inG_ok rfl (by show ¬ (hs[n - 1]'(by omega)).ep ≤ (hs[m - 1]'(by omega)).ep; omega) ?_
    show inLog (hs[n - 1]'(by omega)).log ((hs[n - 1]'(by omega)).ep - 1).toNat ((hs[m - 1]'(by omega)).ep - 1).toNat _ _ = true
    have tl : ((hs.map hleaf).take (n - 1)).length = n - 1 := by rw [List.length_take, List.length_map]; omega
    have g := in_path (l := (hs.map hleaf).take (n - 1)) (i := m - 1) (x := hleaf (hs[m - 1]'(by omega))) (by rw [List.getElem?_take, if_pos (by omega), List.getElem?_map, List.getElem?_eq_getElem (by omega)]; rfl)
    rw [tl] at g
    rw [o.lg (n - 1) (by omega), show ((hs[m - 1]'(by omega)).ep - 1).toNat = m - 1 by omega, show ((hs[n - 1]'(by omega)).ep - 1).toNat = n - 1 by omega]
    exact g
  · rw [if_neg q]
    exact inG_form rfl (by show (hs[n - 1]'(by omega)).ep ≤ (hs[m - 1]'(by omega)).ep; omega)
end
end Go.Proofs.YtdjcclcejmeheaaGreat

