import Derived.Test.YtdjcclcejmeheaaGreatZGg
import Derived.Test.YtdjcclcejmeheaaGreatZGs
import Derived.Test.YtdjcclcejmeheaaGreatZGo
import Derived.Test.YtdjcclcejmeheaaGreatZGd
/-
  The directory's plain law: an epoch's items are those of the last entries of each name.
-/
namespace Go.Proofs.YtdjcclcejmeheaaGreat
set_option linter.unusedVariables false
set_option linter.unusedSimpArgs false
open Go.RowKit Pl
theorem ltK_mid {k x q : Kn} (h1 : ltK k x) (h2 : ltK x q) (hn : q.nm = k.nm) : x.nm = k.nm := by
  rcases h1 with t | ⟨t, _⟩
  · rcases h2 with u | ⟨u, _⟩
    · rw [hn] at u; have := bl_asym t; rw [u] at this; cases this
    · rw [u, hn]
  · exact t.symm
theorem chain_up : ∀ {r : List Kn} {k : Kn}, 1 ≤ k.ver ∧ k.ver ≤ 1073741824 → chainK (some k) r → ∀ q ∈ r, q.nm = k.nm → k.ep < q.ep
  | [], _, _, _, q, hq, _ => by cases hq
  | x :: r, k, hk, h, q, hq, hn => by
    have hx := rightE_ver (stepB_good h.1).1
    have hkx := step_lt hk h.1
    have step : x.nm = k.nm → k.ep < x.ep := fun e => by
      rcases stepB_some h.1 with ⟨_, _, t⟩ | ⟨t, _⟩
      · exact t
      · exact absurd e.symm t
    rcases List.mem_cons.1 hq with rfl | hq
    · exact step hn
    · have hxq := (chain_lt hx h.2).1 q hq
      have hxn : x.nm = k.nm := ltK_mid hkx hxq hn
      have h1 := chain_up hx h.2 q hq (by rw [hn, hxn])
      have h2 := step hxn
      omega
def knI (k : Kn) : It := itemI k.nm k.ver k.key
def nxt (n : Int) (k : Kn) (r : List Kn) : Bool := match r.head? with
  | some q => decide (q.nm = k.nm) && decide (q.ep ≤ n)
  | none => false
/-- The last of each name, of those that an epoch shows. -/
def lastL (n : Int) : List Kn → List Kn
  | [] => []
  | k :: r => if k.ep ≤ n ∧ nxt n k r = false then k :: lastL n r else lastL n r
theorem lastL_cons (n : Int) (k : Kn) (r : List Kn) : lastL n (k :: r) = if k.ep ≤ n ∧ nxt n k r = false then k :: lastL n r else lastL n r := by rw [lastL]
def idxInj (D : List Kn) : Prop := ∀ a ∈ D, ∀ b ∈ D, H.l (indexH a.nm) = H.l (indexH b.nm) → a.nm = b.nm
theorem itsK_cons (n : Int) (k : Kn) (r : List Kn) : itsK n (k :: r) = if k.ep ≤ n then knI k :: itsK n r else itsK n r := by
  unfold itsK
  rw [List.filter_cons]
  by_cases h : k.ep ≤ n
  · simp [h, knI]
  · simp [h]
theorem rev_take {α : Type} {x : α} {l : List α} (h : l ≠ []) : (x :: l).reverse.take 1 = l.reverse.take 1 := by
  rw [List.reverse_cons, List.take_append_of_le_length]
  rw [List.length_reverse]
  exact List.length_pos_iff.2 h
theorem mem_itsK {n : Int} {l : List Kn} {y : It} : y ∈ itsK n l ↔ ∃ q ∈ l, q.ep ≤ n ∧ knI q = y := by
  unfold itsK
  rw [List.mem_map]
  refine ⟨fun ⟨q, h, e⟩ => ?_, fun ⟨q, h1, h2, e⟩ => ⟨q, List.mem_filter.2 ⟨h1, decide_eq_true h2⟩, e⟩⟩
  obtain ⟨h1, h2⟩ := List.mem_filter.1 h
  exact ⟨q, h1, of_decide_eq_true h2, e⟩
theorem lastL_cls {n : Int} : ∀ {D : List Kn} {p : Option Kn}, chainK p D → idxInj D → ∀ key, cls key ((lastL n D).map knI) = (cls key (itsK n D)).reverse.take 1
  | [], _, _, _, key => rfl
  | k :: r, p, h, hi, key => by
    have ih := lastL_cls (n := n) h.2 (fun a ha b hb => hi a (List.mem_cons_of_mem _ ha) b (List.mem_cons_of_mem _ hb)) key
    have hk := rightE_ver (stepB_good h.1).1
    rw [itsK_cons]
    by_cases he : k.ep ≤ n
    · rw [if_pos he, cls_cons]
      by_cases hn : nxt n k r = true
      · have e : lastL n (k :: r) = lastL n r := by rw [lastL_cons, if_neg (fun q => by rw [hn] at q; cases q.2)]
        rw [e, ih]
        split
        · rename_i hkey
          refine (rev_take ?_).symm
          cases r with
          | nil => unfold nxt at hn; simp at hn
          | cons q r' =>
            unfold nxt at hn
            simp only [List.head?_cons, Bool.and_eq_true, decide_eq_true_eq] at hn
            rw [itsK_cons, if_pos hn.2, cls_cons, if_pos (show H.l (knI q).ix = key by rw [← hkey]; show H.l (indexH q.nm) = H.l (indexH k.nm); rw [hn.1])]
            simp
        · rfl
      · have hn : nxt n k r = false := by simpa using hn
        have e : lastL n (k :: r) = k :: lastL n r := by rw [lastL_cons, if_pos ⟨he, hn⟩]
        rw [e, List.map_cons, cls_cons, ih]
        split
        · rename_i hkey
          have e0 : cls key (itsK n r) = [] := by
            unfold cls
            rw [List.filter_eq_nil_iff]
            intro y hy hyk
            obtain ⟨q, hq, hqe, rfl⟩ := mem_itsK.1 hy
            have hnm : q.nm = k.nm := hi q (List.mem_cons_of_mem _ hq) k (by simp) (by
              have := of_decide_eq_true hyk
              show H.l (knI q).ix = H.l (knI k).ix
              rw [this, hkey])
            cases r with
            | nil => cases hq
            | cons x r' =>
              have hx := rightE_ver (stepB_good h.2.1).1
              have hkx := step_lt hk h.2.1
              have : x.nm = k.nm ∧ x.ep ≤ n := by
                rcases List.mem_cons.1 hq with rfl | hq
                · exact ⟨hnm, hqe⟩
                · have hxq := (chain_lt hx h.2.2).1 q hq
                  have hm := ltK_mid hkx hxq hnm
                  have := chain_up hx h.2.2 q hq (by rw [hnm, hm])
                  exact ⟨hm, by omega⟩
              unfold nxt at hn
              simp [this.1, this.2] at hn
          rw [e0]; rfl
        · rfl
    · have e : lastL n (k :: r) = lastL n r := by rw [lastL_cons, if_neg (fun q => he q.1)]
      rw [if_neg he, e, ih]
open Classical in
theorem cls_perm {a b : List It} (h : ∀ k, cls k a = cls k b) : a.Perm b := by
  rw [List.perm_iff_count]
  intro x
  have key : ∀ l : List It, (cls (H.l x.ix) l).count x = l.count x := fun l => List.count_filter (by simp)
  rw [← key a, ← key b, h]
theorem setR_perm {n : Int} {D : List Kn} (hc : chainK none D) (hi : idxInj D) : (setR (itsK n D) []).Perm ((lastL n D).map knI) :=
  cls_perm fun k => by rw [(setR_spec (itsK n D) []).2 k, List.append_nil, lastL_cls hc hi k]
theorem lastL_mem {n : Int} {x : Kn} : ∀ {D : List Kn} {i : Nat}, x ∈ lastL n (D.drop i) → x ∈ lastL n D
  | [], i, h => by rw [List.drop_nil] at h; exact h
  | k :: r, 0, h => h
  | k :: r, i + 1, h => by
    have := lastL_mem (D := r) (i := i) h
    rw [lastL_cons]
    split
    · exact List.mem_cons_of_mem _ this
    · exact this
theorem lastL_yes {n : Int} {D : List Kn} {i : Nat} (hi : i < D.length) (h1 : D[i].ep ≤ n) (h2 : ∀ h : i + 1 < D.length, ¬ (D[i + 1].nm = D[i].nm ∧ D[i + 1].ep ≤ n)) : lastL n (D.drop i) = D[i] :: lastL n (D.drop (i + 1)) := by
  conv => lhs; rw [← List.getElem_cons_drop hi]
  have e : nxt n D[i] (D.drop (i + 1)) = false := by
    unfold nxt
    rw [List.head?_drop]
    by_cases h : i + 1 < D.length
    · rw [List.getElem?_eq_getElem h]
      have := h2 h
      simp only [Bool.and_eq_false_iff, decide_eq_false_iff_not]
      by_cases q : D[i + 1].nm = D[i].nm
      · exact .inr (fun r => this ⟨q, r⟩)
      · exact .inl q
    · rw [List.getElem?_eq_none (by omega)]
  rw [lastL_cons, if_pos ⟨h1, e⟩]
def names6 : List (List UInt8) := [[97], [98], [97, 110, 110], [98, 111, 98], [195, 169], [48, 49, 50, 51, 52, 53, 54, 55, 56, 57, 48, 49, 50, 51, 52, 53, 54, 55, 56, 57, 48, 49, 50, 51, 52, 53, 54, 55, 56, 57, 48, 122]]
theorem nameL_six (k : Int) : nameL k ∈ names6 := by
  unfold nameL names6
  repeat' split
  all_goals simp
theorem six_inj : ∀ a ∈ names6, ∀ b ∈ names6, H.l (indexH a) = H.l (indexH b) → a = b := by decide +kernel
end Go.Proofs.YtdjcclcejmeheaaGreat
/-
  A log in a longer one: climbing with two numbers, and the way down, tell the same.
-/
namespace Go.Proofs.YtdjcclcejmeheaaGreat
set_option linter.unusedVariables false
set_option linter.unusedSimpArgs false
open Go.RowKit Pl
section
variable {old new : H} {m n : Nat} {p : List H}
end
end Go.Proofs.YtdjcclcejmeheaaGreat
/-
  Papers of the seat's epochs: plain values.
-/
namespace Go.Proofs.YtdjcclcejmeheaaGreat
set_option linter.unusedVariables false
set_option linter.unusedSimpArgs false
open Go.RowKit Pl
theorem insFold_len {ep : Int} : ∀ (b : List En) (l : List Kn), (b.foldl (fun o e => insK e ep o) l).length = l.length + b.length
  | [], l => rfl
  | e :: r, l => by rw [List.foldl_cons, insFold_len r, insK_len]; simp; omega
theorem itsK_ins {e : En} {ep mx : Int} {l : List Kn} (h : ¬ ep ≤ mx) : itsK mx (insK e ep l) = itsK mx l := by
  have e1 : l = l.takeWhile (lessK · e) ++ l.dropWhile (lessK · e) := (List.takeWhile_append_dropWhile).symm
  unfold itsK insK
  rw [List.filter_append, List.filter_cons]
  rw [if_neg (by simpa using h), ← List.filter_append, ← e1]
theorem itsK_insFold {ep mx : Int} (h : ¬ ep ≤ mx) : ∀ (b : List En) (l : List Kn), itsK mx (b.foldl (fun o e => insK e ep o) l) = itsK mx l
  | [], l => rfl
  | e :: r, l => by rw [List.foldl_cons, itsK_insFold h r, itsK_ins h]
theorem knN_good {kn : List Kn} {hs : List Hd} {b : List En} {tk : Int} (h : badN kn hs b tk = false) : knN kn hs b = b.foldl (fun o e => insK e ((hs.length + 1 : Nat) : Int) o) kn := by
  have q := (badN_no h).1
  unfold knN
  rw [addR_if] at q ⊢
  split
  · rfl
  · rename_i z; rw [if_neg z] at q; cases q
theorem eps_pos (l : List UInt8) (hl : l.length ≤ 1000) : 0 < (epsR 5 l).hs.length → 0 < (epsR 5 l).kn.length := fun hp => by
  have w := epsR_well 5 l hl
  have o := epsR_ok 5 l
  have ol := o.hs
  have op := o.ps
  obtain ⟨n, hn⟩ : ∃ n, (epsR 5 l).ps.length = n + 1 := ⟨(epsR 5 l).ps.length - 1, by omega⟩
  have st := step_in w.good (by omega) (i := n) (by omega)
  have hk := st.kK
  rw [show n + 1 = (epsR 5 l).ps.length from hn.symm, List.take_length, ← w.kn, knN_good st.bad] at hk
  rw [hk, insFold_len]
  have := st.esl
  omega
theorem eps_right (l : List UInt8) (hl : l.length ≤ 1000) : ∀ q ∈ (epsR 5 l).kn, rightE q.nm q.ver q.key = true := fun q hq => (chain_good (eps_in l hl).chain q hq).1
theorem paperX_len (kn : List Kn) (h : Hd) (e : En) : 80 ≤ (putB (paperX kn h e)).length ∧ (putB (paperX kn h e)).length ≤ 8272 := by
  have q : (paperX kn h e).path.length ≤ 256 := mkP_short _ _
  rw [putB_len]; omega
end Go.Proofs.YtdjcclcejmeheaaGreat
/-
  The proof that a log begins with another one, the neighbours of a leaf: what is made is taken; heads of the seat's epochs.
-/
namespace Go.Proofs.YtdjcclcejmeheaaGreat
set_option linter.unusedVariables false
set_option linter.unusedSimpArgs false
open Go.RowKit Pl
section
variable {l : List H} {m i : Nat} {w : Bool}
end
section
variable {l : List H} {i : Nat}
end
structure HeadsOk (hs : List Hd) : Prop where
  ok : ∀ h ∈ hs, h.ok
  right : ∀ h ∈ hs, rightH h = true
  chk : ∀ h ∈ hs, checkH (pubF 5) h = true
  ep : ∀ (i : Nat) (h : i < hs.length), hs[i].ep = ((i + 1 : Nat) : Int)
  lg : ∀ (i : Nat) (h : i < hs.length), hs[i].log = lroot ((hs.map hleaf).take i)
theorem eps_heads (l : List UInt8) (hl : l.length ≤ 1000) : HeadsOk (epsR 5 l).hs := by
  have w := epsR_well 5 l hl
  have o := epsR_ok 5 l
  have r := epsR_right 5 l hl
  have ol := o.hs
  have st : ∀ (i : Nat) (h : i < (epsR 5 l).ps.length), _ := fun i h => step_in w.good (by have := o.ps; omega) (i := i) h
  have e : (epsR 5 l).hs = (epsR 5 l).ps.map Pub.hd := w.hs
  refine ⟨fun h hh => (r h hh).2, fun h hh => (r h hh).1, fun h hh => ?_, fun i h => ?_, fun i h => ?_⟩
  · rw [e] at hh
    obtain ⟨p, hp, rfl⟩ := List.mem_map.1 hh
    obtain ⟨i, hi, rfl⟩ := List.getElem_of_mem hp
    exact (st i hi).sigd
  · simp only [e, List.length_map] at h ⊢
    rw [List.getElem_map]
    have q := (st i h).ep
    rw [List.length_map, List.length_take, Nat.min_eq_left (by omega)] at q
    exact q
  · simp only [e, List.length_map] at h ⊢
    rw [List.getElem_map, (st i h).lg, List.map_take, List.map_take]
section
variable {hs : List Hd} (o : HeadsOk hs) {m n : Nat} (m0 : 1 ≤ m) (m1 : m ≤ hs.length) (n0 : 1 ≤ n) (n1 : n ≤ hs.length)
include o
include m0 m1 n0 n1
end
end Go.Proofs.YtdjcclcejmeheaaGreat

