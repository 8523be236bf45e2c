/-
  The directory's plain law: an epoch's items are those of the last entries of each name.
-/
import Derived.Test.YthidepbffhhkmaaEd
namespace Go.Proofs.Ythidepbffhhkmaa
set_option linter.unusedVariables false
set_option linter.unusedSimpArgs false
open Go.RowKit Pl

theorem ltK_mid {k x q : Kn} (h1 : ltK k x) (h2 : ltK x q) (hn : q.nm = k.nm) : x.nm = k.nm := by
  rcases h1 with t | ⟨t, _⟩
  · rcases h2 with u | ⟨u, _⟩
    · rw [hn] at u; have := bl_asym t; rw [u] at this; cases this
    · rw [u, hn]
  · exact t.symm
theorem chain_up : ∀ {r : List Kn} {k : Kn}, 1 ≤ k.ver ∧ k.ver ≤ 1073741824 → chainK (some k) r → ∀ q ∈ r, q.nm = k.nm → k.ep < q.ep
  | [], _, _, _, q, hq, _ => by cases hq
  | x :: r, k, hk, h, q, hq, hn => by
    have hx := rightE_ver (stepB_good h.1).1
    have hkx := step_lt hk h.1
    have step : x.nm = k.nm → k.ep < x.ep := fun e => by
      rcases stepB_some h.1 with ⟨_, _, t⟩ | ⟨t, _⟩
      · exact t
      · exact absurd e.symm t
    rcases List.mem_cons.1 hq with rfl | hq
    · exact step hn
    · have hxq := (chain_lt hx h.2).1 q hq
      have hxn : x.nm = k.nm := ltK_mid hkx hxq hn
      have h1 := chain_up hx h.2 q hq (by rw [hn, hxn])
      have h2 := step hxn
      omega
def knI (k : Kn) : It := itemI k.nm k.ver k.key
def nxt (n : Int) (k : Kn) (r : List Kn) : Bool := match r.head? with
  | some q => decide (q.nm = k.nm) && decide (q.ep ≤ n)
  | none => false
/-- The last of each name, of those that an epoch shows. -/
def lastL (n : Int) : List Kn → List Kn
  | [] => []
  | k :: r => if k.ep ≤ n ∧ nxt n k r = false then k :: lastL n r else lastL n r
theorem lastL_cons (n : Int) (k : Kn) (r : List Kn) : lastL n (k :: r) = if k.ep ≤ n ∧ nxt n k r = false then k :: lastL n r else lastL n r := by rw [lastL]
def idxInj (D : List Kn) : Prop := ∀ a ∈ D, ∀ b ∈ D, H.l (indexH a.nm) = H.l (indexH b.nm) → a.nm = b.nm
theorem itsK_cons (n : Int) (k : Kn) (r : List Kn) : itsK n (k :: r) = if k.ep ≤ n then knI k :: itsK n r else itsK n r := by
  unfold itsK
  rw [List.filter_cons]
  by_cases h : k.ep ≤ n
  · simp [h, knI]
  · simp [h]
theorem rev_take {α : Type} {x : α} {l : List α} (h : l ≠ []) : (x :: l).reverse.take 1 = l.reverse.take 1 := by
  rw [List.reverse_cons, List.take_append_of_le_length]
  rw [List.length_reverse]
  exact List.length_pos_iff.2 h
theorem mem_itsK {n : Int} {l : List Kn} {y : It} : y ∈ itsK n l ↔ ∃ q ∈ l, q.ep ≤ n ∧ knI q = y := by
  unfold itsK
  rw [List.mem_map]
  refine ⟨fun ⟨q, h, e⟩ => ?_, fun ⟨q, h1, h2, e⟩ => ⟨q, List.mem_filter.2 ⟨h1, decide_eq_true h2⟩, e⟩⟩
  obtain ⟨h1, h2⟩ := List.mem_filter.1 h
  exact ⟨q, h1, of_decide_eq_true h2, e⟩
theorem lastL_cls {n : Int} : ∀ {D : List Kn} {p : Option Kn}, chainK p D → idxInj D → ∀ key, cls key ((lastL n D).map knI) = (cls key (itsK n D)).reverse.take 1
  | [], _, _, _, key => rfl
  | k :: r, p, h, hi, key => by
    have ih := lastL_cls (n := n) h.2 (fun a ha b hb => hi a (List.mem_cons_of_mem _ ha) b (List.mem_cons_of_mem _ hb)) key
    have hk := rightE_ver (stepB_good h.1).1
    rw [itsK_cons]
    by_cases he : k.ep ≤ n
    · rw [if_pos he, cls_cons]
      by_cases hn : nxt n k r = true
      · have e : lastL n (k :: r) = lastL n r := by rw [lastL_cons, if_neg (fun q => by rw [hn] at q; cases q.2)]
        rw [e, ih]
        split
        · rename_i hkey
          refine (rev_take ?_).symm
          cases r with
          | nil => unfold nxt at hn; simp at hn
          | cons q r' =>
            unfold nxt at hn
            simp only [List.head?_cons, Bool.and_eq_true, decide_eq_true_eq] at hn
            rw [itsK_cons, if_pos hn.2, cls_cons, if_pos (show H.l (knI q).ix = key by rw [← hkey]; show H.l (indexH q.nm) = H.l (indexH k.nm); rw [hn.1])]
            simp
        · rfl
      · have hn : nxt n k r = false := by simpa using hn
        have e : lastL n (k :: r) = k :: lastL n r := by rw [lastL_cons, if_pos ⟨he, hn⟩]
        rw [e, List.map_cons, cls_cons, ih]
        split
        · rename_i hkey
          have e0 : cls key (itsK n r) = [] := by
            unfold cls
            rw [List.filter_eq_nil_iff]
            intro y hy hyk
            obtain ⟨q, hq, hqe, rfl⟩ := mem_itsK.1 hy
            have hnm : q.nm = k.nm := hi q (List.mem_cons_of_mem _ hq) k (by simp) (by
              have := of_decide_eq_true hyk
              show H.l (knI q).ix = H.l (knI k).ix
              rw [this, hkey])
            cases r with
            | nil => cases hq
            | cons x r' =>
              have hx := rightE_ver (stepB_good h.2.1).1
              have hkx := step_lt hk h.2.1
              have : x.nm = k.nm ∧ x.ep ≤ n := by
                rcases List.mem_cons.1 hq with rfl | hq
                · exact ⟨hnm, hqe⟩
                · have hxq := (chain_lt hx h.2.2).1 q hq
                  have hm := ltK_mid hkx hxq hnm
                  have := chain_up hx h.2.2 q hq (by rw [hnm, hm])
                  exact ⟨hm, by omega⟩
              unfold nxt at hn
              simp [this.1, this.2] at hn
          rw [e0]; rfl
        · rfl
    · have e : lastL n (k :: r) = lastL n r := by rw [lastL_cons, if_neg (fun q => he q.1)]
      rw [if_neg he, e, ih]
open Classical in
theorem cls_perm {a b : List It} (h : ∀ k, cls k a = cls k b) : a.Perm b := by
  rw [List.perm_iff_count]
  intro x
  have key : ∀ l : List It, (cls (H.l x.ix) l).count x = l.count x := fun l => List.count_filter (by simp)
  rw [← key a, ← key b, h]
theorem setR_perm {n : Int} {D : List Kn} (hc : chainK none D) (hi : idxInj D) : (setR (itsK n D) []).Perm ((lastL n D).map knI) :=
  cls_perm fun k => by rw [(setR_spec (itsK n D) []).2 k, List.append_nil, lastL_cls hc hi k]
theorem lastL_mem {n : Int} {x : Kn} : ∀ {D : List Kn} {i : Nat}, x ∈ lastL n (D.drop i) → x ∈ lastL n D
  | [], i, h => by rw [List.drop_nil] at h; exact h
  | k :: r, 0, h => h
  | k :: r, i + 1, h => by
    have := lastL_mem (D := r) (i := i) h
    rw [lastL_cons]
    split
    · exact List.mem_cons_of_mem _ this
    · exact this
theorem lastL_yes {n : Int} {D : List Kn} {i : Nat} (hi : i < D.length) (h1 : D[i].ep ≤ n) (h2 : ∀ h : i + 1 < D.length, ¬ (D[i + 1].nm = D[i].nm ∧ D[i + 1].ep ≤ n)) : lastL n (D.drop i) = D[i] :: lastL n (D.drop (i + 1)) := by
  conv => lhs; rw [← List.getElem_cons_drop hi]
  have e : nxt n D[i] (D.drop (i + 1)) = false := by
    unfold nxt
    rw [List.head?_drop]
    by_cases h : i + 1 < D.length
    · rw [List.getElem?_eq_getElem h]
      have := h2 h
      simp only [Bool.and_eq_false_iff, decide_eq_false_iff_not]
      by_cases q : D[i + 1].nm = D[i].nm
      · exact .inr (fun r => this ⟨q, r⟩)
      · exact .inl q
    · rw [List.getElem?_eq_none (by omega)]
  rw [lastL_cons, if_pos ⟨h1, e⟩]
theorem lastL_off {n : Int} {D : List Kn} {i : Nat} (hi : i < D.length) (h1 : ¬ D[i].ep ≤ n) : lastL n (D.drop i) = lastL n (D.drop (i + 1)) := by
  conv => lhs; rw [← List.getElem_cons_drop hi]
  rw [lastL_cons, if_neg (fun q => h1 q.1)]
theorem lastL_later {n : Int} {D : List Kn} {i : Nat} (hi : i < D.length) (h : i + 1 < D.length) (h1 : D[i + 1].nm = D[i].nm) (h2 : D[i + 1].ep ≤ n) : lastL n (D.drop i) = lastL n (D.drop (i + 1)) := by
  conv => lhs; rw [← List.getElem_cons_drop hi]
  have e : nxt n D[i] (D.drop (i + 1)) = true := by
    unfold nxt
    rw [List.head?_drop, List.getElem?_eq_getElem h]
    simp [h1, h2]
  rw [lastL_cons, if_neg (fun q => by rw [e] at q; cases q.2)]
/-! The seat's names. -/
def names6 : List (List UInt8) := [[97], [98], [97, 110, 110], [98, 111, 98], [195, 169], [48, 49, 50, 51, 52, 53, 54, 55, 56, 57, 48, 49, 50, 51, 52, 53, 54, 55, 56, 57, 48, 49, 50, 51, 52, 53, 54, 55, 56, 57, 48, 122]]
theorem nameL_six (k : Int) : nameL k ∈ names6 := by
  unfold nameL names6
  repeat' split
  all_goals simp
theorem six_inj : ∀ a ∈ names6, ∀ b ∈ names6, H.l (indexH a) = H.l (indexH b) → a = b := by decide +kernel
def nmOk (l : List Kn) : Prop := ∀ k ∈ l, k.nm ∈ names6
theorem dedG_sub : ∀ {s r : List En} {x : En}, x ∈ dedG s r → x ∈ r
  | _, [], x, h => by cases h
  | s, e :: r, x, h => by
    unfold dedG at h
    split at h
    · exact List.mem_cons_of_mem _ (dedG_sub h)
    · rcases List.mem_cons.1 h with rfl | h
      · simp
      · exact List.mem_cons_of_mem _ (dedG_sub h)
theorem addR_nm {l : List Kn} {ep : Int} {b : List En} (hl : nmOk l) (hb : ∀ e ∈ b, e.nm ∈ names6) : nmOk (addR l ep b).1 := by
  rw [addR_if]
  split
  · intro k hk
    rcases mem_fold.1 hk with ⟨e, he, rfl⟩ | h
    · exact hb e he
    · exact hl k h
  · exact hl
theorem dirG_nm : ∀ (r : List UInt8) (out : List Kn) (ep : Int) (p : List En), nmOk out → (∀ e ∈ p, e.nm ∈ names6) → nmOk (dirG r out ep p)
  | [], out, _, _, h, _ => h
  | b :: r, out, ep, p, h, hp => by
    have hp' : ∀ e ∈ p ++ [pendE out b], e.nm ∈ names6 := fun e he => by
      rcases List.mem_append.1 he with he | he
      · exact hp e he
      · rw [List.mem_singleton] at he; subst he
        exact nameL_six _
    unfold dirG
    split
    · exact dirG_nm r out ep _ h hp'
    · exact dirG_nm r _ _ _ (addR_nm h (fun e he => hp' e (dedG_sub he))) (fun e he => by cases he)
theorem dirD_inj (l : List UInt8) : idxInj (dirD l) := fun a ha b hb h =>
  six_inj _ (dirG_nm l [] 1 [] (fun k hk => by cases hk) (fun e he => by cases he) a ha) _ (dirG_nm l [] 1 [] (fun k hk => by cases hk) (fun e he => by cases he) b hb) h
theorem anyI_snoc {p : List It} {k : Nat} (h : k < p.length) (y : It) : (p.take (k + 1)).any (fun x => decide (iB x = iB y)) = ((p.take k).any (fun x => decide (iB x = iB y)) || decide (iB p[k] = iB y)) := by
  rw [take_snoc' h, List.any_append]; simp
theorem anyI_mem {p : List It} {y : It} (h : y ∈ p) : p.any (fun x => decide (iB x = iB y)) = true := by
  rw [List.any_eq_true]; exact ⟨y, h, by simp⟩
end Go.Proofs.Ythidepbffhhkmaa
