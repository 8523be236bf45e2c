/-
  The directory's plain law: what a batch adds to a name's chain.
-/
import Derived.Test.YthidepbffhhkmaaIp
namespace Go.Proofs.Ythidepbffhhkmaa
set_option linter.unusedVariables false
set_option linter.unusedSimpArgs false
open Go.RowKit Pl

theorem addR_off {l : List Kn} {ep : Int} {b : List En} (h : (addR l ep b).2 = false) : (addR l ep b).1 = l := by
  rw [addR_if] at h ⊢
  by_cases q : ¬ (ep < 1 ∨ (∃ k ∈ l, ep ≤ k.ep)) ∧ okAll l b
  · rw [if_pos q] at h; cases h
  · rw [if_neg q]
theorem addR_on {l : List Kn} {ep : Int} {b : List En} (h : (addR l ep b).2 = true) : (addR l ep b).1 = b.foldl (fun o e => insK e ep o) l ∧ okAll l b := by
  rw [addR_if] at h ⊢
  by_cases q : ¬ (ep < 1 ∨ (∃ k ∈ l, ep ≤ k.ep)) ∧ okAll l b
  · rw [if_pos q]; exact ⟨rfl, q.2⟩
  · rw [if_neg q] at h; cases h
theorem fold_len {ep : Int} : ∀ (b : List En) (l : List Kn), (b.foldl (fun o e => insK e ep o) l).length = l.length + b.length
  | [], l => rfl
  | e :: r, l => by rw [List.foldl_cons, fold_len r, insK_len]; simp; omega
theorem itsK_insK {e : En} {ep mx : Int} {l : List Kn} (h : ¬ ep ≤ mx) : itsK mx (insK e ep l) = itsK mx l := by
  have e1 : l = l.takeWhile (lessK · e) ++ l.dropWhile (lessK · e) := (List.takeWhile_append_dropWhile).symm
  unfold itsK insK
  rw [List.filter_append, List.filter_cons]
  rw [if_neg (by simpa using h), ← List.filter_append, ← e1]
theorem itsK_fold {ep mx : Int} (h : ¬ ep ≤ mx) : ∀ (b : List En) (l : List Kn), itsK mx (b.foldl (fun o e => insK e ep o) l) = itsK mx l
  | [], l => rfl
  | e :: r, l => by rw [List.foldl_cons, itsK_fold h r, itsK_insK h]
theorem addR_mem {l : List Kn} {ep : Int} {b : List En} {k : Kn} (h : k ∈ (addR l ep b).1) : k ∈ l ∨ k.ep = ep := by
  cases q : (addR l ep b).2 with
  | false => rw [addR_off q] at h; exact .inl h
  | true =>
    rw [(addR_on q).1, mem_fold] at h
    rcases h with ⟨e, _, rfl⟩ | h
    · exact .inr rfl
    · exact .inl h
theorem dirG_ep : ∀ (r : List UInt8) (out : List Kn) (ep : Int) (p : List En), 1 ≤ ep → ep + r.length ≤ 1099511627776 → (∀ k ∈ out, k.ep < ep) → ∀ k ∈ dirG r out ep p, k.ep < ep + r.length
  | [], out, ep, p, _, _, h, k, hk => by have := h k hk; simp; omega
  | b :: r, out, ep, p, h1, h2, h, k, hk => by
    have hl : ((b :: r).length : Int) = r.length + 1 := by simp
    rw [hl] at h2 ⊢
    unfold dirG at hk
    split at hk
    · have := dirG_ep r out ep _ h1 (by omega) h k hk
      omega
    · have e : i64w (ep + 1) = ep + 1 := i64w_small (by omega) (by omega)
      rw [e] at hk
      have := dirG_ep r _ (ep + 1) [] (by omega) (by omega) (fun k hk => by
        rcases addR_mem hk with q | q
        · have := h k q; omega
        · omega) k hk
      omega
theorem dirD_ep {l : List UInt8} (hl : l.length ≤ 1048576) : ∀ k ∈ dirD l, k.ep ≤ l.length := fun k hk => by
  have := dirG_ep l [] 1 [] (Int.le_refl 1) (by omega) (fun k hk => by cases hk) k hk
  omega
theorem has_prev {out : List Kn} (hc : chainK none out) : ∀ (n : Nat) (k : Kn), k ∈ out → ∀ v : Int, 1 ≤ v → v ≤ k.ver → k.ver - v = n → ∃ k' ∈ out, k'.nm = k.nm ∧ k'.ver = v
  | 0, k, hk, v, _, _, h => ⟨k, hk, rfl, by omega⟩
  | n + 1, k, hk, v, h1, h2, h => by
    obtain ⟨j, hj, rfl⟩ := List.getElem_of_mem hk
    have hs := (chain_iff out none).1 hc j hj
    by_cases h0 : j = 0
    · rw [if_pos h0] at hs
      have := stepB_none hs; omega
    · have hj1 : j - 1 < out.length := by omega
      rw [if_neg h0, List.getElem?_eq_getElem hj1] at hs
      have hq := chain_ver hc _ (List.getElem_mem hj1)
      rcases stepB_some hs with ⟨e, hv, _⟩ | ⟨_, _, hv⟩
      · rw [i64w_small (by omega) (by omega)] at hv
        obtain ⟨k', q1, q2, q3⟩ := has_prev hc n out[j - 1] (List.getElem_mem hj1) v h1 (by omega) (by omega)
        exact ⟨k', q1, by rw [q2, e], q3⟩
      · omega
theorem names_eq : ∀ {b : List En}, b.Pairwise (fun x y => ¬ x.nm = y.nm) → ∀ {x y : En}, x ∈ b → y ∈ b → x.nm = y.nm → x = y
  | [], _, x, y, hx, _, _ => by cases hx
  | e :: r, h, x, y, hx, hy, hn => by
    rw [List.pairwise_cons] at h
    rcases List.mem_cons.1 hx with q | q
    · rcases List.mem_cons.1 hy with r | r
      · rw [q, r]
      · subst q; exact absurd hn (h.1 y r)
    · rcases List.mem_cons.1 hy with r | r
      · subst r; exact absurd hn.symm (h.1 x q)
      · exact names_eq h.2 q r hn
theorem chains_find {D : List Kn} (hc : chainK none D) {mx : Int} {E : List En} (hmx : ∀ k ∈ D, k.ep ≤ mx) (hon : (addR D (mx + 1) E).2 = true) {e : En} (he : e ∈ E) {v : Int} (h1 : 1 ≤ v) (h2 : v ≤ e.ver) : ∃ kk, findP (addR D (mx + 1) E).1 e.nm v = (kk, true) ∧ kk.ver = v ∧ (kk.ep = mx + 1 ↔ v = e.ver) := by
  have hcR := addR_chain hc (mx + 1) E
  obtain ⟨e1, ok⟩ := addR_on hon
  have hx : (⟨e.nm, e.ver, e.key, mx + 1⟩ : Kn) ∈ (addR D (mx + 1) E).1 := by rw [e1, mem_fold]; exact .inl ⟨e, he, rfl⟩
  obtain ⟨k', q1, q2, q3⟩ := has_prev hcR (e.ver - v).toNat _ hx v h1 h2 (by show e.ver - v = _; omega)
  have q2 : k'.nm = e.nm := q2
  obtain ⟨j, hj, ej⟩ := List.getElem_of_mem q1
  have hf := find_at hcR hj
  rw [ej, q2, q3] at hf
  refine ⟨k', hf, q3, ?_⟩
  rw [e1, mem_fold] at q1
  rcases q1 with ⟨e', he', r⟩ | q1
  · have hn : e'.nm = e.nm := by rw [← q2, r]
    have := names_eq ok.2 he' he hn
    subst this
    rw [r] at q3 ⊢
    exact ⟨fun _ => q3.symm, fun _ => rfl⟩
  · have hep := hmx k' q1
    have hle := latR_le q1 q2
    have hlv := lat_ver hc e.nm
    have hv := (ok.1 e he).2
    rw [i64w_small hlv.1 (by omega)] at hv
    exact ⟨fun q => by omega, fun q => by omega⟩
theorem ents_ver {D : List Kn} {E : List En} {ep : Int} (hon : (addR D ep E).2 = true) {i : Nat} (hi : i < E.length) : 1 ≤ E[i].ver ∧ E[i].ver ≤ 1073741824 := rightE_ver ((addR_on hon).2.1 _ (List.getElem_mem hi)).1
end Go.Proofs.Ythidepbffhhkmaa
