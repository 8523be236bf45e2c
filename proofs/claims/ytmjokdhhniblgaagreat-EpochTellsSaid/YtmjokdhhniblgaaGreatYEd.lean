import Derived.Test.YtmjokdhhniblgaaGreatYEc
/-
  The directory's plain law: a batch's order does not matter.
-/
namespace Go.Proofs.YtmjokdhhniblgaaGreat
set_option linter.unusedVariables false
set_option linter.unusedSimpArgs false
open Go.RowKit Pl
theorem if_iff {α : Type} {p q : Prop} [Decidable p] [Decidable q] {a b c d : α} (h : p ↔ q) (h1 : a = c) (h2 : b = d) : (if p then a else b) = if q then c else d := by
  subst h1; subst h2
  by_cases hp : p
  · rw [if_pos hp, if_pos (h.1 hp)]
  · rw [if_neg hp, if_neg (fun x => hp (h.2 x))]
def okOne (l : List Kn) (e : En) : Prop := rightE e.nm e.ver e.key = true ∧ e.ver = i64w ((latR l e.nm).1.ver + 1)
def okAll (l : List Kn) (b : List En) : Prop := (∀ e ∈ b, okOne l e) ∧ b.Pairwise (fun x y => ¬ x.nm = y.nm)
open Classical in
theorem addGo_if {l : List Kn} {ep : Int} : ∀ (r done : List En) (out : List Kn), addGo l ep done r out = if (∀ e ∈ r, okOne l e) ∧ r.Pairwise (fun x y => ¬ x.nm = y.nm) ∧ (∀ d ∈ done, ∀ e ∈ r, ¬ d.nm = e.nm) then (r.foldl (fun o e => insK e ep o) out, true) else (l, false)
  | [], done, out => by simp [addGo]
  | e :: r, done, out => by
    unfold addGo
    by_cases h : rightE e.nm e.ver e.key = true ∧ e.ver = i64w ((latR l e.nm).1.ver + 1) ∧ (∀ d ∈ done, ¬ d.nm = e.nm)
    · rw [if_pos h, addGo_if r (done ++ [e])]
      refine if_iff ⟨fun ⟨q1, q2, q3⟩ => ⟨?_, ?_, ?_⟩, fun ⟨q1, q2, q3⟩ => ⟨fun x hx => q1 x (List.mem_cons_of_mem _ hx), (List.pairwise_cons.1 q2).2, ?_⟩⟩ rfl rfl
      · intro x hx
        rcases List.mem_cons.1 hx with rfl | hx
        · exact ⟨h.1, h.2.1⟩
        · exact q1 x hx
      · exact List.pairwise_cons.2 ⟨fun x hx => q3 e (by simp) x hx, q2⟩
      · intro d hd x hx
        rcases List.mem_cons.1 hx with rfl | hx
        · exact h.2.2 d hd
        · exact q3 d (List.mem_append_left _ hd) x hx
      · intro d hd x hx
        rcases List.mem_append.1 hd with hd | hd
        · exact q3 d hd x (List.mem_cons_of_mem _ hx)
        · rw [List.mem_singleton] at hd; subst hd; exact (List.pairwise_cons.1 q2).1 x hx
    · rw [if_neg h, if_neg]
      rintro ⟨q1, q2, q3⟩
      exact h ⟨(q1 e (by simp)).1, (q1 e (by simp)).2, fun d hd => q3 d hd e (by simp)⟩
open Classical in
theorem addR_if {l : List Kn} {ep : Int} {b : List En} : addR l ep b = if ¬ (ep < 1 ∨ (∃ k ∈ l, ep ≤ k.ep)) ∧ okAll l b then (b.foldl (fun o e => insK e ep o) l, true) else (l, false) := by
  unfold addR
  by_cases h : ep < 1 ∨ ∃ k ∈ l, ep ≤ k.ep
  · rw [if_pos h, if_neg (fun q => q.1 h)]
  · rw [if_neg h, addGo_if]
    refine if_iff ⟨fun q => ⟨h, q.1, q.2.1⟩, fun q => ⟨q.2.1, q.2.2, fun d hd => by cases hd⟩⟩ rfl rfl
theorem ltK_irrefl {k : Kn} (h : ltK k k) : False := ltN_irrefl h
theorem srtK_unique : ∀ {a b : List Kn}, SrtK a → SrtK b → (∀ k, k ∈ a ↔ k ∈ b) → a = b
  | [], [], _, _, _ => rfl
  | [], y :: t, _, _, h => by have := (h y).2 (by simp); cases this
  | x :: s, [], _, _, h => by have := (h x).1 (by simp); cases this
  | x :: s, y :: t, ha, hb, h => by
    unfold SrtK at ha hb
    rw [List.pairwise_cons] at ha hb
    have e : x = y := by
      rcases List.mem_cons.1 ((h x).1 (by simp)) with q | q
      · exact q
      · rcases List.mem_cons.1 ((h y).2 (by simp)) with r | r
        · exact r.symm
        · exact (ltK_irrefl (ltN_trans (ha.1 y r) (hb.1 x q))).elim
    subst e
    have := srtK_unique (a := s) (b := t) ha.2 hb.2 (fun k => by
      refine ⟨fun q => ?_, fun q => ?_⟩
      · rcases List.mem_cons.1 ((h k).1 (List.mem_cons_of_mem _ q)) with r | r
        · subst r; exact (ltK_irrefl (ha.1 k q)).elim
        · exact r
      · rcases List.mem_cons.1 ((h k).2 (List.mem_cons_of_mem _ q)) with r | r
        · subst r; exact (ltK_irrefl (hb.1 k q)).elim
        · exact r)
    rw [this]
theorem mem_ins {e : En} {ep : Int} {l : List Kn} {x : Kn} : x ∈ insK e ep l ↔ x = ⟨e.nm, e.ver, e.key, ep⟩ ∨ x ∈ l := by
  refine ⟨mem_insK, fun h => ?_⟩
  rcases h with rfl | h
  · exact (mem_insK' (e := e) (ep := ep) (l := l)).1
  · exact (mem_insK' (e := e) (ep := ep) (l := l)).2 x h
theorem mem_fold {ep : Int} : ∀ {b : List En} {l : List Kn} {x : Kn}, x ∈ b.foldl (fun o e => insK e ep o) l ↔ (∃ e ∈ b, x = ⟨e.nm, e.ver, e.key, ep⟩) ∨ x ∈ l
  | [], l, x => by simp
  | e :: r, l, x => by
    rw [List.foldl_cons, mem_fold, mem_ins]
    simp only [List.mem_cons, exists_eq_or_imp]
    refine ⟨fun h => ?_, fun h => ?_⟩
    · rcases h with h | h | h
      · exact .inl (.inr h)
      · exact .inl (.inl h)
      · exact .inr h
    · rcases h with (h | h) | h
      · exact .inr (.inl h)
      · exact .inl h
      · exact .inr (.inr h)
theorem okAll_perm {l : List Kn} {a b : List En} (h : a.Perm b) : okAll l a ↔ okAll l b := by
  unfold okAll
  rw [h.pairwise_iff (fun {x y} q r => q r.symm)]
  exact ⟨fun ⟨p, q⟩ => ⟨fun e he => p e (h.mem_iff.2 he), q⟩, fun ⟨p, q⟩ => ⟨fun e he => p e (h.mem_iff.1 he), q⟩⟩
theorem addR_perm {l : List Kn} (hl : chainK none l) {ep : Int} {a b : List En} (h : a.Perm b) : addR l ep a = addR l ep b := by
  have ca := chain_srt (addR_chain hl ep a)
  have cb := chain_srt (addR_chain hl ep b)
  rw [addR_if] at ca cb
  rw [addR_if, addR_if]
  by_cases q : ¬ (ep < 1 ∨ (∃ k ∈ l, ep ≤ k.ep)) ∧ okAll l a
  · have q' : ¬ (ep < 1 ∨ (∃ k ∈ l, ep ≤ k.ep)) ∧ okAll l b := ⟨q.1, (okAll_perm h).1 q.2⟩
    rw [if_pos q] at ca
    rw [if_pos q'] at cb
    rw [if_pos q, if_pos q']
    exact congrArg (fun x => (x, true)) (srtK_unique ca cb (fun k => by
      rw [mem_fold, mem_fold]
      refine or_congr ⟨fun ⟨e, he, r⟩ => ⟨e, h.mem_iff.1 he, r⟩, fun ⟨e, he, r⟩ => ⟨e, h.mem_iff.2 he, r⟩⟩ Iff.rfl))
  · have q' : ¬ (¬ (ep < 1 ∨ (∃ k ∈ l, ep ≤ k.ep)) ∧ okAll l b) := fun r => q ⟨r.1, (okAll_perm h).2 r.2⟩
    rw [if_neg q, if_neg q']
/-- The entries that the seat's bytes name. -/
def entsD (D : List Kn) (m : List UInt8) : List En := m.map (pendE D)
theorem entsD_len (D : List Kn) (m : List UInt8) : (entsD D m).length = m.length := List.length_map ..
theorem entsD_snoc {D : List Kn} {m : List UInt8} {k : Nat} (h : k < m.length) : entsD D (m.take (k + 1)) = entsD D (m.take k) ++ [pendE D m[k]] := by
  unfold entsD; rw [take_snoc' h, List.map_append]; rfl
end Go.Proofs.YtmjokdhhniblgaaGreat

