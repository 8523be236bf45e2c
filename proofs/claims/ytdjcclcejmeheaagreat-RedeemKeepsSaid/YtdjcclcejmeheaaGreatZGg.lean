import Derived.Test.YtdjcclcejmeheaaGreatZGd
import Derived.Test.YtdjcclcejmeheaaGreatZEc
import Derived.Test.YtdjcclcejmeheaaGreatZHl
/-
  HeadTells: what is known of a head, the seat's heads: the plain values.
-/
namespace Go.Proofs.YtdjcclcejmeheaaGreat
set_option linter.unusedVariables false
set_option linter.unusedSimpArgs false
open Go.RowKit Pl
set_option maxRecDepth 100000
def h0 : Hd := ⟨1, 3, 2, zeroH, zeroH, 0, 0⟩
theorem fpf (a n v : Nat) (hn : n < 2 ^ 64) (h : Ferm.fast 2305843009213693951 64 a n 1 % 2305843009213693951 = v) : fpow a n 2305843009213693951 = v := by
  rw [fpow_fast a n 2305843009213693951 2305843009213693951 rfl hn, h]
theorem kk : signK 5 (msgB h0) = 2256388873466879314 := by decide +kernel
theorem kr : sigR 5 (msgB h0) = 2252218261899658469 := by
  unfold sigR; rw [kk]
  exact fpf 7 2256388873466879314 2252218261899658469 (by decide) (by decide +kernel)
theorem kp5 : pubF 5 = 16807 := by decide +kernel
theorem ke5 : chalF 2252218261899658469 16807 (msgB h0) = 1462272069247183120 := by decide +kernel
theorem ks : sigS 5 (msgB h0) = 344377182848019114 := by
  unfold sigS sigE; rw [kk, kr, kp5, ke5]; decide +kernel
theorem right_sign (x : Int) (h : Hd) : rightH (signH x h) = rightH h := rfl
theorem badN_no {kn : List Kn} {hs : List Hd} {b : List En} {tk : Int} (h : badN kn hs b tk = false) : (addR kn ((hs.length + 1 : Nat) : Int) b).2 = true ∧ 1 ≤ b.length ∧ b.length ≤ 8 ∧ 0 ≤ tk ∧ tk ≤ 1152921504606846976 ∧ (0 < hs.length → (hs.getLastD zeroHd).tk ≤ tk) := by
  unfold badN at h
  simp only [Bool.or_eq_false_iff, Bool.not_eq_false', decide_eq_false_iff_not, Bool.and_eq_false_iff] at h
  obtain ⟨h1, h2, h3, h4, h5, h6⟩ := h
  exact ⟨h1, by omega, by omega, by omega, by omega, fun hp => h6.elim (fun q => absurd q (by omega)) (fun q => by omega)⟩
theorem headN_right {kn : List Kn} {hs : List Hd} {b : List En} {tk : Int} (h : badN kn hs b tk = false) (hl : hs.length ≤ 1000000) : rightH (headN kn hs b tk) = true := by
  obtain ⟨_, h2, h3, h4, h5, _⟩ := badN_no h
  unfold rightH headN
  simp only [decide_eq_true_eq]
  omega
theorem epsR_right (x : Int) (l : List UInt8) (hl : l.length ≤ 1000) : ∀ h ∈ (epsR x l).hs, rightH h = true ∧ h.ok := by
  have : ∀ (k : Nat), k ≤ l.length → ∀ h ∈ (epsR x (l.take k)).hs, rightH h = true ∧ h.ok := fun k => by
    induction k with
    | zero => intro _ h hh; cases hh
    | succ k ih =>
      intro hk h hh
      have hok := epsR_ok x (l.take k)
      have h1 := hok.hs
      rw [List.length_take, Nat.min_eq_left (by omega)] at h1
      rw [epsR_snoc x (by omega : k < l.length)] at hh
      unfold epS at hh
      split at hh
      · exact ih (by omega) h hh
      · rename_i hb
        rcases List.mem_append.1 hh with hh | hh
        · exact ih (by omega) h hh
        · rw [List.mem_singleton] at hh; subst hh
          have hb' := Bool.eq_false_iff.2 hb
          have hr := headN_right hb' (by omega)
          exact ⟨by rw [right_sign]; exact hr, signH_ok _ _⟩
  have := this l.length (Nat.le_refl _)
  rwa [List.take_length] at this
end Go.Proofs.YtdjcclcejmeheaaGreat
/-
  The directory's plain law: a batch's order does not matter.
-/
namespace Go.Proofs.YtdjcclcejmeheaaGreat
set_option linter.unusedVariables false
set_option linter.unusedSimpArgs false
open Go.RowKit Pl
theorem if_iff {α : Type} {p q : Prop} [Decidable p] [Decidable q] {a b c d : α} (h : p ↔ q) (h1 : a = c) (h2 : b = d) : (if p then a else b) = if q then c else d := by
  subst h1; subst h2
  by_cases hp : p
  · rw [if_pos hp, if_pos (h.1 hp)]
  · rw [if_neg hp, if_neg (fun x => hp (h.2 x))]
def okOne (l : List Kn) (e : En) : Prop := rightE e.nm e.ver e.key = true ∧ e.ver = i64w ((latR l e.nm).1.ver + 1)
def okAll (l : List Kn) (b : List En) : Prop := (∀ e ∈ b, okOne l e) ∧ b.Pairwise (fun x y => ¬ x.nm = y.nm)
open Classical in
theorem addGo_if {l : List Kn} {ep : Int} : ∀ (r done : List En) (out : List Kn), addGo l ep done r out = if (∀ e ∈ r, okOne l e) ∧ r.Pairwise (fun x y => ¬ x.nm = y.nm) ∧ (∀ d ∈ done, ∀ e ∈ r, ¬ d.nm = e.nm) then (r.foldl (fun o e => insK e ep o) out, true) else (l, false)
  | [], done, out => by simp [addGo]
  | e :: r, done, out => by
    unfold addGo
    by_cases h : rightE e.nm e.ver e.key = true ∧ e.ver = i64w ((latR l e.nm).1.ver + 1) ∧ (∀ d ∈ done, ¬ d.nm = e.nm)
    · rw [if_pos h, addGo_if r (done ++ [e])]
      refine if_iff ⟨fun ⟨q1, q2, q3⟩ => ⟨?_, ?_, ?_⟩, fun ⟨q1, q2, q3⟩ => ⟨fun x hx => q1 x (List.mem_cons_of_mem _ hx), (List.pairwise_cons.1 q2).2, ?_⟩⟩ rfl rfl
      · intro x hx
        rcases List.mem_cons.1 hx with rfl | hx
        · exact ⟨h.1, h.2.1⟩
        · exact q1 x hx
      · exact List.pairwise_cons.2 ⟨fun x hx => q3 e (by simp) x hx, q2⟩
      · intro d hd x hx
        rcases List.mem_cons.1 hx with rfl | hx
        · exact h.2.2 d hd
        · exact q3 d (List.mem_append_left _ hd) x hx
      · intro d hd x hx
        rcases List.mem_append.1 hd with hd | hd
        · exact q3 d hd x (List.mem_cons_of_mem _ hx)
        · rw [List.mem_singleton] at hd; subst hd; exact (List.pairwise_cons.1 q2).1 x hx
    · rw [if_neg h, if_neg]
      rintro ⟨q1, q2, q3⟩
      exact h ⟨(q1 e (by simp)).1, (q1 e (by simp)).2, fun d hd => q3 d hd e (by simp)⟩
open Classical in
theorem addR_if {l : List Kn} {ep : Int} {b : List En} : addR l ep b = if ¬ (ep < 1 ∨ (∃ k ∈ l, ep ≤ k.ep)) ∧ okAll l b then (b.foldl (fun o e => insK e ep o) l, true) else (l, false) := by
  unfold addR
  by_cases h : ep < 1 ∨ ∃ k ∈ l, ep ≤ k.ep
  · rw [if_pos h, if_neg (fun q => q.1 h)]
  · rw [if_neg h, addGo_if]
    refine if_iff ⟨fun q => ⟨h, q.1, q.2.1⟩, fun q => ⟨q.2.1, q.2.2, fun d hd => by cases hd⟩⟩ rfl rfl
theorem ltK_irrefl {k : Kn} (h : ltK k k) : False := ltN_irrefl h
theorem srtK_unique : ∀ {a b : List Kn}, SrtK a → SrtK b → (∀ k, k ∈ a ↔ k ∈ b) → a = b
  | [], [], _, _, _ => rfl
  | [], y :: t, _, _, h => by have := (h y).2 (by simp); cases this
  | x :: s, [], _, _, h => by have := (h x).1 (by simp); cases this
  | x :: s, y :: t, ha, hb, h => by
    unfold SrtK at ha hb
    rw [List.pairwise_cons] at ha hb
    have e : x = y := by
      rcases List.mem_cons.1 ((h x).1 (by simp)) with q | q
      · exact q
      · rcases List.mem_cons.1 ((h y).2 (by simp)) with r | r
        · exact r.symm
        · exact (ltK_irrefl (ltN_trans (ha.1 y r) (hb.1 x q))).elim
    subst e
    have := srtK_unique (a := s) (b := t) ha.2 hb.2 (fun k => by
      refine ⟨fun q => ?_, fun q => ?_⟩
      · rcases List.mem_cons.1 ((h k).1 (List.mem_cons_of_mem _ q)) with r | r
        · subst r; exact (ltK_irrefl (ha.1 k q)).elim
        · exact r
      · rcases List.mem_cons.1 ((h k).2 (List.mem_cons_of_mem _ q)) with r | r
        · subst r; exact (ltK_irrefl (hb.1 k q)).elim
        · exact r)
    rw [this]
theorem mem_ins {e : En} {ep : Int} {l : List Kn} {x : Kn} : x ∈ insK e ep l ↔ x = ⟨e.nm, e.ver, e.key, ep⟩ ∨ x ∈ l := by
  refine ⟨mem_insK, fun h => ?_⟩
  rcases h with rfl | h
  · exact (mem_insK' (e := e) (ep := ep) (l := l)).1
  · exact (mem_insK' (e := e) (ep := ep) (l := l)).2 x h
theorem mem_fold {ep : Int} : ∀ {b : List En} {l : List Kn} {x : Kn}, x ∈ b.foldl (fun o e => insK e ep o) l ↔ (∃ e ∈ b, x = ⟨e.nm, e.ver, e.key, ep⟩) ∨ x ∈ l
  | [], l, x => by simp
  | e :: r, l, x => by
    rw [List.foldl_cons, mem_fold, mem_ins]
    simp only [List.mem_cons, exists_eq_or_imp]
    refine ⟨fun h => ?_, fun h => ?_⟩
    · rcases h with h | h | h
      · exact .inl (.inr h)
      · exact .inl (.inl h)
      · exact .inr h
    · rcases h with (h | h) | h
      · exact .inr (.inl h)
      · exact .inl h
      · exact .inr (.inr h)
theorem okAll_perm {l : List Kn} {a b : List En} (h : a.Perm b) : okAll l a ↔ okAll l b := by
  unfold okAll
  rw [h.pairwise_iff (fun {x y} q r => q r.symm)]
  exact ⟨fun ⟨p, q⟩ => ⟨fun e he => p e (h.mem_iff.2 he), q⟩, fun ⟨p, q⟩ => ⟨fun e he => p e (h.mem_iff.1 he), q⟩⟩
theorem addR_perm {l : List Kn} (hl : chainK none l) {ep : Int} {a b : List En} (h : a.Perm b) : addR l ep a = addR l ep b := by
  have ca := chain_srt (addR_chain hl ep a)
  have cb := chain_srt (addR_chain hl ep b)
  rw [addR_if] at ca cb
  rw [addR_if, addR_if]
  by_cases q : ¬ (ep < 1 ∨ (∃ k ∈ l, ep ≤ k.ep)) ∧ okAll l a
  · have q' : ¬ (ep < 1 ∨ (∃ k ∈ l, ep ≤ k.ep)) ∧ okAll l b := ⟨q.1, (okAll_perm h).1 q.2⟩
    rw [if_pos q] at ca
    rw [if_pos q'] at cb
    rw [if_pos q, if_pos q']
    exact congrArg (fun x => (x, true)) (srtK_unique ca cb (fun k => by
      rw [mem_fold, mem_fold]
      refine or_congr ⟨fun ⟨e, he, r⟩ => ⟨e, h.mem_iff.1 he, r⟩, fun ⟨e, he, r⟩ => ⟨e, h.mem_iff.2 he, r⟩⟩ Iff.rfl))
  · have q' : ¬ (¬ (ep < 1 ∨ (∃ k ∈ l, ep ≤ k.ep)) ∧ okAll l b) := fun r => q ⟨r.1, (okAll_perm h).2 r.2⟩
    rw [if_neg q, if_neg q']
end Go.Proofs.YtdjcclcejmeheaaGreat
/-
  Epochs: what the program's side comes to; a batch's order; each epoch follows from those ahead of it.
-/
namespace Go.Proofs.YtdjcclcejmeheaaGreat
set_option linter.unusedVariables false
set_option linter.unusedSimpArgs false
open Go.RowKit Pl
set_option maxRecDepth 100000
theorem inNm_perm (e : En) : ∀ l : List En, (inNm e l).Perm (e :: l)
  | [] => by unfold inNm; exact List.Perm.refl _
  | x :: r => by
    rw [inNm_cons]
    split
    · exact ((inNm_perm e r).cons x).trans (List.Perm.swap e x r)
    · exact List.Perm.refl _
theorem byN_perm (l : List En) : (byN l).Perm l := by
  have : ∀ (l o : List En), (l.foldl (fun o e => inNm e o) o).Perm (o ++ l) := fun l => by
    induction l with
    | nil => intro o; rw [List.append_nil]; exact List.Perm.refl _
    | cons e r ih =>
      intro o
      rw [List.foldl_cons]
      exact (ih _).trans (((inNm_perm e o).append_right r).trans (List.perm_middle.symm))
  exact this l []
theorem inNm_last {e : En} : ∀ {o : List En}, (∀ x ∈ o, leN x.nm e.nm = true) → inNm e o = o ++ [e]
  | [], _ => rfl
  | x :: r, h => by
    rw [inNm_cons, if_pos (h x (List.mem_cons_self ..)), inNm_last (fun y hy => h y (List.mem_cons_of_mem _ hy))]; rfl
theorem byN_of_sorted {l : List En} (h : sortedN l) : byN l = l := by
  have : ∀ (k : Nat), k ≤ l.length → byN (l.take k) = l.take k := fun k => by
    induction k with
    | zero => intro _; rfl
    | succ k ih =>
      intro hk
      rw [byN_snoc (by omega : k < l.length), ih (by omega), inNm_last, ← take_snoc' (by omega)]
      intro x hx
      obtain ⟨j, hj, rfl⟩ := List.mem_iff_getElem.1 hx
      rw [List.length_take] at hj
      rw [List.getElem_take]
      exact List.pairwise_iff_getElem.1 h j k (by omega) (by omega) (by omega)
  have := this l.length (Nat.le_refl _)
  rwa [List.take_length] at this
theorem byN_idem (l : List En) : byN (byN l) = byN l := byN_of_sorted (byN_sorted l)
theorem bad_perm {kn : List Kn} (hc : chainK none kn) {hs : List Hd} {a b : List En} (h : a.Perm b) (tk : Int) : badN kn hs a tk = badN kn hs b tk := by
  unfold badN; rw [addR_perm hc h, h.length_eq]
theorem kn_perm {kn : List Kn} (hc : chainK none kn) {hs : List Hd} {a b : List En} (h : a.Perm b) : knN kn hs a = knN kn hs b := by
  unfold knN; rw [addR_perm hc h]
theorem head_perm {kn : List Kn} (hc : chainK none kn) {hs : List Hd} {a b : List En} (h : a.Perm b) (tk : Int) : headN kn hs a tk = headN kn hs b tk := by
  unfold headN; rw [kn_perm hc h, h.length_eq]
theorem bad_ok {kn : List Kn} {hs : List Hd} {b : List En} {tk : Int} (h : badN kn hs b tk = false) : okAll kn b := by
  have h1 := (badN_no h).1
  rw [addR_if] at h1
  split at h1
  · rename_i q; exact q.2
  · cases h1
theorem bad_fit {kn : List Kn} {hs : List Hd} {b : List En} {tk : Int} (h : badN kn hs b tk = false) : ∀ e ∈ b, enFit e := fun e he => by
  obtain ⟨a, b, c⟩ := rightE_parts ((bad_ok h).1 e he).1
  exact ⟨by omega, ⟨by omega, by omega⟩, ⟨by omega, by omega⟩⟩
theorem headN_fit {kn : List Kn} {hs : List Hd} {b : List En} {tk : Int} (h : badN kn hs b tk = false) (hl : hs.length ≤ 1000000) : hdFit (headN kn hs b tk) := right_fit (headN_right h hl) ⟨⟨Int.le_refl _, by show (0 : Int) < 18446744073709551616; decide⟩, ⟨Int.le_refl _, by show (0 : Int) < 18446744073709551616; decide⟩⟩
theorem kn_chain {kn : List Kn} (hc : chainK none kn) (hs : List Hd) (b : List En) : chainK none (knN kn hs b) := addR_chain hc _ b
theorem kn_epfit {kn : List Kn} (he : epFit kn) {hs : List Hd} (hl : hs.length ≤ 1000000) (b : List En) : epFit (knN kn hs b) := addR_fit ⟨by omega, by omega⟩ he b
def knStep (s : List Kn × Nat) (p : Pub) : List Kn × Nat := ((addR s.1 ((s.2 + 1 : Nat) : Int) p.es).1, s.2 + 1)
def knPs (ps : List Pub) : List Kn := (ps.foldl knStep ([], 0)).1
theorem knPs_two (ps : List Pub) : ps.foldl knStep ([], 0) = (knPs ps, ps.length) := by
  have : ∀ (ps : List Pub) (s : List Kn × Nat), (ps.foldl knStep s).2 = s.2 + ps.length := fun ps => by
    induction ps with
    | nil => intro s; rfl
    | cons p r ih => intro s; rw [List.foldl_cons, ih, List.length_cons]; show s.2 + 1 + r.length = _; omega
  have h := this ps ([], 0)
  rw [Nat.zero_add] at h
  exact Prod.ext rfl h
theorem knPs_snoc (ps : List Pub) (p : Pub) : knPs (ps ++ [p]) = knN (knPs ps) (ps.map Pub.hd) p.es := by
  unfold knPs; rw [List.foldl_append, knPs_two, List.foldl_cons, List.foldl_nil]; unfold knN; rw [List.length_map]; rfl
def stepOk (x : Int) (ps : List Pub) (p : Pub) : Prop := badN (knPs ps) (ps.map Pub.hd) p.es p.hd.tk = false ∧ p.hd = signH x (headN (knPs ps) (ps.map Pub.hd) p.es p.hd.tk) ∧ p.es = byN p.es
def epsGood (x : Int) (ps : List Pub) : Prop := ∀ i (h : i < ps.length), stepOk x (ps.take i) ps[i]
theorem epsGood_snoc {x : Int} {ps : List Pub} {p : Pub} (h : epsGood x ps) (k : stepOk x ps p) : epsGood x (ps ++ [p]) := fun i hi => by
  rw [List.length_append, List.length_singleton] at hi
  by_cases hl : i < ps.length
  · rw [List.getElem_append_left hl, List.take_append_of_le_length (by omega)]; exact h i hl
  · have e : i = ps.length := by omega
    subst e
    rw [List.getElem_append_right (Nat.le_refl _), List.take_append_of_le_length (Nat.le_refl _), List.take_length]
    simpa using k
structure EpsWell (x : Int) (s : Eps) : Prop where
  hs : s.hs = s.ps.map Pub.hd
  kn : s.kn = knPs s.ps
  good : epsGood x s.ps
  chain : chainK none s.kn
  fit : epFit s.kn
theorem sign_tk (x : Int) (h : Hd) : (signH x h).tk = h.tk := rfl
theorem epS_well (x : Int) {s : Eps} (h : EpsWell x s) (b : UInt8) (hl : s.hs.length ≤ 1000000) : EpsWell x (epS x s b) := by
  unfold epS
  obtain ⟨B, hB⟩ : ∃ B, B = epB s.kn b (epN b) := ⟨_, rfl⟩
  obtain ⟨T, hT⟩ : ∃ T, T = s.tk + epT b := ⟨_, rfl⟩
  rw [← hB, ← hT]
  split
  · exact ⟨h.hs, h.kn, h.good, h.chain, h.fit⟩
  · rename_i hb
    have hb' := Bool.eq_false_iff.2 hb
    have hp := byN_perm B
    refine ⟨?_, ?_, ?_, kn_chain h.chain _ _, kn_epfit h.fit hl _⟩
    · show s.hs ++ _ = (s.ps ++ _).map Pub.hd
      rw [List.map_append, ← h.hs]; rfl
    · show knN s.kn s.hs B = _
      rw [knPs_snoc, ← h.hs, ← h.kn]
      exact (kn_perm h.chain hp).symm
    · refine epsGood_snoc h.good ?_
      unfold stepOk
      rw [← h.hs, ← h.kn]
      refine ⟨?_, ?_, (byN_idem B).symm⟩
      · show badN s.kn s.hs (byN B) (signH x (headN s.kn s.hs B T)).tk = false
        rw [sign_tk, bad_perm h.chain hp]; exact hb'
      · show signH x (headN s.kn s.hs B T) = signH x (headN s.kn s.hs (byN B) (signH x (headN s.kn s.hs B T)).tk)
        rw [sign_tk, head_perm h.chain hp]; rfl
theorem epsR_well (x : Int) (l : List UInt8) (hl : l.length ≤ 1000) : EpsWell x (epsR x l) := by
  have : ∀ (k : Nat), k ≤ l.length → EpsWell x (epsR x (l.take k)) := fun k => by
    induction k with
    | zero => intro _; exact ⟨rfl, rfl, fun i h => absurd h (Nat.not_lt_zero _), trivial, fun k h => (by cases h)⟩
    | succ k ih =>
      intro hk
      have hok := (epsR_ok x (l.take k)).hs
      rw [List.length_take, Nat.min_eq_left (by omega)] at hok
      rw [epsR_snoc x (by omega : k < l.length)]; exact epS_well x (ih (by omega)) _ (by omega)
  have := this l.length (Nat.le_refl _)
  rwa [List.take_length] at this
/-- What is known after so many of the epochs. -/
theorem knPs_chain {x : Int} {ps : List Pub} : ∀ i, i ≤ ps.length → chainK none (knPs (ps.take i)) ∧ (ps.length ≤ 1000000 → epFit (knPs (ps.take i))) := fun i => by
  induction i with
  | zero => intro _; exact ⟨trivial, fun _ k h => (by cases h)⟩
  | succ i ih =>
    intro hi
    have h := ih (by omega)
    rw [take_snoc' (by omega : i < ps.length), knPs_snoc]
    exact ⟨kn_chain h.1 _ _, fun hl => kn_epfit (h.2 hl) (by rw [List.length_map, List.length_take]; omega) _⟩
theorem good_build {x : Int} {ps : List Pub} {p : Pub} (h : stepOk x ps p) : buildB x (knPs ps) (ps.map Pub.hd) p.es p.hd.tk = (p, knPs (ps ++ [p]), 0) := by
  obtain ⟨h1, h2, h3⟩ := h
  unfold buildB
  rw [if_neg (by rw [h1]; simp), ← h2, ← h3, knPs_snoc]
end Go.Proofs.YtdjcclcejmeheaaGreat

