import Derived.Test.YtmjokdhhniblgaaGreatYHu
/-
  Laws of epochs: which batches may not be one; bent epochs.
-/
namespace Go.Proofs.YtmjokdhhniblgaaGreat
set_option linter.unusedVariables false
set_option linter.unusedSimpArgs false
open Go.RowKit Pl
set_option maxRecDepth 100000
theorem chain_verep : ∀ {l : List Kn} {p : Option Kn}, chainK p l → (∀ q, p = some q → 1 ≤ q.ver ∧ q.ver ≤ 1073741824 ∧ q.ver ≤ q.ep) → ∀ k ∈ l, k.ver ≤ k.ep
  | [], _, _, _ => fun k hk => by cases hk
  | x :: r, p, h, hp => fun k hk => by
    obtain ⟨h1, h2⟩ := h
    have hg := stepB_good h1
    have hv := (rightE_parts hg.1).2.1
    have hx : x.ver ≤ x.ep := by
      cases p with
      | none => rw [stepB_none h1]; exact hg.2
      | some q =>
        obtain ⟨q1, q2, q3⟩ := hp q rfl
        rcases stepB_some h1 with ⟨_, e, lt⟩ | ⟨_, _, e⟩
        · rw [i64w_small (by omega) (by omega)] at e; omega
        · rw [e]; exact hg.2
    rcases List.mem_cons.1 hk with rfl | hk
    · exact hx
    · exact chain_verep h2 (fun q hq => by injection hq with hq; subst hq; exact ⟨hv.1, hv.2, hx⟩) k hk
theorem knN_ep {kn : List Kn} {hs : List Hd} {b : List En} {m : Int} (h : ∀ k ∈ kn, k.ep ≤ m) (hm : m ≤ ((hs.length + 1 : Nat) : Int)) : ∀ k ∈ knN kn hs b, k.ep ≤ ((hs.length + 1 : Nat) : Int) := fun k hk => by
  unfold knN at hk
  rw [addR_if] at hk
  split at hk
  · rcases mem_fold.1 hk with ⟨e, _, rfl⟩ | hk
    · exact Int.le_refl _
    · exact Int.le_trans (h k hk) hm
  · exact Int.le_trans (h k hk) hm
theorem knPs_ep {ps : List Pub} : ∀ i, i ≤ ps.length → ∀ k ∈ knPs (ps.take i), k.ep ≤ (i : Int) := fun i => by
  induction i with
  | zero => intro _ k hk; cases hk
  | succ i ih =>
    intro hi k hk
    rw [take_snoc' (by omega : i < ps.length), knPs_snoc] at hk
    have hl : ((ps.take i).map Pub.hd).length = i := by rw [List.length_map, List.length_take]; omega
    have := knN_ep (m := (i : Int)) (ih (by omega)) (by rw [hl]; omega) k hk
    rw [hl] at this; exact this
/-- What is known when the seat's epochs are done. -/
structure EpsIn (s : Eps) (n : Nat) : Prop where
  hsl : s.hs.length ≤ n
  knl : s.kn.length ≤ 3 * n
  chain : chainK none s.kn
  fit : epFit s.kn
  ok : ∀ h ∈ s.hs, h.ok
  right : ∀ h ∈ s.hs, rightH h = true
  ep : ∀ k ∈ s.kn, k.ep ≤ ((s.hs.length : Nat) : Int)
  ver : ∀ nm, 0 ≤ (latR s.kn nm).1.ver ∧ (latR s.kn nm).1.ver ≤ ((s.hs.length : Nat) : Int)
theorem eps_in (l : List UInt8) (hl : l.length ≤ 1000) : EpsIn (epsR 5 l) l.length := by
  have w := epsR_well 5 l hl
  have o := epsR_ok 5 l
  have r := epsR_right 5 l hl
  have hep : ∀ k ∈ (epsR 5 l).kn, k.ep ≤ (((epsR 5 l).hs.length : Nat) : Int) := by
    have q := knPs_ep (ps := (epsR 5 l).ps) _ (Nat.le_refl _)
    rw [List.take_length, ← w.kn, o.ps] at q
    exact q
  refine ⟨o.hs, o.kn, w.chain, w.fit, fun h hh => (r h hh).2, fun h hh => (r h hh).1, hep, fun nm => ?_⟩
  rcases latR_mem (epsR 5 l).kn nm with q | q
  · rw [q]; exact ⟨Int.le_refl _, Int.natCast_nonneg _⟩
  · have h1 := chain_verep w.chain (fun q h => by cases h) _ q
    have h2 := hep _ q
    have h3 := (chain_ver w.chain _ q).1
    omega
def lastT (hs : List Hd) : Int := (hs.getLastD zeroHd).tk
theorem lastT_bd {s : Eps} {n : Nat} (h : EpsIn s n) : 0 ≤ lastT s.hs ∧ lastT s.hs ≤ 1152921504606846976 := by
  unfold lastT
  rw [List.getLastD_eq_getLast?]
  cases e : s.hs.getLast? with
  | none => exact ⟨by decide, by decide⟩
  | some g =>
    have := h.right g (List.mem_of_getLast? e)
    unfold rightH at this; simp only [decide_eq_true_eq] at this
    show 0 ≤ g.tk ∧ g.tk ≤ _
    omega
theorem bad_long {kn : List Kn} {hs : List Hd} {b : List En} {tk : Int} (h : 8 < b.length) : badN kn hs b tk = true := by
  cases e : badN kn hs b tk with
  | true => rfl
  | false => have := (badN_no e).2.2.1; omega
theorem bad_twice {kn : List Kn} {hs : List Hd} {e : En} {tk : Int} : badN kn hs [e, e] tk = true := by
  cases h : badN kn hs [e, e] tk with
  | true => rfl
  | false =>
    have := (bad_ok h).2
    rw [List.pairwise_cons] at this
    exact absurd rfl (this.1 e (List.mem_singleton.2 rfl))
theorem bad_ver {kn : List Kn} {hs : List Hd} {e : En} {tk : Int} (he : ¬ e.ver = i64w ((latR kn e.nm).1.ver + 1)) : badN kn hs [e] tk = true := by
  cases h : badN kn hs [e] tk with
  | true => rfl
  | false => exact absurd ((bad_ok h).1 e (List.mem_singleton.2 rfl)).2 he
theorem bad_back {kn : List Kn} {hs : List Hd} {b : List En} (h0 : 0 ≤ lastT hs) : badN kn hs b (lastT hs - 1) = true := by
  cases h : badN kn hs b (lastT hs - 1) with
  | true => rfl
  | false =>
    obtain ⟨_, _, _, h4, _, h6⟩ := badN_no h
    by_cases hp : 0 < hs.length
    · have := h6 hp; unfold lastT at this; omega
    · have : hs = [] := List.eq_nil_of_length_eq_zero (by omega)
      subst this; exact absurd h4 (by decide)
theorem seat_right (k : UInt8) {v : Int} (h1 : 1 ≤ v) (h2 : v ≤ 1000) : rightE (seatE k v).nm (seatE k v).ver (seatE k v).key = true := by
  obtain ⟨n1, n2⟩ := nameL_len ((k.toNat : Nat) : Int)
  have hk := k.toNat_lt
  have hK : keyE k v = v * 1000 + ((k.toNat : Nat) : Int) + 1 := by
    unfold keyE
    simp only [IntKind.wrap_u64]
    omega
  show rightE (nameL ((k.toNat : Nat) : Int)) v (keyE k v) = true
  rw [hK]
  unfold rightE
  simp only [Bool.and_eq_true, decide_eq_true_eq]
  exact ⟨n1, n2, by omega, by omega, by omega, by omega⟩
theorem good_one {s : Eps} {n : Nat} (h : EpsIn s n) (hn : n ≤ 900) (k : UInt8) : badN s.kn s.hs [seatE k (i64w ((latR s.kn (nameL ((k.toNat : Nat) : Int))).1.ver + 1))] (lastT s.hs) = false := by
  have hv := h.ver (nameL ((k.toNat : Nat) : Int))
  have hl := h.hsl
  have hb := lastT_bd h
  obtain ⟨v, hv2⟩ : ∃ v, v = i64w ((latR s.kn (nameL ((k.toNat : Nat) : Int))).1.ver + 1) := ⟨_, rfl⟩
  have e : v = (latR s.kn (nameL ((k.toNat : Nat) : Int))).1.ver + 1 := by rw [hv2, i64w_small hv.1 (by omega)]
  rw [← hv2]
  have ha : (addR s.kn ((s.hs.length + 1 : Nat) : Int) [seatE k v]).2 = true := by
    rw [addR_if, if_pos]
    refine ⟨?_, ?_, ?_⟩
    · rintro (q | ⟨x, hx, q⟩)
      · omega
      · have := h.ep x hx; omega
    · intro x hx
      rw [List.mem_singleton] at hx; subst hx
      exact ⟨seat_right k (by omega) (by omega), hv2⟩
    · exact List.pairwise_singleton _ _
  unfold badN
  rw [ha]
  unfold lastT at hb ⊢
  simp only [Bool.not_true, Bool.false_or, Bool.or_eq_false_iff, decide_eq_false_iff_not, Bool.and_eq_false_iff, List.length_singleton]
  exact ⟨by omega, by omega, by omega, by omega, .inr (by omega)⟩
theorem ver_next {s : Eps} {n : Nat} (h : EpsIn s n) (hn : n ≤ 900) (k : UInt8) {e : En} (he : e = seatE k (i64w ((latR s.kn (nameL ((k.toNat : Nat) : Int))).1.ver + 1))) (tk : Int) : badN s.kn s.hs [{ e with ver := i64w (e.ver + 1) }] tk = true := by
  subst he
  refine bad_ver ?_
  have hv := h.ver (nameL ((k.toNat : Nat) : Int))
  have hl := h.hsl
  show ¬ i64w (i64w ((latR s.kn (nameL ((k.toNat : Nat) : Int))).1.ver + 1) + 1) = i64w ((latR s.kn (nameL ((k.toNat : Nat) : Int))).1.ver + 1)
  rw [i64w_small hv.1 (by omega), i64w_small (by omega) (by omega)]
  omega
/-- Eight names of one byte. -/
def pE (n : Nat) : En := ⟨[112 + UInt8.ofNat n], 1, 1⟩
def plE (e : En) (j : Nat) : List En := e :: (List.range j).map pE
theorem plE_len (e : En) (j : Nat) : (plE e j).length = j + 1 := by unfold plE; simp
theorem plE_snoc (e : En) (j : Nat) : plE e (j + 1) = plE e j ++ [pE j] := by unfold plE; rw [List.range_succ, List.map_append]; rfl
theorem zp_fit : hdFit zeroPub.hd := ⟨⟨by decide, by decide⟩, ⟨by decide, by decide⟩, ⟨by decide, by decide⟩, ⟨⟨by decide, by decide⟩, ⟨by decide, by decide⟩⟩⟩
end Go.Proofs.YtmjokdhhniblgaaGreat

