import Derived.Test.YtmjokdhhniblgaaGreatYGd
import Derived.Test.YtmjokdhhniblgaaGreatYOq
import Derived.Test.YtmjokdhhniblgaaGreatYEv
import Derived.Test.YtmjokdhhniblgaaGreatYIg
/-
  HeadTells: what is known of a head, the seat's heads: the plain values.
-/
namespace Go.Proofs.YtmjokdhhniblgaaGreat
set_option linter.unusedVariables false
set_option linter.unusedSimpArgs false
open Go.RowKit Pl
set_option maxRecDepth 100000
def h0 : Hd := ⟨1, 3, 2, zeroH, zeroH, 0, 0⟩
theorem fpf (a n v : Nat) (hn : n < 2 ^ 64) (h : Ferm.fast 2305843009213693951 64 a n 1 % 2305843009213693951 = v) : fpow a n 2305843009213693951 = v := by
  rw [fpow_fast a n 2305843009213693951 2305843009213693951 rfl hn, h]
theorem kk : signK 5 (msgB h0) = 2256388873466879314 := by decide +kernel
theorem kr : sigR 5 (msgB h0) = 2252218261899658469 := by
  unfold sigR; rw [kk]
  exact fpf 7 2256388873466879314 2252218261899658469 (by decide) (by decide +kernel)
theorem kp5 : pubF 5 = 16807 := by decide +kernel
theorem ke5 : chalF 2252218261899658469 16807 (msgB h0) = 1462272069247183120 := by decide +kernel
theorem ks : sigS 5 (msgB h0) = 344377182848019114 := by
  unfold sigS sigE; rw [kk, kr, kp5, ke5]; decide +kernel
theorem right_sign (x : Int) (h : Hd) : rightH (signH x h) = rightH h := rfl
theorem badN_no {kn : List Kn} {hs : List Hd} {b : List En} {tk : Int} (h : badN kn hs b tk = false) : (addR kn ((hs.length + 1 : Nat) : Int) b).2 = true ∧ 1 ≤ b.length ∧ b.length ≤ 8 ∧ 0 ≤ tk ∧ tk ≤ 1152921504606846976 ∧ (0 < hs.length → (hs.getLastD zeroHd).tk ≤ tk) := by
  unfold badN at h
  simp only [Bool.or_eq_false_iff, Bool.not_eq_false', decide_eq_false_iff_not, Bool.and_eq_false_iff] at h
  obtain ⟨h1, h2, h3, h4, h5, h6⟩ := h
  exact ⟨h1, by omega, by omega, by omega, by omega, fun hp => h6.elim (fun q => absurd q (by omega)) (fun q => by omega)⟩
theorem headN_right {kn : List Kn} {hs : List Hd} {b : List En} {tk : Int} (h : badN kn hs b tk = false) (hl : hs.length ≤ 1000000) : rightH (headN kn hs b tk) = true := by
  obtain ⟨_, h2, h3, h4, h5, _⟩ := badN_no h
  unfold rightH headN
  simp only [decide_eq_true_eq]
  omega
theorem epsR_right (x : Int) (l : List UInt8) (hl : l.length ≤ 1000) : ∀ h ∈ (epsR x l).hs, rightH h = true ∧ h.ok := by
  have : ∀ (k : Nat), k ≤ l.length → ∀ h ∈ (epsR x (l.take k)).hs, rightH h = true ∧ h.ok := fun k => by
    induction k with
    | zero => intro _ h hh; cases hh
    | succ k ih =>
      intro hk h hh
      have hok := epsR_ok x (l.take k)
      have h1 := hok.hs
      rw [List.length_take, Nat.min_eq_left (by omega)] at h1
      rw [epsR_snoc x (by omega : k < l.length)] at hh
      unfold epS at hh
      split at hh
      · exact ih (by omega) h hh
      · rename_i hb
        rcases List.mem_append.1 hh with hh | hh
        · exact ih (by omega) h hh
        · rw [List.mem_singleton] at hh; subst hh
          have hb' := Bool.eq_false_iff.2 hb
          have hr := headN_right hb' (by omega)
          exact ⟨by rw [right_sign]; exact hr, signH_ok _ _⟩
  have := this l.length (Nat.le_refl _)
  rwa [List.take_length] at this
def udv (n : Int) : List DV := [.v (.int .u64 n)]
end Go.Proofs.YtmjokdhhniblgaaGreat
/-
  The program's Right.
-/
namespace Go.Proofs.YtmjokdhhniblgaaGreat
set_option linter.unusedVariables false
set_option linter.unusedSimpArgs false
open Go.RowKit Pl
set_option maxRecDepth 100000
set_option maxHeartbeats 3200000
/-- One step of a right directory. -/
def stepB (p : Option Kn) (k : Kn) : Bool := rightE k.nm k.ver k.key && (decide (1 ≤ k.ep) && (match p with
  | none => decide (k.ver = 1)
  | some q => if q.nm = k.nm then decide (k.ver = i64w (q.ver + 1)) && decide (q.ep < k.ep) else !(Op.bytesLess k.nm q.nm) && decide (k.ver = 1)))
theorem stepB_first {k : Kn} (hR : rightE k.nm k.ver k.key = true) (hep : 1 ≤ k.ep) (hv : k.ver = 1) : stepB none k = true := by
  unfold stepB; rw [hR, decide_eq_true hep, decide_eq_true hv]; rfl
theorem stepB_new {q k : Kn} (hR : rightE k.nm k.ver k.key = true) (hep : 1 ≤ k.ep) (hn : ¬ q.nm = k.nm) (hb : Op.bytesLess k.nm q.nm = false) (hv : k.ver = 1) : stepB (some q) k = true := by
  unfold stepB; simp only [if_neg hn]; rw [hR, decide_eq_true hep, hb, decide_eq_true hv]; rfl
theorem stepB_next {q k : Kn} (hR : rightE k.nm k.ver k.key = true) (hep : 1 ≤ k.ep) (hn : q.nm = k.nm) (hv : k.ver = i64w (q.ver + 1)) (he : q.ep < k.ep) : stepB (some q) k = true := by
  unfold stepB; simp only [if_pos hn]; rw [hR, decide_eq_true hep, decide_eq_true hv, decide_eq_true he]; rfl
end Go.Proofs.YtmjokdhhniblgaaGreat
/-
  The reference's Right.
-/
namespace Go.Proofs.YtmjokdhhniblgaaGreat
set_option linter.unusedVariables false
set_option linter.unusedSimpArgs false
open Go.RowKit Pl
set_option maxRecDepth 100000
set_option maxHeartbeats 3200000
end Go.Proofs.YtmjokdhhniblgaaGreat
/-
  The directory's plain law: what the program's Add makes of a sorted directory is what the reference's makes of it.
-/
namespace Go.Proofs.YtmjokdhhniblgaaGreat
set_option linter.unusedVariables false
set_option linter.unusedSimpArgs false
open Go.RowKit Pl
theorem lessK_iff {k : Kn} {e : En} : lessK k e = true ↔ ltN k.nm k.ver e.nm e.ver := by
  unfold lessK ltN
  simp only [Bool.or_eq_true, Bool.and_eq_true, decide_eq_true_eq]
theorem insP_eq {out : List Kn} (hs : SrtK out) (e : En) (ep : Int) : insP out e ep = insK e ep out := by
  obtain ⟨c1, c2, c3⟩ := bsI_cut hs e.nm e.ver
  obtain ⟨h1, h2⟩ := while_at (p := (lessK · e)) c1 (fun j hj hjk => lessK_iff.2 (c2 j hj hjk)) (fun hk => by
    have := c3 _ hk (Nat.le_refl _)
    rw [← lessK_iff] at this
    simpa using this)
  unfold insP insK
  rw [h1, h2]
theorem latStep_other {nm : List UInt8} {q : Kn × Bool} {k : Kn} (h : ¬ k.nm = nm) : latStep nm q k = q := by
  unfold latStep; rw [if_neg (fun x => h x.1)]
theorem latR_insK {e : En} {ep : Int} {out : List Kn} {nm : List UInt8} (h : ¬ e.nm = nm) : latR (insK e ep out) nm = latR out nm := by
  have e1 : out = out.takeWhile (lessK · e) ++ out.dropWhile (lessK · e) := (List.takeWhile_append_dropWhile).symm
  unfold latR insK
  rw [List.foldl_append, List.foldl_cons, latStep_other h, ← List.foldl_append, ← e1]
theorem latR_insK_same {e : En} {ep : Int} {out : List Kn} (h : ∀ k ∈ out, k.nm = e.nm → k.ver < e.ver) : (latR (insK e ep out) e.nm).1.ep = ep := by
  have hm := (mem_insK' (e := e) (ep := ep) (l := out)).1
  have h1 := latR_in hm rfl
  have h2 := latR_le hm rfl
  rcases mem_insK h1.1 with q | q
  · rw [q]
  · exact absurd (h _ q h1.2) (by simpa using h2)
theorem latR_ep {l : List Kn} {ep : Int} (hep : 1 ≤ ep) (hl : ∀ k ∈ l, k.ep < ep) (nm : List UInt8) : (latR l nm).1.ep < ep := by
  rcases latR_mem l nm with q | q
  · rw [q]; show (0 : Int) < ep; omega
  · exact hl _ q
theorem okP_iff {out : List Kn} {e : En} {ep : Int} (hs : SrtK out) (hv : ∀ k ∈ out, k.ver < 1073741825) : okP out e ep = true ↔ ¬ (latR out e.nm).1.ep = ep ∧ rightE e.nm e.ver e.key = true ∧ e.ver = i64w ((latR out e.nm).1.ver + 1) := by
  unfold okP
  rw [latP_eq hs hv]
  simp only [Bool.and_eq_true, Bool.not_eq_true', decide_eq_false_iff_not, decide_eq_true_eq]
theorem rightE_ver {n : List UInt8} {v k : Int} (h : rightE n v k = true) : 1 ≤ v ∧ v ≤ 1073741824 := by
  unfold rightE at h
  simp only [Bool.and_eq_true, decide_eq_true_eq] at h
  exact ⟨h.2.2.1, h.2.2.2.1⟩
theorem addPGo_eq {l : List Kn} {ep : Int} (hep : 1 ≤ ep) (hl : ∀ k ∈ l, k.ep < ep) : ∀ (r done : List En) (out : List Kn), SrtK out → (∀ k ∈ out, 1 ≤ k.ver ∧ k.ver < 1073741825) → (∀ nm, (∃ d ∈ done, d.nm = nm) → (latR out nm).1.ep = ep) → (∀ nm, (¬ ∃ d ∈ done, d.nm = nm) → latR out nm = latR l nm) → addPGo l ep r out = addGo l ep done r out
  | [], done, out, _, _, _, _ => rfl
  | e :: r, done, out, hs, hv, h1, h2 => by
    have hiff : okP out e ep = true ↔ (rightE e.nm e.ver e.key = true ∧ e.ver = i64w ((latR l e.nm).1.ver + 1) ∧ (∀ d ∈ done, ¬ d.nm = e.nm)) := by
      rw [okP_iff hs (fun k hk => (hv k hk).2)]
      by_cases hd : ∃ d ∈ done, d.nm = e.nm
      · refine ⟨fun q => absurd (h1 _ hd) q.1, fun q => ?_⟩
        obtain ⟨d, q1, q2⟩ := hd
        exact absurd q2 (q.2.2 d q1)
      · have e2 := h2 _ hd
        rw [e2]
        have := latR_ep hep hl e.nm
        exact ⟨fun q => ⟨q.2.1, q.2.2, fun d q1 q2 => hd ⟨d, q1, q2⟩⟩, fun q => ⟨by omega, q.1, q.2.1⟩⟩
    by_cases hok : okP out e ep = true
    · obtain ⟨r1, r2, r3⟩ := hiff.1 hok
      simp only [addPGo, addGo, if_pos hok, if_pos (hiff.1 hok)]
      rw [insP_eq hs]
      have hnd : ¬ ∃ d ∈ done, d.nm = e.nm := fun ⟨d, q1, q2⟩ => r3 d q1 q2
      have e2 := h2 _ hnd
      have hlt : ∀ k ∈ out, k.nm = e.nm → k.ver < e.ver := fun k hk hn => by
        have q1 := latR_le hk hn
        have q2 := latR_in hk hn
        have q3 := hv _ q2.1
        rw [e2] at q1 q3
        rw [r2, i64w_small (by omega) (by omega)]
        omega
      have hve := rightE_ver r1
      refine addPGo_eq hep hl r (done ++ [e]) (insK e ep out) (srt_insK hs fun k hk q => ?_) (fun k hk => ?_) (fun nm hnm => ?_) (fun nm hnm => ?_)
      · have := hlt k hk q.1
        omega
      · rcases mem_insK hk with q | q
        · rw [q]; exact ⟨hve.1, by show e.ver < 1073741825; omega⟩
        · exact hv k q
      · by_cases hne : e.nm = nm
        · subst hne; exact latR_insK_same hlt
        · rw [latR_insK hne]
          obtain ⟨d, q1, q2⟩ := hnm
          rcases List.mem_append.1 q1 with q | q
          · exact h1 nm ⟨d, q, q2⟩
          · rw [List.mem_singleton] at q; subst q; exact absurd q2 hne
      · have hne : ¬ e.nm = nm := fun q => hnm ⟨e, by simp, q⟩
        rw [latR_insK hne]
        exact h2 nm (fun ⟨d, q1, q2⟩ => hnm ⟨d, List.mem_append_left _ q1, q2⟩)
    · simp only [addPGo, addGo, if_neg hok, if_neg (fun q => hok (hiff.2 q))]
theorem idxE_iff {ep : Int} {l : List Kn} : 0 ≤ idxE ep l ↔ ∃ k ∈ l, ep ≤ k.ep := by
  have h := fsK_lt (p := fun k : Kn => decide (ep ≤ k.ep)) (l := l)
  simp only [decide_eq_true_eq] at h
  rw [← h]
  unfold idxE
  split
  · rename_i q; exact ⟨fun _ => q, fun _ => Int.natCast_nonneg _⟩
  · rename_i q; exact ⟨fun x => absurd x (by omega), fun x => absurd x q⟩
/-- The program's Add is the reference's. -/
theorem addP_eq {l : List Kn} (hs : SrtK l) (hv : ∀ k ∈ l, 1 ≤ k.ver ∧ k.ver < 1073741825) (ep : Int) (b : List En) : addP l ep b = addR l ep b := by
  unfold addP addR
  by_cases h : ep < 1 ∨ ∃ k ∈ l, ep ≤ k.ep
  · rw [if_pos h, if_pos (h.imp id idxE_iff.2)]
  · rw [if_neg h, if_neg (fun q => h (q.imp id idxE_iff.1))]
    have hep : 1 ≤ ep := by have : ¬ ep < 1 := fun q => h (.inl q); omega
    exact addPGo_eq hep (fun k hk => by have : ¬ ep ≤ k.ep := fun q => h (.inr ⟨k, hk, q⟩); omega) b [] l hs hv (fun nm ⟨d, q, _⟩ => by cases q) (fun nm _ => rfl)
end Go.Proofs.YtmjokdhhniblgaaGreat

