import Derived.Test.YtmjokdhhniblgaaGreatYGd
import Derived.Test.YtmjokdhhniblgaaGreatYOq
import Derived.Test.YtmjokdhhniblgaaGreatYEv
/-
  HeadTells: what is known of a head, the seat's heads: the plain values.
-/
namespace Go.Proofs.YtmjokdhhniblgaaGreat
set_option linter.unusedVariables false
set_option linter.unusedSimpArgs false
open Go.RowKit Pl
set_option maxRecDepth 100000
def h0 : Hd := ⟨1, 3, 2, zeroH, zeroH, 0, 0⟩
theorem fpf (a n v : Nat) (hn : n < 2 ^ 64) (h : Ferm.fast 2305843009213693951 64 a n 1 % 2305843009213693951 = v) : fpow a n 2305843009213693951 = v := by
  rw [fpow_fast a n 2305843009213693951 2305843009213693951 rfl hn, h]
theorem kk : signK 5 (msgB h0) = 2256388873466879314 := by decide +kernel
theorem kr : sigR 5 (msgB h0) = 2252218261899658469 := by
  unfold sigR; rw [kk]
  exact fpf 7 2256388873466879314 2252218261899658469 (by decide) (by decide +kernel)
theorem kp5 : pubF 5 = 16807 := by decide +kernel
theorem ke5 : chalF 2252218261899658469 16807 (msgB h0) = 1462272069247183120 := by decide +kernel
theorem ks : sigS 5 (msgB h0) = 344377182848019114 := by
  unfold sigS sigE; rw [kk, kr, kp5, ke5]; decide +kernel
theorem right_sign (x : Int) (h : Hd) : rightH (signH x h) = rightH h := rfl
theorem badN_no {kn : List Kn} {hs : List Hd} {b : List En} {tk : Int} (h : badN kn hs b tk = false) : (addR kn ((hs.length + 1 : Nat) : Int) b).2 = true ∧ 1 ≤ b.length ∧ b.length ≤ 8 ∧ 0 ≤ tk ∧ tk ≤ 1152921504606846976 ∧ (0 < hs.length → (hs.getLastD zeroHd).tk ≤ tk) := by
  unfold badN at h
  simp only [Bool.or_eq_false_iff, Bool.not_eq_false', decide_eq_false_iff_not, Bool.and_eq_false_iff] at h
  obtain ⟨h1, h2, h3, h4, h5, h6⟩ := h
  exact ⟨h1, by omega, by omega, by omega, by omega, fun hp => h6.elim (fun q => absurd q (by omega)) (fun q => by omega)⟩
theorem headN_right {kn : List Kn} {hs : List Hd} {b : List En} {tk : Int} (h : badN kn hs b tk = false) (hl : hs.length ≤ 1000000) : rightH (headN kn hs b tk) = true := by
  obtain ⟨_, h2, h3, h4, h5, _⟩ := badN_no h
  unfold rightH headN
  simp only [decide_eq_true_eq]
  omega
theorem epsR_right (x : Int) (l : List UInt8) (hl : l.length ≤ 1000) : ∀ h ∈ (epsR x l).hs, rightH h = true ∧ h.ok := by
  have : ∀ (k : Nat), k ≤ l.length → ∀ h ∈ (epsR x (l.take k)).hs, rightH h = true ∧ h.ok := fun k => by
    induction k with
    | zero => intro _ h hh; cases hh
    | succ k ih =>
      intro hk h hh
      have hok := epsR_ok x (l.take k)
      have h1 := hok.hs
      rw [List.length_take, Nat.min_eq_left (by omega)] at h1
      rw [epsR_snoc x (by omega : k < l.length)] at hh
      unfold epS at hh
      split at hh
      · exact ih (by omega) h hh
      · rename_i hb
        rcases List.mem_append.1 hh with hh | hh
        · exact ih (by omega) h hh
        · rw [List.mem_singleton] at hh; subst hh
          have hb' := Bool.eq_false_iff.2 hb
          have hr := headN_right hb' (by omega)
          exact ⟨by rw [right_sign]; exact hr, signH_ok _ _⟩
  have := this l.length (Nat.le_refl _)
  rwa [List.take_length] at this
end Go.Proofs.YtmjokdhhniblgaaGreat
/-
  The program's Right.
-/
namespace Go.Proofs.YtmjokdhhniblgaaGreat
set_option linter.unusedVariables false
set_option linter.unusedSimpArgs false
open Go.RowKit Pl
set_option maxRecDepth 100000
set_option maxHeartbeats 3200000
/-- One step of a right directory. -/
def stepB (p : Option Kn) (k : Kn) : Bool := rightE k.nm k.ver k.key && (decide (1 ≤ k.ep) && (match p with
  | none => decide (k.ver = 1)
  | some q => if q.nm = k.nm then decide (k.ver = i64w (q.ver + 1)) && decide (q.ep < k.ep) else !(Op.bytesLess k.nm q.nm) && decide (k.ver = 1)))
theorem stepB_first {k : Kn} (hR : rightE k.nm k.ver k.key = true) (hep : 1 ≤ k.ep) (hv : k.ver = 1) : stepB none k = true := by
  unfold stepB; rw [hR, decide_eq_true hep, decide_eq_true hv]; rfl
theorem stepB_new {q k : Kn} (hR : rightE k.nm k.ver k.key = true) (hep : 1 ≤ k.ep) (hn : ¬ q.nm = k.nm) (hb : Op.bytesLess k.nm q.nm = false) (hv : k.ver = 1) : stepB (some q) k = true := by
  unfold stepB; simp only [if_neg hn]; rw [hR, decide_eq_true hep, hb, decide_eq_true hv]; rfl
theorem stepB_next {q k : Kn} (hR : rightE k.nm k.ver k.key = true) (hep : 1 ≤ k.ep) (hn : q.nm = k.nm) (hv : k.ver = i64w (q.ver + 1)) (he : q.ep < k.ep) : stepB (some q) k = true := by
  unfold stepB; simp only [if_pos hn]; rw [hR, decide_eq_true hep, decide_eq_true hv, decide_eq_true he]; rfl
end Go.Proofs.YtmjokdhhniblgaaGreat
/-
  The reference's Right.
-/
namespace Go.Proofs.YtmjokdhhniblgaaGreat
set_option linter.unusedVariables false
set_option linter.unusedSimpArgs false
open Go.RowKit Pl
set_option maxRecDepth 100000
set_option maxHeartbeats 3200000
end Go.Proofs.YtmjokdhhniblgaaGreat

