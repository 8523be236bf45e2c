/-
  HeadTells: what is known of a head, the seat's heads: the plain values.
-/
import Derived.Test.YteapoemockimfaaZGd
namespace Go.Proofs.Yteapoemockimfaa
set_option linter.unusedVariables false
set_option linter.unusedSimpArgs false
open Go.RowKit Pl
set_option maxRecDepth 100000
def h0 : Hd := ⟨1, 3, 2, zeroH, zeroH, 0, 0⟩
theorem fpf (a n v : Nat) (hn : n < 2 ^ 64) (h : Ferm.fast 2305843009213693951 64 a n 1 % 2305843009213693951 = v) : fpow a n 2305843009213693951 = v := by
  rw [fpow_fast a n 2305843009213693951 2305843009213693951 rfl hn, h]
theorem kk : signK 5 (msgB h0) = 2256388873466879314 := by decide +kernel
theorem kr : sigR 5 (msgB h0) = 2252218261899658469 := by
  unfold sigR; rw [kk]
  exact fpf 7 2256388873466879314 2252218261899658469 (by decide) (by decide +kernel)
theorem kp5 : pubF 5 = 16807 := by decide +kernel
theorem kp6 : pubF 6 = 117649 := by decide +kernel
theorem ke5 : chalF 2252218261899658469 16807 (msgB h0) = 1462272069247183120 := by decide +kernel
theorem ke6 : chalF 2252218261899658469 117649 (msgB h0) = 2261443362600740819 := by decide +kernel
theorem ks : sigS 5 (msgB h0) = 344377182848019114 := by
  unfold sigS sigE; rw [kk, kr, kp5, ke5]; decide +kernel
theorem kc6 : checkF (pubF 6) (msgB h0) (sigR 5 (msgB h0)) (sigS 5 (msgB h0)) = false := by
  have h1 : fpow 7 344377182848019114 2305843009213693951 = 1505424515242483122 := fpf 7 344377182848019114 1505424515242483122 (by decide) (by decide +kernel)
  have h2 : fpow 117649 2261443362600740819 2305843009213693951 = 404980096365582192 := fpf 117649 2261443362600740819 404980096365582192 (by decide) (by decide +kernel)
  unfold checkF sameF
  rw [kp6, kr, ks, ke6, h1, h2]
  decide +kernel
theorem h0_right : rightH (signH 5 h0) = true := by decide +kernel
theorem h0_fit : hdFit (signH 5 h0) := right_fit h0_right (signH_ok _ _)
theorem h0_five : checkH (pubF 5) (signH 5 h0) = true := check_own' ⟨by decide, by decide⟩ (show rightH h0 = true by decide +kernel)
theorem right_sign (x : Int) (h : Hd) : rightH (signH x h) = rightH h := rfl
theorem checkH_sig (x y : Int) {h : Hd} (r : rightH h = true) : checkH y (signH x h) = checkF y (msgB h) (sigR (x % 2305843009213693950) (msgB h)) (sigS (x % 2305843009213693950) (msgB h)) := by
  rw [checkH_yes (by rw [right_sign]; exact r)]; rfl
theorem h0_six : checkH (pubF 6) (signH 5 h0) = false := by
  rw [checkH_sig 5 (pubF 6) (show rightH h0 = true by decide +kernel), show (5 : Int) % 2305843009213693950 = 5 from by decide]
  exact kc6
/-- The seat's head. -/
def seatH (l : List UInt8) (k : UInt8) (x : H) : Hd := if h : 0 < (epsR 5 l).hs.length then (epsR 5 l).hs[k.toNat % (epsR 5 l).hs.length]'(Nat.mod_lt _ h) else signH 5 ⟨((k.toNat + 1 : Nat) : Int), ((k.toNat * 3 : Nat) : Int), ((k.toNat % 8 + 1 : Nat) : Int), x, zeroH, 0, 0⟩
theorem badN_no {kn : List Kn} {hs : List Hd} {b : List En} {tk : Int} (h : badN kn hs b tk = false) : (addR kn ((hs.length + 1 : Nat) : Int) b).2 = true ∧ 1 ≤ b.length ∧ b.length ≤ 8 ∧ 0 ≤ tk ∧ tk ≤ 1152921504606846976 ∧ (0 < hs.length → (hs.getLastD zeroHd).tk ≤ tk) := by
  unfold badN at h
  simp only [Bool.or_eq_false_iff, Bool.not_eq_false', decide_eq_false_iff_not, Bool.and_eq_false_iff] at h
  obtain ⟨h1, h2, h3, h4, h5, h6⟩ := h
  exact ⟨h1, by omega, by omega, by omega, by omega, fun hp => h6.elim (fun q => absurd q (by omega)) (fun q => by omega)⟩
theorem headN_right {kn : List Kn} {hs : List Hd} {b : List En} {tk : Int} (h : badN kn hs b tk = false) (hl : hs.length ≤ 1000000) : rightH (headN kn hs b tk) = true := by
  obtain ⟨_, h2, h3, h4, h5, _⟩ := badN_no h
  unfold rightH headN
  simp only [decide_eq_true_eq]
  omega
theorem epsR_right (x : Int) (l : List UInt8) (hl : l.length ≤ 1000) : ∀ h ∈ (epsR x l).hs, rightH h = true ∧ h.ok := by
  have : ∀ (k : Nat), k ≤ l.length → ∀ h ∈ (epsR x (l.take k)).hs, rightH h = true ∧ h.ok := fun k => by
    induction k with
    | zero => intro _ h hh; cases hh
    | succ k ih =>
      intro hk h hh
      have hok := epsR_ok x (l.take k)
      have h1 := hok.hs
      rw [List.length_take, Nat.min_eq_left (by omega)] at h1
      rw [epsR_snoc x (by omega : k < l.length)] at hh
      unfold epS at hh
      split at hh
      · exact ih (by omega) h hh
      · rename_i hb
        rcases List.mem_append.1 hh with hh | hh
        · exact ih (by omega) h hh
        · rw [List.mem_singleton] at hh; subst hh
          have hb' := Bool.eq_false_iff.2 hb
          have hr := headN_right hb' (by omega)
          exact ⟨by rw [right_sign]; exact hr, signH_ok _ _⟩
  have := this l.length (Nat.le_refl _)
  rwa [List.take_length] at this
theorem seatH_fit {l : List UInt8} (hl : l.length ≤ 1000) (k : UInt8) (x : H) : hdFit (seatH l k x) := by
  have := k.toNat_lt
  unfold seatH
  split
  · have q := epsR_right 5 l hl _ (List.getElem_mem (Nat.mod_lt k.toNat (by assumption)))
    exact right_fit q.1 q.2
  · exact fit_sign 5 ⟨⟨by show _ ≤ ((k.toNat + 1 : Nat) : Int); omega, by show ((k.toNat + 1 : Nat) : Int) < _; omega⟩, ⟨by show _ ≤ ((k.toNat * 3 : Nat) : Int); omega, by show ((k.toNat * 3 : Nat) : Int) < _; omega⟩, ⟨by show _ ≤ ((k.toNat % 8 + 1 : Nat) : Int); omega, by show ((k.toNat % 8 + 1 : Nat) : Int) < _; omega⟩, ⟨by show (0 : Int) ≤ 0; decide, by show (0 : Int) < 18446744073709551616; decide⟩, ⟨by show (0 : Int) ≤ 0; decide, by show (0 : Int) < 18446744073709551616; decide⟩⟩
def andI (v : Int) : Int := IntKind.i64.wrap (BitVec.ofInt IntKind.i64.bits v &&& BitVec.ofInt IntKind.i64.bits 15).toNat
theorem andI_bd (v : Int) : -9223372036854775808 ≤ andI v ∧ andI v < 9223372036854775808 := by unfold andI; rw [IntKind.wrap_i64]; omega
def udv (n : Int) : List DV := [.v (.int .u64 n)]
end Go.Proofs.Yteapoemockimfaa

