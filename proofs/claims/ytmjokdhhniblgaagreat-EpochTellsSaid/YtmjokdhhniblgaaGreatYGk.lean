import Derived.Test.YtmjokdhhniblgaaGreatYHx
import Derived.Test.YtmjokdhhniblgaaGreatYGj
/-
  EpochTells: bent epochs, what Build and Check come to is what can be compared.
-/
namespace Go.Proofs.YtmjokdhhniblgaaGreat
set_option linter.unusedVariables false
set_option linter.unusedSimpArgs false
open Go.RowKit Pl
set_option maxRecDepth 100000
def ell (l : List En) : List DV := [slT En.dv 3 l]
def idv (n : Int) : List DV := [.v (.int .i64 n)]
theorem flat_part {α : Type} {enc : α → List DV} {sz : Nat} (h : ∀ x, (enc x).length = sz) {k : Nat} {d : List DV} (hk : k + d.length ≤ sz) : ∀ (xs : List α) (i : Nat) (v : α) (hi : i < xs.length), enc v = Pl.splice (enc xs[i]) k d → Pl.splice (xs.flatMap enc) (i * sz + k) d = (xs.set i v).flatMap enc
  | x :: r, 0, v, hi, e => by
    rw [Nat.zero_mul, Nat.zero_add, List.set_cons_zero, List.flatMap_cons, List.flatMap_cons, e]
    unfold Pl.splice
    show _ = (List.take k (enc x) ++ d ++ List.drop (k + d.length) (enc x)) ++ _
    rw [List.take_append_of_le_length (by rw [h]; omega), List.drop_append_of_le_length (by rw [h]; omega)]
    simp only [List.append_assoc]
  | x :: r, i + 1, v, hi, e => by
    have ih := flat_part h hk r i v (by simpa using hi) (by simpa using e)
    rw [List.set_cons_succ, List.flatMap_cons, List.flatMap_cons, ← ih]
    unfold Pl.splice
    have hx := h x
    rw [show (i + 1) * sz + k = (enc x).length + (i * sz + k) by rw [hx, Nat.succ_mul]; omega, List.take_length_add_append, Nat.add_assoc, List.drop_length_add_append]
    simp only [List.append_assoc]
def swapE : List En → List En
  | x0 :: x1 :: r => x1 :: x0 :: r
  | l => l
theorem swapE_len (l : List En) : (swapE l).length = l.length := by
  unfold swapE; split <;> rfl
theorem swapE_short {l : List En} (h : ¬ 1 < l.length) : swapE l = l := by
  match l, h with
  | [], _ => rfl
  | [_], _ => rfl
  | _ :: _ :: _, h => exact absurd (by simp) h
def keyE1 (l : List En) (i : Nat) : List En := if h : i < l.length then l.set i { l[i] with key := IntKind.u64.wrap (l[i].key + 1) } else l
theorem keyE1_len (l : List En) (i : Nat) : (keyE1 l i).length = l.length := by unfold keyE1; split <;> simp
theorem keyE1_flat {l : List En} {i : Nat} (h : i < l.length) : Pl.splice (l.flatMap En.dv) (i * 3 + 2) [.v (.int .u64 (IntKind.u64.wrap (l[i].key + 1)))] = (keyE1 l i).flatMap En.dv := by
  unfold keyE1; rw [dif_pos h]
  exact flat_part (sz := 3) en_len (show 2 + 1 ≤ 3 by decide) l i _ h rfl
def bentHd (q h : Hd) (w a : UInt8) (tk : Int) : Hd := if w.toNat % 8 = 0 then { q with root := h.root } else if w.toNat % 8 = 1 then { q with log := h.log } else if w.toNat % 8 = 2 then { q with tk := tk } else if w.toNat % 8 = 3 then { q with ep := IntKind.i64.wrap (q.ep + (((a.toNat % 3 : Nat) : Int) - 1)) } else if w.toNat % 8 = 4 then q else if w.toNat % 8 = 5 then q else if w.toNat % 8 = 6 then { q with r := h.r, s := h.s } else h
def bentEs (l : List En) (w a : UInt8) : List En := if w.toNat % 8 = 4 then keyE1 l (a.toNat % l.length) else if w.toNat % 8 = 5 then swapE l else l
def bentW (Q : Pub) (h : Hd) (w a : UInt8) (tk : Int) : Pub := ⟨bentHd Q.hd h w a tk, bentEs Q.es w a⟩
theorem bentW_fit {Q : Pub} {h : Hd} (f : hdFit Q.hd) (g : hdFit h) {tk : Int} (ht : -9223372036854775808 ≤ tk ∧ tk < 9223372036854775808) (w a : UInt8) : hdFit (bentW Q h w a tk).hd := by
  obtain ⟨f1, f2, f3, f4, f5⟩ := f
  show hdFit (bentHd Q.hd h w a tk)
  unfold bentHd
  have he : -9223372036854775808 ≤ IntKind.i64.wrap (Q.hd.ep + (((a.toNat % 3 : Nat) : Int) - 1)) ∧ IntKind.i64.wrap (Q.hd.ep + (((a.toNat % 3 : Nat) : Int) - 1)) < 9223372036854775808 := by rw [IntKind.wrap_i64]; omega
  (repeat' split) <;> first | exact ⟨f1, f2, f3, f4, f5⟩ | exact ⟨f1, ht, f3, f4, f5⟩ | exact ⟨he, f2, f3, f4, f5⟩ | exact ⟨f1, f2, f3, g.2.2.2⟩ | exact g
theorem bentW_len (Q : Pub) (h : Hd) (w a : UInt8) (tk : Int) : (bentW Q h w a tk).es.length = Q.es.length := by
  show (bentEs Q.es w a).length = _
  unfold bentEs; (repeat' split) <;> first | exact keyE1_len _ _ | exact swapE_len _ | rfl
theorem bb_ok {s : Eps} {n : Nat} (si : EpsIn s n) (hn : n ≤ 1000) {x : Int} {b : List En} {tk : Int} (hb : b.length ≤ 1000) {R : Pub × List Kn × Int} (hR : R = buildB x s.kn s.hs b tk) : hdFit R.1.hd ∧ R.1.es.length ≤ 1000 ∧ (∀ e ∈ R.1.es, enFit e) ∧ R.2.1.length ≤ 1048577 ∧ ∀ k ∈ R.2.1, knFit k := by
  have h1 := si.hsl; have h2 := si.knl
  unfold buildB at hR
  split at hR
  · subst hR; exact ⟨zp_fit, by show (0 : Nat) ≤ 1000; decide, (fun e he => by cases he), by show (0 : Nat) ≤ 1048577; decide, (fun e he => by cases he)⟩
  · rename_i hq
    have hg := (Bool.not_eq_true _).mp hq
    subst hR
    refine ⟨fit_sign x (headN_fit hg (by omega)), by show (byN b).length ≤ 1000; rw [byN_len]; exact hb, byN_fit (bad_fit hg), ?_, ?_⟩
    · show (addR _ _ _).1.length ≤ _
      have := addR_len s.kn ((s.hs.length + 1 : Nat) : Int) b; omega
    · exact kn_fit (kn_chain si.chain _ _) (kn_epfit si.fit (by omega) _)
theorem cv_ok {s : Eps} {n : Nat} (si : EpsIn s n) (hn : n ≤ 1000) {y : Int} {p : Pub} (hb : p.es.length ≤ 1000) {R : List Kn × Bool} (hR : R = checkV y s.kn s.hs p) : R.1.length ≤ 1048577 ∧ ∀ k ∈ R.1, knFit k := by
  have h1 := si.hsl; have h2 := si.knl
  by_cases q : okC y s.kn s.hs p
  · rw [checkV_yes q] at hR; subst hR
    refine ⟨?_, kn_fit (kn_chain si.chain _ _) (kn_epfit si.fit (by omega) _)⟩
    show (addR _ _ _).1.length ≤ _
    have := addR_len s.kn ((s.hs.length + 1 : Nat) : Int) p.es; omega
  · rw [checkV_no q] at hR; subst hR
    exact ⟨by show (0 : Nat) ≤ 1048577; decide, fun e he => by cases he⟩
end Go.Proofs.YtmjokdhhniblgaaGreat

