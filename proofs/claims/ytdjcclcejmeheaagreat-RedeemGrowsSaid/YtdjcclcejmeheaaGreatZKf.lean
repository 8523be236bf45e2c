import Derived.Test.YtdjcclcejmeheaaGreatZGr
import Derived.Test.YtdjcclcejmeheaaGreatZEv
/-
  A leaf in a log, of both sides.
-/
namespace Go.Proofs.YtdjcclcejmeheaaGreat
set_option linter.unusedVariables false
set_option linter.unusedSimpArgs false
open Go.RowKit Pl
set_option maxRecDepth 100000
set_option maxHeartbeats 3200000
theorem climb_step (N : Nat) (ih : ∀ (n i : Nat) (x : H) (p : List H), n < N → 1 ≤ n → n ≤ 1073741825 → i < n → p.length ≤ 1048576 → PC Tryz.prog 106 [.v (.int .i64 ((n : Nat) : Int)), .v (.int .i64 ((i : Nat) : Int)), .ag (hdv (x)), slT hdv 32 (p)] (.tp [.ag (hdv ((climbF (n) (i) x (p)).1)), slT hdv 32 ((climbF (n) (i) x (p)).2.1), .v (.bool (climbF (n) (i) x (p)).2.2)])) (n i : Nat) (x : H) (p : List H) (hN : n ≤ N) (h1 : 1 ≤ n) (hb : n ≤ 1073741825) (hi : i < n) (hp : p.length ≤ 1048576) : PC Tryz.prog 106 [.v (.int .i64 ((n : Nat) : Int)), .v (.int .i64 ((i : Nat) : Int)), .ag (hdv (x)), slT hdv 32 (p)] (.tp [.ag (hdv ((climbF (n) (i) x (p)).1)), slT hdv 32 ((climbF (n) (i) x (p)).2.1), .v (.bool (climbF (n) (i) x (p)).2.2)]) := by
 refine PC.enter (fn := Tryz.f106) Tryz.func106 rfl Tryz.ntmps106 rfl (fun w0 K0 => .w ?_)
 refine .g 4 1 rfl ?_
 refine TE.frzb 6 rfl rfl rfl rfl ?_
 refine .t 1 3 rfl rfl (.cf (split_pf n hb) rfl) ?_
 refine .q 3 3 rfl rfl (fun h1 => ?_) (fun h1 => ?_)
 ·skip
  have hz : splitN n = 0 := by have q := of_decide_eq_true h1; (try dsimp only at q); omega
  have h2 : n < 2 := (Nat.lt_or_ge n 2).elim id (fun z => by have := (splitN_two z).1; omega)
  refine .t 0 3 rfl rfl (.lm (hdv x) rfl) ?_
  rw [climbF_one h2]
  exact .z 4 3 rfl (TE.rettc rfl rfl rfl)
 ·skip
  have hz : ¬ splitN n = 0 := by have q := of_decide_eq_false h1; (try dsimp only at q); omega
  have h2 : 2 ≤ n := (Nat.lt_or_ge n 2).elim (fun z => absurd (splitN_lt z) hz) id
  have hs := splitN_two h2
  by_cases hk : i < splitN n
  ·skip
   obtain ⟨h, q, b, hc⟩ : ∃ h q b, climbF (splitN n) (i) x p = (h, q, b) := ⟨_, _, _, rfl⟩
   have hql : q.length ≤ 1048576 := by have z := climbF_len (splitN n) (splitN n) (i) x p; rw [show clF (splitN n) (splitN n) (i) x p = climbF (splitN n) (i) x p from rfl, hc] at z; exact Nat.le_trans z hp
   have c1 := ih (splitN n) (i) x p (by omega) (by omega) (by omega) (by omega) hp
   rw [hc] at c1
   dsimp only at c1
   rw [climbF_left h2 hk, hc]
   refine .t 2 3 rfl rfl (.bv (.bool true) rfl (congrArg Value.bool (decide_eq_true (by omega)))) ?_
   refine .t 1 3 rfl rfl (.bd (hdv zeroH) rfl) ?_
   refine .g 5 3 rfl ?_
   refine TE.obj 3 (.box 41 (hdv zeroH)) rfl rfl ?_
   refine .t 4 4 rfl rfl (.lm (hdv x) rfl) ?_
   refine .t 1 4 rfl rfl (.cc (c1) rfl) ?_
   refine .g 7 4 rfl ?_
   refine TE.obj 3 (.box 41 (hdv h)) rfl rfl ?_
   cases b with
   | true =>
    by_cases hq : q.length = 0
    ·skip
     rw [show cStep true (h, q, true) = (zeroH, [], false) by rw [List.eq_nil_of_length_eq_zero hq]; rfl]
     refine .t 5 4 rfl rfl (.bv (.bool true) rfl (congrArg Value.bool (decide_eq_true (by omega)))) ?_
     refine .t 3 4 rfl rfl (.bd (hdv zeroH) rfl) ?_
     refine .g 3 4 rfl ?_
     refine TE.sub 9 (slT hdv 32 ([])) rfl rfl (nil_sub _ _) ?_
     exact .z 0 4 rfl (TE.rettc rfl rfl rfl)
    ·skip
     obtain ⟨y, r, hqr⟩ : ∃ y r, q = y :: r := by cases q with | nil => exact absurd rfl hq | cons y r => exact ⟨y, r, rfl⟩
     subst hqr
     rw [cStep_left]
     refine .t 5 4 rfl rfl (.bv (.bool false) rfl (congrArg Value.bool (decide_eq_false (by omega)))) ?_
     refine .d 6 4 rfl ?_
     refine .v 0 4 [3] rfl rfl (fun _ _ => .lp (hdv h) rfl) ?_
     refine .v 1 4 [] rfl rfl (fun _ _ => .idx (y) rfl rfl rfl rfl et52 (fun _ => rfl) (by decide) rfl) ?_
     refine .v 0 4 [] rfl rfl (fun _ _ => .lm (hdv y) rfl) ?_
     refine .v 0 4 [] rfl rfl (fun _ _ => .cf (lnode_pf h y) rfl) ?_
     refine .v 1 4 [] rfl rfl (fun _ _ => .slice rfl rfl rfl rfl rfl et52 (fun _ => rfl) (by decide) (by simp only [List.length_cons]; omega) (Int.le_refl _)) ?_
     refine .y 3 4 rfl (by kernel_rfl) ?_
     refine TE.sub 9 (slT hdv 32 r) rfl rfl (fun K w u h => by have e : (((y :: r).take ((y :: r).length : Int).toNat).drop (1 : Int).toNat) = r := (by simp); rw [← e]; exact h) ?_
     exact .z 0 4 rfl (TE.rettc rfl rfl rfl)
   | false =>
    rw [cStep_no]
    refine .t 9 4 rfl rfl (.bd (hdv zeroH) rfl) ?_
    refine .g 3 4 rfl ?_
    refine TE.sub 9 (slT hdv 32 ([])) rfl rfl (nil_sub _ _) ?_
    exact .z 0 4 rfl (TE.rettc rfl rfl rfl)
  ·skip
   obtain ⟨h, q, b, hc⟩ : ∃ h q b, climbF (n - splitN n) (i - splitN n) x p = (h, q, b) := ⟨_, _, _, rfl⟩
   have hql : q.length ≤ 1048576 := by have z := climbF_len (n - splitN n) (n - splitN n) (i - splitN n) x p; rw [show clF (n - splitN n) (n - splitN n) (i - splitN n) x p = climbF (n - splitN n) (i - splitN n) x p from rfl, hc] at z; exact Nat.le_trans z hp
   have c1 := ih (n - splitN n) (i - splitN n) x p (by omega) (by omega) (by omega) (by omega) hp
   rw [hc] at c1
   dsimp only at c1
   rw [climbF_right h2 hk, hc]
   refine .t 2 4 rfl rfl (.bv (.bool false) rfl (congrArg Value.bool (decide_eq_false (by omega)))) ?_
   refine .t 1 4 rfl rfl (.bd (hdv zeroH) rfl) ?_
   refine .g 5 4 rfl ?_
   refine TE.obj 4 (.box 41 (hdv zeroH)) rfl rfl ?_
   refine .t 4 5 rfl rfl (.bv (.int .i64 ((n - splitN n : Nat) : Int)) rfl (congrArg _ (by (try dsimp only); rw [IntKind.wrap_i64]; omega))) ?_
   refine .t 2 5 rfl rfl (.bv (.int .i64 ((i - splitN n : Nat) : Int)) rfl (congrArg _ (by (try dsimp only); rw [IntKind.wrap_i64]; omega))) ?_
   refine .t 0 5 rfl rfl (.lm (hdv x) rfl) ?_
   refine .t 1 5 rfl rfl (.cc (c1) rfl) ?_
   refine .g 7 5 rfl ?_
   refine TE.obj 4 (.box 41 (hdv h)) rfl rfl ?_
   cases b with
   | true =>
    by_cases hq : q.length = 0
    ·skip
     rw [show cStep false (h, q, true) = (zeroH, [], false) by rw [List.eq_nil_of_length_eq_zero hq]; rfl]
     refine .t 5 5 rfl rfl (.bv (.bool true) rfl (congrArg Value.bool (decide_eq_true (by omega)))) ?_
     refine .t 3 5 rfl rfl (.bd (hdv zeroH) rfl) ?_
     refine .g 3 5 rfl ?_
     refine TE.sub 9 (slT hdv 32 ([])) rfl rfl (nil_sub _ _) ?_
     exact .z 0 5 rfl (TE.rettc rfl rfl rfl)
    ·skip
     obtain ⟨y, r, hqr⟩ : ∃ y r, q = y :: r := by cases q with | nil => exact absurd rfl hq | cons y r => exact ⟨y, r, rfl⟩
     subst hqr
     rw [cStep_right]
     refine .t 5 5 rfl rfl (.bv (.bool false) rfl (congrArg Value.bool (decide_eq_false (by omega)))) ?_
     refine .d 6 5 rfl ?_
     refine .v 1 5 [] rfl rfl (fun _ _ => .idx (y) rfl rfl rfl rfl et52 (fun _ => rfl) (by decide) rfl) ?_
     refine .v 0 5 [] rfl rfl (fun _ _ => .lm (hdv y) rfl) ?_
     refine .v 0 5 [4] rfl rfl (fun _ _ => .lp (hdv h) rfl) ?_
     refine .v 0 5 [] rfl rfl (fun _ _ => .cf (lnode_pf y h) rfl) ?_
     refine .v 1 5 [] rfl rfl (fun _ _ => .slice rfl rfl rfl rfl rfl et52 (fun _ => rfl) (by decide) (by simp only [List.length_cons]; omega) (Int.le_refl _)) ?_
     refine .y 3 5 rfl (by kernel_rfl) ?_
     refine TE.sub 9 (slT hdv 32 r) rfl rfl (fun K w u h => by have e : (((y :: r).take ((y :: r).length : Int).toNat).drop (1 : Int).toNat) = r := (by simp); rw [← e]; exact h) ?_
     exact .z 0 5 rfl (TE.rettc rfl rfl rfl)
   | false =>
    rw [cStep_no]
    refine .t 9 5 rfl rfl (.bd (hdv zeroH) rfl) ?_
    refine .g 3 5 rfl ?_
    refine TE.sub 9 (slT hdv 32 ([])) rfl rfl (nil_sub _ _) ?_
    exact .z 0 5 rfl (TE.rettc rfl rfl rfl)
theorem climb_all (N : Nat) : ∀ (n i : Nat) (x : H) (p : List H), n ≤ N → 1 ≤ n → n ≤ 1073741825 → i < n → p.length ≤ 1048576 → PC Tryz.prog 106 [.v (.int .i64 ((n : Nat) : Int)), .v (.int .i64 ((i : Nat) : Int)), .ag (hdv (x)), slT hdv 32 (p)] (.tp [.ag (hdv ((climbF (n) (i) x (p)).1)), slT hdv 32 ((climbF (n) (i) x (p)).2.1), .v (.bool (climbF (n) (i) x (p)).2.2)]) := by
  induction N with
  | zero => exact climb_step 0 (fun n i x p h => absurd h (Nat.not_lt_zero _))
  | succ N ih => exact climb_step (N + 1) (fun n i x p h => ih n i x p (by omega))
theorem climb_pc (n i : Nat) (x : H) (p : List H) (hb : n ≤ 1073741825) (hi : i < n) (hp : p.length ≤ 1048576) : PC Tryz.prog 106 [.v (.int .i64 ((n : Nat) : Int)), .v (.int .i64 ((i : Nat) : Int)), .ag (hdv (x)), slT hdv 32 (p)] (.tp [.ag (hdv ((climbF (n) (i) x (p)).1)), slT hdv 32 ((climbF (n) (i) x (p)).2.1), .v (.bool (climbF (n) (i) x (p)).2.2)]) := climb_all n n i x p (Nat.le_refl _) (by omega) hb hi hp
theorem lchk_pf (root : H) (n i : Nat) (x : H) (p : List H) (hb : n ≤ 1073741825) (hi : i < n) (hp : p.length ≤ 1048576) : PF Tryz.prog 55 [.ag (hdv (root)), .v (.int .i64 ((n : Nat) : Int)), .v (.int .i64 ((i : Nat) : Int)), .ag (hdv (x)), slT hdv 32 (p)] (.v (.bool (inLog root n i x p))) := by
 have c1 := climb_pc n i x p hb hi hp
 obtain ⟨h, q, b, hc⟩ : ∃ h q b, climbF n i x p = (h, q, b) := ⟨_, _, _, rfl⟩
 have hql : q.length ≤ 1048576 := by have z := climbF_len n n i x p; rw [show clF n n i x p = climbF n i x p from rfl, hc] at z; exact Nat.le_trans z hp
 rw [hc] at c1
 dsimp only at c1
 refine PF.enter (fn := Tryz.f55) Tryz.func55 rfl Tryz.ntmps55 rfl (fun w0 => .w ?_)
 refine .g 3 1 rfl ?_
 refine TE.frzb 5 rfl rfl rfl rfl ?_
 refine TE.frzb 8 rfl rfl rfl rfl ?_
 refine .t 1 3 rfl rfl (.bv (.bool false) rfl (congrArg Value.bool (decide_eq_false (by omega)))) ?_
 refine .t 3 3 rfl rfl (.bv (.bool false) rfl (congrArg Value.bool (decide_eq_false (by omega)))) ?_
 refine .t 4 3 rfl rfl (.lm (hdv x) rfl) ?_
 refine .t 1 3 rfl rfl (.cc (c1) rfl) ?_
 refine .g 8 3 rfl ?_
 refine TE.obj 3 (.box 41 (hdv h)) rfl rfl ?_
 cases b with
 | true =>
  by_cases hq : q.length = 0
  ·skip
   refine .t 4 4 rfl rfl (.bv (.bool true) rfl (congrArg Value.bool (decide_eq_true (by omega)))) ?_
   refine .t 2 4 rfl rfl (.lp (hdv h) rfl) ?_
   refine .t 0 4 rfl rfl (.lm (hdv root) rfl) ?_
   refine .t 0 4 rfl rfl (.eqh (a := h) (b := root) rfl rfl rfl qh41) ?_
   rw [show inLog root n i x p = decide (H.l h = H.l root) by rw [inLog_climb hi, hc]; simp [hq]]
   exact .z 2 4 rfl (TE.retf rfl rfl rfl (okv rfl))
  ·skip
   refine .t 4 4 rfl rfl (.bv (.bool false) rfl (congrArg Value.bool (decide_eq_false (by omega)))) ?_
   rw [show inLog root n i x p = false by rw [inLog_climb hi, hc]; simp [hq]]
   exact .z 7 4 rfl (TE.retf rfl rfl rfl (okv rfl))
 | false =>
  rw [show inLog root n i x p = false by rw [inLog_climb hi, hc]; rfl]
  exact .z 12 4 rfl (TE.retf rfl rfl rfl (okv rfl))
theorem up_step (N : Nat) (ih : ∀ (n i : Nat) (x : H) (p : List H), n < N → 1 ≤ n → n ≤ 1073741825 → i < n → p.length ≤ 1048576 → PC Tryz.prog 108 [.v (.int .i64 ((n : Nat) : Int)), .v (.int .i64 ((i : Nat) : Int)), .ag (hdv (x)), slT hdv 32 (p)] (.tp [.ag (hdv ((upF (n) (i) x (p)).1)), .v (.bool (upF (n) (i) x (p)).2)])) (n i : Nat) (x : H) (p : List H) (hN : n ≤ N) (h1 : 1 ≤ n) (hb : n ≤ 1073741825) (hi : i < n) (hp : p.length ≤ 1048576) : PC Tryz.prog 108 [.v (.int .i64 ((n : Nat) : Int)), .v (.int .i64 ((i : Nat) : Int)), .ag (hdv (x)), slT hdv 32 (p)] (.tp [.ag (hdv ((upF (n) (i) x (p)).1)), .v (.bool (upF (n) (i) x (p)).2)]) := by
 refine PC.enter (fn := Tryz.f108) Tryz.func108 rfl Tryz.ntmps108 rfl (fun w0 K0 => .w ?_)
 refine .g 3 1 rfl ?_
 refine TE.frzb 6 rfl rfl rfl rfl ?_
 refine .q 2 3 rfl rfl (fun h1 => ?_) (fun h1 => ?_)
 ·skip
  have hn1 : n = 1 := by have q := of_decide_eq_true h1; (try dsimp only at q); omega
  refine .t 0 3 rfl rfl (.lm (hdv x) rfl) ?_
  refine .t 2 3 rfl rfl (.bv (.bool (decide (p.length = 0))) rfl (congrArg Value.bool (decide_eq_decide.2 (by omega)))) ?_
  rw [show upF n i x p = (x, decide (p.length = 0)) by rw [hn1]; exact upF_one]
  exact .z 2 3 rfl (TE.rettc rfl rfl rfl)
 ·skip
  have hn2 : 2 ≤ n := by have q := of_decide_eq_false h1; (try dsimp only at q); omega
  have hs := splitN_two hn2
  refine .q 3 3 rfl rfl (fun h2 => ?_) (fun h2 => ?_)
  ·skip
   have h0 : p.length = 0 := by have q := of_decide_eq_true h2; (try dsimp only at q); omega
   refine .t 0 3 rfl rfl (.bd (hdv zeroH) rfl) ?_
   rw [upF_nil hn2 h0]
   exact .z 2 3 rfl (TE.rettc rfl rfl rfl)
  ·skip
   have h0 : ¬ p.length = 0 := by have q := of_decide_eq_false h2; (try dsimp only at q); omega
   have hp0 : 0 < p.length := by omega
   refine .t 1 3 rfl rfl (.cf (rsplit_pf n hb) rfl) ?_
   refine .t 4 3 rfl rfl (.bv (.int .i64 ((p.length - 1 : Nat) : Int)) rfl (congrArg _ (by (try dsimp only); rw [IntKind.wrap_i64]; omega))) ?_
   refine .t 0 3 rfl rfl (.idx (lastD p) rfl rfl rfl rfl et52 (fun _ => rfl) (Int.natCast_nonneg _) (by rw [lastD_at hp0]; exact get_nat _)) ?_
   refine .t 0 3 rfl rfl (.lm (hdv (lastD p)) rfl) ?_
   refine .g 2 3 rfl ?_
   refine TE.obj 3 (.box 41 (hdv (lastD p))) rfl rfl ?_
   refine .q 3 4 rfl rfl (fun h3 => ?_) (fun h3 => ?_)
   ·skip
    have hk : i < splitN n := by have q := of_decide_eq_true h3; (try dsimp only at q); omega
    obtain ⟨h, b, hu⟩ : ∃ h b, upF (splitN n) (i) x (initD p) = (h, b) := ⟨_, _, rfl⟩
    have c1 := ih (splitN n) (i) x (initD p) (by omega) (by omega) (by omega) (by omega) (by rw [initD_len]; omega)
    rw [hu] at c1
    dsimp only at c1
    refine .d 0 4 rfl ?_
    refine .v 2 4 [] rfl rfl (fun _ _ => .lm (hdv x) rfl) ?_
    refine .v 3 4 [] rfl rfl (fun _ _ => .bv (.int .i64 ((p.length - 1 : Nat) : Int)) rfl (congrArg _ (by (try dsimp only); rw [IntKind.wrap_i64]; omega))) ?_
    refine .v 0 4 [] rfl rfl (fun _ _ => .slice rfl rfl rfl rfl rfl et52 (fun _ => rfl) (by omega) (by omega) (by omega)) ?_
    refine .v 0 4 [] rfl rfl (fun _ _ => .cc (c1) rfl) ?_
    refine .y 6 4 rfl (by kernel_rfl) ?_
    refine TE.obj 4 (.box 41 (hdv h)) rfl rfl ?_
    refine .t 0 5 rfl rfl (.lp (hdv h) rfl) ?_
    refine .t 0 5 rfl rfl (.lp (hdv (lastD p)) rfl) ?_
    refine .t 0 5 rfl rfl (.cf (rlnode_pf h (lastD p)) rfl) ?_
    rw [upF_left hn2 h0 hk, hu]
    exact .z 3 5 rfl (TE.rettc rfl rfl rfl)
   ·skip
    have hk : ¬ (i < splitN n) := by have q := of_decide_eq_false h3; (try dsimp only at q); omega
    obtain ⟨h, b, hu⟩ : ∃ h b, upF (n - splitN n) (i - splitN n) x (initD p) = (h, b) := ⟨_, _, rfl⟩
    have c1 := ih (n - splitN n) (i - splitN n) x (initD p) (by omega) (by omega) (by omega) (by omega) (by rw [initD_len]; omega)
    rw [hu] at c1
    dsimp only at c1
    refine .d 0 5 rfl ?_
    refine .v 2 5 [] rfl rfl (fun _ _ => .bv (.int .i64 ((n - splitN n : Nat) : Int)) rfl (congrArg _ (by (try dsimp only); rw [IntKind.wrap_i64]; omega))) ?_
    refine .v 2 5 [] rfl rfl (fun _ _ => .bv (.int .i64 ((i - splitN n : Nat) : Int)) rfl (congrArg _ (by (try dsimp only); rw [IntKind.wrap_i64]; omega))) ?_
    refine .v 0 5 [] rfl rfl (fun _ _ => .lm (hdv x) rfl) ?_
    refine .v 3 5 [] rfl rfl (fun _ _ => .bv (.int .i64 ((p.length - 1 : Nat) : Int)) rfl (congrArg _ (by (try dsimp only); rw [IntKind.wrap_i64]; omega))) ?_
    refine .v 0 5 [] rfl rfl (fun _ _ => .slice rfl rfl rfl rfl rfl et52 (fun _ => rfl) (by omega) (by omega) (by omega)) ?_
    refine .v 0 5 [] rfl rfl (fun _ _ => .cc (c1) rfl) ?_
    refine .y 6 5 rfl (by kernel_rfl) ?_
    refine TE.obj 5 (.box 41 (hdv h)) rfl rfl ?_
    refine .t 0 6 rfl rfl (.lp (hdv (lastD p)) rfl) ?_
    refine .t 0 6 rfl rfl (.lp (hdv h) rfl) ?_
    refine .t 0 6 rfl rfl (.cf (rlnode_pf (lastD p) h) rfl) ?_
    rw [upF_right hn2 h0 hk, hu]
    exact .z 3 6 rfl (TE.rettc rfl rfl rfl)
theorem up_all (N : Nat) : ∀ (n i : Nat) (x : H) (p : List H), n ≤ N → 1 ≤ n → n ≤ 1073741825 → i < n → p.length ≤ 1048576 → PC Tryz.prog 108 [.v (.int .i64 ((n : Nat) : Int)), .v (.int .i64 ((i : Nat) : Int)), .ag (hdv (x)), slT hdv 32 (p)] (.tp [.ag (hdv ((upF (n) (i) x (p)).1)), .v (.bool (upF (n) (i) x (p)).2)]) := by
  induction N with
  | zero => exact up_step 0 (fun n i x p h => absurd h (Nat.not_lt_zero _))
  | succ N ih => exact up_step (N + 1) (fun n i x p h => ih n i x p (by omega))
theorem up_pc (n i : Nat) (x : H) (p : List H) (hb : n ≤ 1073741825) (hi : i < n) (hp : p.length ≤ 1048576) : PC Tryz.prog 108 [.v (.int .i64 ((n : Nat) : Int)), .v (.int .i64 ((i : Nat) : Int)), .ag (hdv (x)), slT hdv 32 (p)] (.tp [.ag (hdv ((upF (n) (i) x (p)).1)), .v (.bool (upF (n) (i) x (p)).2)]) := up_all n n i x p (Nat.le_refl _) (by omega) hb hi hp
theorem rlchk_pf (root : H) (n i : Nat) (x : H) (p : List H) (hb : n ≤ 1073741825) (hi : i < n) (hp : p.length ≤ 1048576) : PF Tryz.prog 59 [.ag (hdv (root)), .v (.int .i64 ((n : Nat) : Int)), .v (.int .i64 ((i : Nat) : Int)), .ag (hdv (x)), slT hdv 32 (p)] (.v (.bool (inLog root n i x p))) := by
 have c1 := up_pc n i x p hb hi hp
 obtain ⟨h, b, hu⟩ : ∃ h b, upF n i x p = (h, b) := ⟨_, _, rfl⟩
 rw [hu] at c1
 dsimp only at c1
 refine PF.enter (fn := Tryz.f59) Tryz.func59 rfl Tryz.ntmps59 rfl (fun w0 => .w ?_)
 refine .g 3 1 rfl ?_
 refine TE.frzb 5 rfl rfl rfl rfl ?_
 refine TE.frzb 8 rfl rfl rfl rfl ?_
 refine .t 1 3 rfl rfl (.bv (.bool false) rfl (congrArg Value.bool (decide_eq_false (by omega)))) ?_
 refine .t 3 3 rfl rfl (.bv (.bool false) rfl (congrArg Value.bool (decide_eq_false (by omega)))) ?_
 refine .t 4 3 rfl rfl (.lm (hdv x) rfl) ?_
 refine .t 1 3 rfl rfl (.cc (c1) rfl) ?_
 refine .g 6 3 rfl ?_
 refine TE.obj 3 (.box 41 (hdv h)) rfl rfl ?_
 cases b with
 | true =>
  refine .t 2 4 rfl rfl (.lp (hdv h) rfl) ?_
  refine .t 0 4 rfl rfl (.lm (hdv root) rfl) ?_
  refine .t 0 4 rfl rfl (.eqh (a := h) (b := root) rfl rfl rfl qh41) ?_
  rw [show inLog root n i x p = decide (H.l h = H.l root) by unfold inLog; rw [hu]; rfl]
  exact .z 2 4 rfl (TE.retf rfl rfl rfl (okv rfl))
 | false =>
  rw [show inLog root n i x p = false by unfold inLog; rw [hu]; rfl]
  exact .z 7 4 rfl (TE.retf rfl rfl rfl (okv rfl))
end Go.Proofs.YtdjcclcejmeheaaGreat

