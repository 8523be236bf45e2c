import Derived.Test.YtdjcclcejmeheaaGreatZGc
import Derived.Test.YtdjcclcejmeheaaGreatZHl
import Derived.Test.YtdjcclcejmeheaaGreatZEv
import Derived.Test.YtdjcclcejmeheaaGreatZGb
/-
  Logs.
-/
namespace Go.Proofs.YtdjcclcejmeheaaGreat
set_option linter.unusedVariables false
set_option linter.unusedSimpArgs false
open Go.RowKit Pl
set_option maxRecDepth 100000
set_option maxHeartbeats 3200000
theorem et52 : elt Tryz.prog 52 = some (41, 32) := by kernel_rfl
theorem lnode_pf (a b : H) : PF Tryz.prog 105 [.ag (hdv (a)), .ag (hdv (b))] (.ag (hdv (lnode a b))) := by
 refine PF.enter (fn := Tryz.f105) Tryz.func105 rfl Tryz.ntmps105 rfl (fun w0 => .w ?_)
 refine .g 3 1 rfl ?_
 refine TE.frzb 2 rfl rfl rfl rfl ?_
 refine TE.frzb 3 rfl rfl rfl rfl ?_
 refine .d 0 4 rfl ?_
 refine .t 2 4 (E := ⟨some (7, _), [(4, _)]⟩) [4] rfl rfl (fun _ _ => .ba 4 rfl) ?_
 refine .v 0 5 [4] rfl rfl (fun _ _ => .cf (tag_pf 78 [H.l a, H.l b] (by decide) (by decide) (by simp [textLen, totalLen, H.l_len])) rfl) ?_
 refine .y 1 5 rfl (by kernel_rfl) ?_
 exact .z 0 5 rfl (TE.retf rfl rfl rfl (pl_ag (pl_h _)))
theorem lleaf_pf (b : List UInt8) (hb : b.length ≤ 1048576) : PF Tryz.prog 56 [slT bdv 1 b] (.ag (hdv (lleaf b))) := by
 refine PF.enter (fn := Tryz.f56) Tryz.func56 rfl Tryz.ntmps56 rfl (fun w0 => .w ?_)
 refine .t 2 1 rfl rfl (.ba 2 rfl) ?_
 refine .t 0 3 rfl rfl (.cf (tag_pf 76 [b] (by decide) (by decide) (by simp [textLen, totalLen]; omega)) rfl) ?_
 exact .z 1 3 rfl (TE.retf rfl rfl rfl (pl_ag (pl_h _)))
theorem rsplit_pf (n : Nat) (hn : n ≤ 1073741825) : PF Tryz.prog 51 [.v (.int .i64 ((n : Nat) : Int))] (.v (.int .i64 ((splitN n : Nat) : Int))) := by
 refine PF.enter (fn := Tryz.f51) Tryz.func51 rfl Tryz.ntmps51 rfl (fun w0 => .w ?_)
 refine .q 3 1 rfl rfl (fun h1 => ?_) (fun h1 => ?_)
 ·skip
  have h2 : n < 2 := by have q := of_decide_eq_true h1; (try dsimp only at q); omega
  have e : splitN n = 0 := splitN_lt h2
  rw [e]
  exact .z 1 1 rfl (TE.retf rfl rfl rfl (okv rfl))
 ·skip
  have h2 : ¬ (n < 2) := by have q := of_decide_eq_false h1; (try dsimp only at q); omega
  refine .g 1 1 rfl ?_
  refine TE.setv 3 (.int .i64 ((2 ^ 0 : Nat) : Int)) rfl (congrArg _ (by first | rfl | (dsimp only; first | done | rfl | omega))) ?_
  refine .lo (T := Nat) 0 1 rfl (fun j => 2 ^ j < n) (fun j => n - 2 ^ j) [0] [] (fun j => [(3, .d (.v (.int .i64 ((2 ^ j : Nat) : Int))))]) (fun j => []) (0) rfl rfl (by show 1 < n; omega) rfl rfl rfl (fun j hj => ?_)
  have hp := Nat.two_pow_pos j
  refine .t 3 1 rfl rfl (.bv (.int .i64 ((n - 2 ^ j : Nat) : Int)) rfl (congrArg _ (by (try dsimp only); rw [IntKind.wrap_i64]; omega))) ?_
  refine .q 1 1 rfl rfl (fun h2 => ?_) (fun h2 => ?_)
  ·skip
   have hk : 2 ^ j < n - 2 ^ j := by have q := of_decide_eq_true h2; (try dsimp only at q); omega
   refine .t 2 1 rfl rfl (.bv (.int .i64 ((2 ^ j + 2 ^ j : Nat) : Int)) rfl (congrArg _ (by (try dsimp only); rw [IntKind.wrap_i64]; omega))) ?_
   refine .g 1 1 rfl ?_
   refine TE.setv 3 (.int .i64 ((2 ^ (j + 1) : Nat) : Int)) rfl (congrArg _ (by rw [Nat.pow_succ]; omega)) ?_
   exact .rd 0 1 id (fun _ _ e => e) rfl (j + 1) (by rw [Nat.pow_succ]; omega) (by rw [Nat.pow_succ]; omega) rfl rfl rfl
  ·skip
   have hk : ¬ (2 ^ j < n - 2 ^ j) := by have q := of_decide_eq_false h2; (try dsimp only at q); omega
   have e : splitN n = 2 ^ j := splitN_eq hj (by omega)
   rw [e]
   exact .z 2 1 rfl (TE.retf rfl rfl rfl (okv rfl))
theorem rlnode_pf (a b : H) : PF Tryz.prog 103 [.ag (hdv (a)), .ag (hdv (b))] (.ag (hdv (lnode a b))) := by
 refine PF.enter (fn := Tryz.f103) Tryz.func103 rfl Tryz.ntmps103 rfl (fun w0 => .w ?_)
 refine .g 3 1 rfl ?_
 refine TE.frzb 2 rfl rfl rfl rfl ?_
 refine TE.frzb 3 rfl rfl rfl rfl ?_
 refine .d 0 4 rfl ?_
 refine .t 2 4 (E := ⟨some (7, _), [(4, _)]⟩) [4] rfl rfl (fun _ _ => .ba 4 rfl) ?_
 refine .v 0 5 [4] rfl rfl (fun _ _ => .cf (rtag_pf 78 [H.l a, H.l b] (by decide) (by decide) (by simp [textLen, totalLen, H.l_len])) rfl) ?_
 refine .y 1 5 rfl (by kernel_rfl) ?_
 exact .z 0 5 rfl (TE.retf rfl rfl rfl (pl_ag (pl_h _)))
theorem rlleaf_pf (b : List UInt8) (hb : b.length ≤ 1048576) : PF Tryz.prog 47 [slT bdv 1 b] (.ag (hdv (lleaf b))) := by
 refine PF.enter (fn := Tryz.f47) Tryz.func47 rfl Tryz.ntmps47 rfl (fun w0 => .w ?_)
 refine .t 2 1 rfl rfl (.ba 2 rfl) ?_
 refine .t 0 3 rfl rfl (.cf (rtag_pf 76 [b] (by decide) (by decide) (by simp [textLen, totalLen]; omega)) rfl) ?_
 exact .z 1 3 rfl (TE.retf rfl rfl rfl (pl_ag (pl_h _)))
theorem rlog_step (n : Nat) (ih : ∀ l : List H, l.length < n → l.length ≤ 1048576 → PF Tryz.prog 52 [slT hdv 32 (l)] (.ag (hdv (lroot (l))))) (l : List H) (hl : l.length ≤ n) (hb : l.length ≤ 1048576) : PF Tryz.prog 52 [slT hdv 32 (l)] (.ag (hdv (lroot (l)))) := by
 refine PF.enter (fn := Tryz.f52) Tryz.func52 rfl Tryz.ntmps52 rfl (fun w0 => .w ?_)
 refine .q 4 1 rfl rfl (fun h1 => ?_) (fun h1 => ?_)
 ·skip
  have h0 : l.length = 0 := by have q := of_decide_eq_true h1; (try dsimp only at q); omega
  rw [lroot_nil h0]
  refine .t 0 2 rfl rfl (.cf (.nil2 (rtag_pf 69 [] (by decide) (by decide) (by simp [textLen, totalLen, H.l_len]))) rfl) ?_
  exact .z 1 2 rfl (TE.retf rfl rfl rfl (pl_ag (pl_h _)))
 ·skip
  have h0 : ¬ (l.length = 0) := by have q := of_decide_eq_false h1; (try dsimp only at q); omega
  refine .q 3 2 rfl rfl (fun h2 => ?_) (fun h2 => ?_)
  ·skip
   have h1 : l.length = 1 := by have q := of_decide_eq_true h2; (try dsimp only at q); omega
   have hp : 0 < l.length := by omega
   rw [lroot_one h1 hp]
   refine .t 1 2 rfl rfl (.idx (l[0]'hp) rfl rfl rfl rfl et52 (fun _ => rfl) (Int.natCast_nonneg 0) (get_nat hp)) ?_
   refine .t 0 2 rfl rfl (.lm (hdv (l[0]'hp)) rfl) ?_
   exact .z 1 2 rfl (TE.retf rfl rfl rfl (pl_ag (pl_h _)))
  ·skip
   have h1 : ¬ (l.length = 1) := by have q := of_decide_eq_false h2; (try dsimp only at q); omega
   have hs := splitN_two (n := l.length) (by omega)
   have h2 : 2 ≤ l.length := by omega
   have c1 := ih (l.take (splitN l.length)) (by rw [List.length_take]; omega) (by rw [List.length_take]; omega)
   have c2 : PF Tryz.prog 52 [slT hdv 32 ((l.take l.length).drop (splitN l.length))] (.ag (hdv (lroot (l.drop (splitN l.length))))) := by rw [List.take_length]; exact ih _ (by rw [List.length_drop]; omega) (by rw [List.length_drop]; omega)
   refine .t 2 2 rfl rfl (.cf (rsplit_pf l.length (by omega)) rfl) ?_
   rw [lroot_two h2]
   refine .d 1 2 rfl ?_
   refine .v 2 2 [] rfl rfl (fun _ _ => .slice rfl rfl rfl rfl rfl et52 (fun _ => rfl) (by omega) (by omega) (by omega)) ?_
   refine .v 0 2 [] rfl rfl (fun _ _ => .cf (c1) rfl) ?_
   refine .v 2 2 [] rfl rfl (fun _ _ => .slice rfl rfl rfl rfl rfl et52 (fun _ => rfl) (by omega) (by omega) (by omega)) ?_
   refine .v 0 2 [] rfl rfl (fun _ _ => .cf (c2) rfl) ?_
   refine .v 0 2 [] rfl rfl (fun _ _ => .cf (rlnode_pf (lroot (l.take (splitN l.length))) (lroot (l.drop (splitN l.length)))) rfl) ?_
   refine .y 1 2 rfl (by kernel_rfl) ?_
   exact .z 0 2 rfl (TE.retf rfl rfl rfl (pl_ag (pl_h _)))
theorem rlog_all (n : Nat) : ∀ l : List H, l.length ≤ n → l.length ≤ 1048576 → PF Tryz.prog 52 [slT hdv 32 (l)] (.ag (hdv (lroot (l)))) := by
  induction n with
  | zero => exact rlog_step 0 (fun l h => absurd h (Nat.not_lt_zero _))
  | succ n ih => exact rlog_step (n + 1) (fun l h => ih l (by omega))
theorem rlog_pf (l : List H) (h : l.length ≤ 1048576) : PF Tryz.prog 52 [slT hdv 32 (l)] (.ag (hdv (lroot (l)))) := rlog_all _ l (Nat.le_refl _) h
end Go.Proofs.YtdjcclcejmeheaaGreat
/-
  A leaf in a log: climbing from the leaf up, and the reference's way down: plain values.
-/
namespace Go.Proofs.YtdjcclcejmeheaaGreat
set_option linter.unusedVariables false
set_option linter.unusedSimpArgs false
open Go.RowKit Pl
def cStep (left : Bool) (c : H × List H × Bool) : H × List H × Bool := match c with
  | (h, x :: r, true) => (if left = true then lnode h x else lnode x h, r, true)
  | _ => (zeroH, [], false)
theorem cStep_no {left : Bool} {h : H} {p : List H} : cStep left (h, p, false) = (zeroH, [], false) := by cases p <;> rfl
theorem cStep_left {h x : H} {r : List H} : cStep true (h, x :: r, true) = (lnode h x, r, true) := rfl
theorem cStep_right {h x : H} {r : List H} : cStep false (h, x :: r, true) = (lnode x h, r, true) := rfl
def clF : Nat → Nat → Nat → H → List H → H × List H × Bool
  | 0, _, _, x, p => (x, p, true)
  | f + 1, n, i, x, p => if n < 2 then (x, p, true) else if i < splitN n then cStep true (clF f (splitN n) i x p) else cStep false (clF f (n - splitN n) (i - splitN n) x p)
def climbF (n i : Nat) (x : H) (p : List H) : H × List H × Bool := clF n n i x p
theorem clF_eq : ∀ (f g n i : Nat) (x : H) (p : List H), n ≤ f → n ≤ g → clF f n i x p = clF g n i x p
  | 0, 0, _, _, _, _, _, _ => rfl
  | 0, g + 1, n, i, x, p, h, _ => by unfold clF; rw [if_pos (by omega)]
  | f + 1, 0, n, i, x, p, _, h => by unfold clF; rw [if_pos (by omega)]
  | f + 1, g + 1, n, i, x, p, h1, h2 => by
    unfold clF
    by_cases hn : n < 2
    · rw [if_pos hn, if_pos hn]
    · have hs := splitN_two (n := n) (by omega)
      rw [if_neg hn, if_neg hn, clF_eq f g (splitN n) i x p (by omega) (by omega), clF_eq f g (n - splitN n) (i - splitN n) x p (by omega) (by omega)]
theorem climbF_one {n i : Nat} {x : H} {p : List H} (h : n < 2) : climbF n i x p = (x, p, true) := by
  unfold climbF
  rw [clF_eq n (n + 1) n i x p (Nat.le_refl _) (by omega), clF, if_pos h]
theorem climbF_left {n i : Nat} {x : H} {p : List H} (h : 2 ≤ n) (k : i < splitN n) : climbF n i x p = cStep true (climbF (splitN n) i x p) := by
  have hs := splitN_two h
  unfold climbF
  rw [clF_eq n (n + 1) n i x p (Nat.le_refl _) (by omega), clF, if_neg (by omega), if_pos k, clF_eq n (splitN n) (splitN n) i x p (by omega) (Nat.le_refl _)]
theorem climbF_right {n i : Nat} {x : H} {p : List H} (h : 2 ≤ n) (k : ¬ i < splitN n) : climbF n i x p = cStep false (climbF (n - splitN n) (i - splitN n) x p) := by
  have hs := splitN_two h
  unfold climbF
  rw [clF_eq n (n + 1) n i x p (Nat.le_refl _) (by omega), clF, if_neg (by omega), if_neg k, clF_eq n (n - splitN n) (n - splitN n) (i - splitN n) x p (by omega) (Nat.le_refl _)]
theorem climbF_len : ∀ (f n i : Nat) (x : H) (p : List H), (clF f n i x p).2.1.length ≤ p.length
  | 0, _, _, _, _ => Nat.le_refl _
  | f + 1, n, i, x, p => by
    have key : ∀ (l : Bool) (c : H × List H × Bool), (cStep l c).2.1.length ≤ c.2.1.length := fun l c => by
      obtain ⟨h, q, b⟩ := c
      cases b
      · rw [cStep_no]; exact Nat.zero_le _
      · cases q with
        | nil => exact Nat.zero_le _
        | cons y r => show r.length ≤ r.length + 1; omega
    unfold clF
    split
    · exact Nat.le_refl _
    · split
      · exact Nat.le_trans (key _ _) (climbF_len f _ _ _ _)
      · exact Nat.le_trans (key _ _) (climbF_len f _ _ _ _)
def lastD (p : List H) : H := p.getLastD zeroH
def initD (p : List H) : List H := p.take (p.length - 1)
theorem lastD_at {p : List H} (h : 0 < p.length) : lastD p = p[p.length - 1]'(by omega) := by
  unfold lastD
  rw [List.getLastD_eq_getLast?, List.getLast?_eq_getElem?, List.getElem?_eq_getElem (by omega)]; rfl
theorem snocD {p : List H} (h : 0 < p.length) : p = initD p ++ [lastD p] := by
  rw [lastD_at h]
  unfold initD
  rw [← take_snoc' (show p.length - 1 < p.length by omega), show p.length - 1 + 1 = p.length by omega, List.take_length]
theorem initD_len (p : List H) : (initD p).length = p.length - 1 := by unfold initD; rw [List.length_take]; omega
def upG : Nat → Nat → Nat → H → List H → H × Bool
  | 0, _, _, x, p => (x, decide (p.length = 0))
  | f + 1, n, i, x, p => if n = 1 then (x, decide (p.length = 0)) else if p.length = 0 then (zeroH, false) else
    if i < splitN n then (lnode (upG f (splitN n) i x (initD p)).1 (lastD p), (upG f (splitN n) i x (initD p)).2)
    else (lnode (lastD p) (upG f (n - splitN n) (i - splitN n) x (initD p)).1, (upG f (n - splitN n) (i - splitN n) x (initD p)).2)
def upF (n i : Nat) (x : H) (p : List H) : H × Bool := upG n n i x p
theorem upG_eq : ∀ (f g n i : Nat) (x : H) (p : List H), 1 ≤ n → n ≤ f → n ≤ g → upG f n i x p = upG g n i x p
  | 0, _, n, _, _, _, h0, h, _ => absurd h (by omega)
  | f + 1, 0, n, _, _, _, h0, _, h => absurd h (by omega)
  | f + 1, g + 1, n, i, x, p, h0, h1, h2 => by
    unfold upG
    by_cases hn : n = 1
    · rw [if_pos hn, if_pos hn]
    · have hs := splitN_two (n := n) (by omega)
      rw [if_neg hn, if_neg hn, upG_eq f g (splitN n) i x (initD p) (by omega) (by omega) (by omega), upG_eq f g (n - splitN n) (i - splitN n) x (initD p) (by omega) (by omega) (by omega)]
theorem upF_one {i : Nat} {x : H} {p : List H} : upF 1 i x p = (x, decide (p.length = 0)) := by unfold upF upG; rw [if_pos rfl]
theorem upF_nil {n i : Nat} {x : H} {p : List H} (h : 2 ≤ n) (k : p.length = 0) : upF n i x p = (zeroH, false) := by
  unfold upF
  rw [upG_eq n (n + 1) n i x p (by omega) (Nat.le_refl _) (by omega), upG, if_neg (by omega), if_pos k]
theorem upF_left {n i : Nat} {x : H} {p : List H} (h : 2 ≤ n) (j : ¬ p.length = 0) (k : i < splitN n) : upF n i x p = (lnode (upF (splitN n) i x (initD p)).1 (lastD p), (upF (splitN n) i x (initD p)).2) := by
  have hs := splitN_two h
  unfold upF
  rw [upG_eq n (n + 1) n i x p (by omega) (Nat.le_refl _) (by omega), upG, if_neg (by omega), if_neg j, if_pos k, upG_eq n (splitN n) (splitN n) i x _ (by omega) (by omega) (Nat.le_refl _)]
theorem upF_right {n i : Nat} {x : H} {p : List H} (h : 2 ≤ n) (j : ¬ p.length = 0) (k : ¬ i < splitN n) : upF n i x p = (lnode (lastD p) (upF (n - splitN n) (i - splitN n) x (initD p)).1, (upF (n - splitN n) (i - splitN n) x (initD p)).2) := by
  have hs := splitN_two h
  unfold upF
  rw [upG_eq n (n + 1) n i x p (by omega) (Nat.le_refl _) (by omega), upG, if_neg (by omega), if_neg j, if_neg k, upG_eq n (n - splitN n) (n - splitN n) (i - splitN n) x _ (by omega) (by omega) (Nat.le_refl _)]
/-- Up from the leaf, and down from the root: the same, where the path has the length that it must have. -/
structure Ways (n i : Nat) (x : H) (d : Nat) : Prop where
  up : ∀ p, (upF n i x p).2 = decide (p.length = d)
  same : ∀ p, p.length = d → ∀ r, climbF n i x (p ++ r) = ((upF n i x p).1, r, true)
  short : ∀ p, p.length < d → (climbF n i x p).2.2 = false
theorem ways_step {n i n' i' : Nat} {x : H} {d : Nat} {l : Bool} (w : Ways n' i' x d) (h1 : ∀ p, climbF n i x p = cStep l (climbF n' i' x p)) (h0 : ∀ p : List H, p.length = 0 → upF n i x p = (zeroH, false))
    (h2 : ∀ p : List H, ¬ p.length = 0 → (upF n i x p).1 = (if l = true then lnode (upF n' i' x (initD p)).1 (lastD p) else lnode (lastD p) (upF n' i' x (initD p)).1) ∧ (upF n i x p).2 = (upF n' i' x (initD p)).2) : Ways n i x (d + 1) := by
  refine ⟨fun p => ?_, fun p hp r => ?_, fun p hp => ?_⟩
  · by_cases h : p.length = 0
    · rw [h0 p h, decide_eq_false (by omega)]
    · rw [(h2 p h).2, w.up, initD_len]; exact decide_eq_decide.2 (by omega)
  · have hq : 0 < p.length := by omega
    have e := snocD hq
    have e2 := w.same (initD p) (by rw [initD_len]; omega) (lastD p :: r)
    rw [h1]
    have e3 : p ++ r = initD p ++ lastD p :: r := by
      have : initD p ++ [lastD p] ++ r = p ++ r := by rw [← e]
      rw [← this]; simp
    rw [e3, e2]
    have e4 := (h2 p (by omega)).1
    cases l
    · rw [cStep_right, e4]; simp
    · rw [cStep_left, e4]; simp
  · rw [h1]
    by_cases h : p.length < d
    · have e := w.short p h
      generalize climbF n' i' x p = c at e ⊢
      obtain ⟨a, b, c⟩ := c
      dsimp only at e; subst e
      rw [cStep_no]
    · have e := w.same p (by omega) []
      rw [List.append_nil] at e
      rw [e]; rfl
theorem ways : ∀ (N n i : Nat) (x : H), n ≤ N → 1 ≤ n → i < n → ∃ d, Ways n i x d
  | 0, n, _, _, h, h1, _ => absurd h (by omega)
  | N + 1, n, i, x, h, h1, hi => by
    by_cases hn : n = 1
    · subst hn
      exact ⟨0, fun p => by rw [upF_one], fun p hp r => by rw [climbF_one (by omega), upF_one, List.eq_nil_of_length_eq_zero hp]; rfl, fun p hp => absurd hp (Nat.not_lt_zero _)⟩
    · have hs := splitN_two (n := n) (by omega)
      by_cases k : i < splitN n
      · obtain ⟨d, w⟩ := ways N (splitN n) i x (by omega) (by omega) k
        exact ⟨d + 1, ways_step w (l := true) (fun p => climbF_left (by omega) k) (fun p hp => upF_nil (by omega) hp) (fun p hp => by rw [upF_left (by omega) hp k]; exact ⟨rfl, rfl⟩)⟩
      · obtain ⟨d, w⟩ := ways N (n - splitN n) (i - splitN n) x (by omega) (by omega) (by omega)
        exact ⟨d + 1, ways_step w (l := false) (fun p => climbF_right (by omega) k) (fun p hp => upF_nil (by omega) hp) (fun p hp => by rw [upF_right (by omega) hp k]; exact ⟨rfl, rfl⟩)⟩
/-- Is a leaf in a log? -/
def inLog (root : H) (n i : Nat) (x : H) (p : List H) : Bool := (upF n i x p).2 && decide (H.l (upF n i x p).1 = H.l root)
theorem inLog_climb {root : H} {n i : Nat} {x : H} {p : List H} (hi : i < n) : inLog root n i x p = ((climbF n i x p).2.2 && (decide ((climbF n i x p).2.1.length = 0) && decide (H.l (climbF n i x p).1 = H.l root))) := by
  obtain ⟨d, w⟩ := ways n n i x (Nat.le_refl _) (by omega) hi
  unfold inLog
  rcases Nat.lt_trichotomy p.length d with h | h | h
  · rw [w.short p h, w.up, decide_eq_false (by omega)]; rfl
  · have e := w.same p h []
    rw [List.append_nil] at e
    rw [e, w.up, decide_eq_true h]; simp
  · have e := w.same (p.take d) (by rw [List.length_take]; omega) (p.drop d)
    rw [List.take_append_drop] at e
    rw [e, w.up, decide_eq_false (by omega)]
    simp only [List.length_drop]
    rw [decide_eq_false (show ¬ p.length - d = 0 by omega)]; simp
end Go.Proofs.YtdjcclcejmeheaaGreat
/-
  Two heads that are signed; whether one is in the other's log: plain values.
-/
namespace Go.Proofs.YtdjcclcejmeheaaGreat
set_option linter.unusedVariables false
set_option linter.unusedSimpArgs false
open Go.RowKit Pl
def headsE (y : Int) (a : Hd) (ea : Int) (b : Hd) (eb : Int) : Int := if ¬ ea = 0 ∨ ¬ eb = 0 then 20 else if checkH y a = false ∨ checkH y b = false then 25 else 0
section
variable {y : Int} {a b : Hd} {ea eb : Int}
theorem headsE_bytes (h : ¬ ea = 0 ∨ ¬ eb = 0) : headsE y a ea b eb = 20 := if_pos h
theorem headsE_sig (h1 : ea = 0) (h2 : eb = 0) (h : checkH y a = false ∨ checkH y b = false) : headsE y a ea b eb = 25 := by unfold headsE; rw [if_neg (by omega), if_pos h]
theorem headsE_ok (h1 : ea = 0) (h2 : eb = 0) (k1 : checkH y a = true) (k2 : checkH y b = true) : headsE y a ea b eb = 0 := by unfold headsE; rw [if_neg (by omega), if_neg (by rw [k1, k2]; simp)]
theorem headsE_zero (h : headsE y a ea b eb = 0) : ea = 0 ∧ eb = 0 ∧ checkH y a = true ∧ checkH y b = true := by
  unfold headsE at h
  by_cases q : ¬ ea = 0 ∨ ¬ eb = 0
  · rw [if_pos q] at h; cases h
  rw [if_neg q] at h
  by_cases r : checkH y a = false ∨ checkH y b = false
  · rw [if_pos r] at h; cases h
  refine ⟨by omega, by omega, ?_, ?_⟩
  · exact (Bool.not_eq_false _).mp (fun z => r (.inl z))
  · exact (Bool.not_eq_false _).mp (fun z => r (.inr z))
end
theorem checkH_right {y : Int} {h : Hd} (c : checkH y h = true) : rightH h = true := by
  unfold checkH at c; rw [Bool.and_eq_true] at c; exact c.1
theorem rightH_ep {h : Hd} (c : rightH h = true) : 1 ≤ h.ep ∧ h.ep ≤ 1073741824 := by
  have := of_decide_eq_true c; omega
def headsF (y : Int) (old new : List UInt8) : Hd × Hd × Int := ((readH intI old).1, (readH intI new).1, headsE y (readH intI old).1 (readH intI old).2 (readH intI new).1 (readH intI new).2)
/-- Why a head isn't in another one's log; its leaf. -/
def inG (a b : Hd) (e : Int) (x : H) (p : List H) : Int := if ¬ e = 0 then e else if b.ep ≤ a.ep then 23 else if inLog b.log (b.ep - 1).toNat (a.ep - 1).toNat x p = false then 37 else 0
section
variable {a b : Hd} {e : Int} {x : H} {p : List H}
theorem inG_err (h : ¬ e = 0) : inG a b e x p = e := if_pos h
theorem inG_form (h : e = 0) (k : b.ep ≤ a.ep) : inG a b e x p = 23 := by unfold inG; rw [if_neg (by omega), if_pos k]
theorem inG_no (h : e = 0) (k : ¬ b.ep ≤ a.ep) (q : inLog b.log (b.ep - 1).toNat (a.ep - 1).toNat x p = false) : inG a b e x p = 37 := by unfold inG; rw [if_neg (by omega), if_neg k, if_pos q]
theorem inG_ok (h : e = 0) (k : ¬ b.ep ≤ a.ep) (q : inLog b.log (b.ep - 1).toNat (a.ep - 1).toNat x p = true) : inG a b e x p = 0 := by unfold inG; rw [if_neg (by omega), if_neg k, if_neg (by rw [q]; simp)]
end
def inF (y : Int) (old new : List UInt8) (p : List H) : Int := inG (headsF y old new).1 (headsF y old new).2.1 (headsF y old new).2.2 (lleaf old) p
end Go.Proofs.YtdjcclcejmeheaaGreat

