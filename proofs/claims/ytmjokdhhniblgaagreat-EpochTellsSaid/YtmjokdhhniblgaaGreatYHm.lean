import Derived.Test.YtmjokdhhniblgaaGreatYGc
import Derived.Test.YtmjokdhhniblgaaGreatYHl
import Derived.Test.YtmjokdhhniblgaaGreatYEv
/-
  Logs.
-/
namespace Go.Proofs.YtmjokdhhniblgaaGreat
set_option linter.unusedVariables false
set_option linter.unusedSimpArgs false
open Go.RowKit Pl
set_option maxRecDepth 100000
set_option maxHeartbeats 3200000
theorem et61 : elt Tryz.prog 61 = some (26, 32) := by kernel_rfl
theorem lnode_pf (a b : H) : PF Tryz.prog 93 [.ag (hdv (a)), .ag (hdv (b))] (.ag (hdv (lnode a b))) := by
 refine PF.enter (fn := Tryz.f93) Tryz.func93 rfl Tryz.ntmps93 rfl (fun w0 => .w ?_)
 refine .g 3 1 rfl ?_
 refine TE.frzb 2 rfl rfl rfl rfl ?_
 refine TE.frzb 3 rfl rfl rfl rfl ?_
 refine .d 0 4 rfl ?_
 refine .t 2 4 (E := ⟨some (7, _), [(4, _)]⟩) [4] rfl rfl (fun _ _ => .ba 4 rfl) ?_
 refine .v 0 5 [4] rfl rfl (fun _ _ => .cf (tag_pf 78 [H.l a, H.l b] (by decide) (by decide) (by simp [textLen, totalLen, H.l_len])) rfl) ?_
 refine .y 1 5 rfl (by kernel_rfl) ?_
 exact .z 0 5 rfl (TE.retf rfl rfl rfl (pl_ag (pl_h _)))
theorem lleaf_pf (b : List UInt8) (hb : b.length ≤ 1048576) : PF Tryz.prog 36 [slT bdv 1 b] (.ag (hdv (lleaf b))) := by
 refine PF.enter (fn := Tryz.f36) Tryz.func36 rfl Tryz.ntmps36 rfl (fun w0 => .w ?_)
 refine .t 2 1 rfl rfl (.ba 2 rfl) ?_
 refine .t 0 3 rfl rfl (.cf (tag_pf 76 [b] (by decide) (by decide) (by simp [textLen, totalLen]; omega)) rfl) ?_
 exact .z 1 3 rfl (TE.retf rfl rfl rfl (pl_ag (pl_h _)))
theorem log_step (n : Nat) (ih : ∀ l : List H, l.length < n → l.length ≤ 1048576 → PF Tryz.prog 56 [slT hdv 32 (l)] (.ag (hdv (lroot (l))))) (l : List H) (hl : l.length ≤ n) (hb : l.length ≤ 1048576) : PF Tryz.prog 56 [slT hdv 32 (l)] (.ag (hdv (lroot (l)))) := by
 refine PF.enter (fn := Tryz.f56) Tryz.func56 rfl Tryz.ntmps56 rfl (fun w0 => .w ?_)
 refine .q 5 1 rfl rfl (fun h1 => ?_) (fun h1 => ?_)
 ·skip
  have h0 : l.length = 0 := by have q := of_decide_eq_true h1; (try dsimp only at q); omega
  rw [lroot_nil h0]
  refine .t 0 2 rfl rfl (.cf (.nil2 (tag_pf 69 [] (by decide) (by decide) (by simp [textLen, totalLen, H.l_len]))) rfl) ?_
  exact .z 1 2 rfl (TE.retf rfl rfl rfl (pl_ag (pl_h _)))
 ·skip
  have h0 : ¬ (l.length = 0) := by have q := of_decide_eq_false h1; (try dsimp only at q); omega
  refine .q 2 2 rfl rfl (fun h2 => ?_) (fun h2 => ?_)
  ·skip
   have h1 : l.length = 1 := by have q := of_decide_eq_true h2; (try dsimp only at q); omega
   have hp : 0 < l.length := by omega
   rw [lroot_one h1 hp]
   refine .t 1 2 rfl rfl (.idx (l[0]'hp) rfl rfl rfl rfl et61 (fun _ => rfl) (Int.natCast_nonneg 0) (get_nat hp)) ?_
   refine .t 0 2 rfl rfl (.lm (hdv (l[0]'hp)) rfl) ?_
   exact .z 1 2 rfl (TE.retf rfl rfl rfl (pl_ag (pl_h _)))
  ·skip
   have h1 : ¬ (l.length = 1) := by have q := of_decide_eq_false h2; (try dsimp only at q); omega
   have hs := splitN_two (n := l.length) (by omega)
   have h2 : 2 ≤ l.length := by omega
   have c1 := ih (l.take (splitN l.length)) (by rw [List.length_take]; omega) (by rw [List.length_take]; omega)
   have c2 : PF Tryz.prog 56 [slT hdv 32 ((l.take l.length).drop (splitN l.length))] (.ag (hdv (lroot (l.drop (splitN l.length))))) := by rw [List.take_length]; exact ih _ (by rw [List.length_drop]; omega) (by rw [List.length_drop]; omega)
   refine .t 2 2 rfl rfl (.cf (split_pf l.length (by omega)) rfl) ?_
   rw [lroot_two h2]
   refine .d 1 2 rfl ?_
   refine .v 2 2 [] rfl rfl (fun _ _ => .slice rfl rfl rfl rfl rfl et61 (fun _ => rfl) (by omega) (by omega) (by omega)) ?_
   refine .v 0 2 [] rfl rfl (fun _ _ => .cf (c1) rfl) ?_
   refine .v 2 2 [] rfl rfl (fun _ _ => .slice rfl rfl rfl rfl rfl et61 (fun _ => rfl) (by omega) (by omega) (by omega)) ?_
   refine .v 0 2 [] rfl rfl (fun _ _ => .cf (c2) rfl) ?_
   refine .v 0 2 [] rfl rfl (fun _ _ => .cf (lnode_pf (lroot (l.take (splitN l.length))) (lroot (l.drop (splitN l.length)))) rfl) ?_
   refine .y 1 2 rfl (by kernel_rfl) ?_
   exact .z 0 2 rfl (TE.retf rfl rfl rfl (pl_ag (pl_h _)))
theorem log_all (n : Nat) : ∀ l : List H, l.length ≤ n → l.length ≤ 1048576 → PF Tryz.prog 56 [slT hdv 32 (l)] (.ag (hdv (lroot (l)))) := by
  induction n with
  | zero => exact log_step 0 (fun l h => absurd h (Nat.not_lt_zero _))
  | succ n ih => exact log_step (n + 1) (fun l h => ih l (by omega))
theorem log_pf (l : List H) (h : l.length ≤ 1048576) : PF Tryz.prog 56 [slT hdv 32 (l)] (.ag (hdv (lroot (l)))) := log_all _ l (Nat.le_refl _) h
theorem rsplit_pf (n : Nat) (hn : n ≤ 1073741825) : PF Tryz.prog 45 [.v (.int .i64 ((n : Nat) : Int))] (.v (.int .i64 ((splitN n : Nat) : Int))) := by
 refine PF.enter (fn := Tryz.f45) Tryz.func45 rfl Tryz.ntmps45 rfl (fun w0 => .w ?_)
 refine .q 3 1 rfl rfl (fun h1 => ?_) (fun h1 => ?_)
 ·skip
  have h2 : n < 2 := by have q := of_decide_eq_true h1; (try dsimp only at q); omega
  have e : splitN n = 0 := splitN_lt h2
  rw [e]
  exact .z 1 1 rfl (TE.retf rfl rfl rfl (okv rfl))
 ·skip
  have h2 : ¬ (n < 2) := by have q := of_decide_eq_false h1; (try dsimp only at q); omega
  refine .g 1 1 rfl ?_
  refine TE.setv 3 (.int .i64 ((2 ^ 0 : Nat) : Int)) rfl (congrArg _ (by first | rfl | (dsimp only; first | done | rfl | omega))) ?_
  refine .lo (T := Nat) 0 1 rfl (fun j => 2 ^ j < n) (fun j => n - 2 ^ j) [0] [] (fun j => [(3, .d (.v (.int .i64 ((2 ^ j : Nat) : Int))))]) (fun j => []) (0) rfl rfl (by show 1 < n; omega) rfl rfl rfl (fun j hj => ?_)
  have hp := Nat.two_pow_pos j
  refine .t 3 1 rfl rfl (.bv (.int .i64 ((n - 2 ^ j : Nat) : Int)) rfl (congrArg _ (by (try dsimp only); rw [IntKind.wrap_i64]; omega))) ?_
  refine .q 1 1 rfl rfl (fun h2 => ?_) (fun h2 => ?_)
  ·skip
   have hk : 2 ^ j < n - 2 ^ j := by have q := of_decide_eq_true h2; (try dsimp only at q); omega
   refine .t 2 1 rfl rfl (.bv (.int .i64 ((2 ^ j + 2 ^ j : Nat) : Int)) rfl (congrArg _ (by (try dsimp only); rw [IntKind.wrap_i64]; omega))) ?_
   refine .g 1 1 rfl ?_
   refine TE.setv 3 (.int .i64 ((2 ^ (j + 1) : Nat) : Int)) rfl (congrArg _ (by rw [Nat.pow_succ]; omega)) ?_
   exact .rd 0 1 id (fun _ _ e => e) rfl (j + 1) (by rw [Nat.pow_succ]; omega) (by rw [Nat.pow_succ]; omega) rfl rfl rfl
  ·skip
   have hk : ¬ (2 ^ j < n - 2 ^ j) := by have q := of_decide_eq_false h2; (try dsimp only at q); omega
   have e : splitN n = 2 ^ j := splitN_eq hj (by omega)
   rw [e]
   exact .z 2 1 rfl (TE.retf rfl rfl rfl (okv rfl))
theorem rlnode_pf (a b : H) : PF Tryz.prog 46 [.ag (hdv (a)), .ag (hdv (b))] (.ag (hdv (lnode a b))) := by
 refine PF.enter (fn := Tryz.f46) Tryz.func46 rfl Tryz.ntmps46 rfl (fun w0 => .w ?_)
 refine .g 3 1 rfl ?_
 refine TE.frzb 2 rfl rfl rfl rfl ?_
 refine TE.frzb 3 rfl rfl rfl rfl ?_
 refine .d 0 4 rfl ?_
 refine .t 2 4 (E := ⟨some (7, _), [(4, _)]⟩) [4] rfl rfl (fun _ _ => .ba 4 rfl) ?_
 refine .v 0 5 [4] rfl rfl (fun _ _ => .cf (rtag_pf 78 [H.l a, H.l b] (by decide) (by decide) (by simp [textLen, totalLen, H.l_len])) rfl) ?_
 refine .y 1 5 rfl (by kernel_rfl) ?_
 exact .z 0 5 rfl (TE.retf rfl rfl rfl (pl_ag (pl_h _)))
theorem rlleaf_pf (b : List UInt8) (hb : b.length ≤ 1048576) : PF Tryz.prog 39 [slT bdv 1 b] (.ag (hdv (lleaf b))) := by
 refine PF.enter (fn := Tryz.f39) Tryz.func39 rfl Tryz.ntmps39 rfl (fun w0 => .w ?_)
 refine .t 2 1 rfl rfl (.ba 2 rfl) ?_
 refine .t 0 3 rfl rfl (.cf (rtag_pf 76 [b] (by decide) (by decide) (by simp [textLen, totalLen]; omega)) rfl) ?_
 exact .z 1 3 rfl (TE.retf rfl rfl rfl (pl_ag (pl_h _)))
theorem rlog_step (n : Nat) (ih : ∀ l : List H, l.length < n → l.length ≤ 1048576 → PF Tryz.prog 24 [slT hdv 32 (l)] (.ag (hdv (lroot (l))))) (l : List H) (hl : l.length ≤ n) (hb : l.length ≤ 1048576) : PF Tryz.prog 24 [slT hdv 32 (l)] (.ag (hdv (lroot (l)))) := by
 refine PF.enter (fn := Tryz.f24) Tryz.func24 rfl Tryz.ntmps24 rfl (fun w0 => .w ?_)
 refine .q 4 1 rfl rfl (fun h1 => ?_) (fun h1 => ?_)
 ·skip
  have h0 : l.length = 0 := by have q := of_decide_eq_true h1; (try dsimp only at q); omega
  rw [lroot_nil h0]
  refine .t 0 2 rfl rfl (.cf (.nil2 (rtag_pf 69 [] (by decide) (by decide) (by simp [textLen, totalLen, H.l_len]))) rfl) ?_
  exact .z 1 2 rfl (TE.retf rfl rfl rfl (pl_ag (pl_h _)))
 ·skip
  have h0 : ¬ (l.length = 0) := by have q := of_decide_eq_false h1; (try dsimp only at q); omega
  refine .q 3 2 rfl rfl (fun h2 => ?_) (fun h2 => ?_)
  ·skip
   have h1 : l.length = 1 := by have q := of_decide_eq_true h2; (try dsimp only at q); omega
   have hp : 0 < l.length := by omega
   rw [lroot_one h1 hp]
   refine .t 1 2 rfl rfl (.idx (l[0]'hp) rfl rfl rfl rfl et61 (fun _ => rfl) (Int.natCast_nonneg 0) (get_nat hp)) ?_
   refine .t 0 2 rfl rfl (.lm (hdv (l[0]'hp)) rfl) ?_
   exact .z 1 2 rfl (TE.retf rfl rfl rfl (pl_ag (pl_h _)))
  ·skip
   have h1 : ¬ (l.length = 1) := by have q := of_decide_eq_false h2; (try dsimp only at q); omega
   have hs := splitN_two (n := l.length) (by omega)
   have h2 : 2 ≤ l.length := by omega
   have c1 := ih (l.take (splitN l.length)) (by rw [List.length_take]; omega) (by rw [List.length_take]; omega)
   have c2 : PF Tryz.prog 24 [slT hdv 32 ((l.take l.length).drop (splitN l.length))] (.ag (hdv (lroot (l.drop (splitN l.length))))) := by rw [List.take_length]; exact ih _ (by rw [List.length_drop]; omega) (by rw [List.length_drop]; omega)
   refine .t 2 2 rfl rfl (.cf (rsplit_pf l.length (by omega)) rfl) ?_
   rw [lroot_two h2]
   refine .d 1 2 rfl ?_
   refine .v 2 2 [] rfl rfl (fun _ _ => .slice rfl rfl rfl rfl rfl et61 (fun _ => rfl) (by omega) (by omega) (by omega)) ?_
   refine .v 0 2 [] rfl rfl (fun _ _ => .cf (c1) rfl) ?_
   refine .v 2 2 [] rfl rfl (fun _ _ => .slice rfl rfl rfl rfl rfl et61 (fun _ => rfl) (by omega) (by omega) (by omega)) ?_
   refine .v 0 2 [] rfl rfl (fun _ _ => .cf (c2) rfl) ?_
   refine .v 0 2 [] rfl rfl (fun _ _ => .cf (rlnode_pf (lroot (l.take (splitN l.length))) (lroot (l.drop (splitN l.length)))) rfl) ?_
   refine .y 1 2 rfl (by kernel_rfl) ?_
   exact .z 0 2 rfl (TE.retf rfl rfl rfl (pl_ag (pl_h _)))
theorem rlog_all (n : Nat) : ∀ l : List H, l.length ≤ n → l.length ≤ 1048576 → PF Tryz.prog 24 [slT hdv 32 (l)] (.ag (hdv (lroot (l)))) := by
  induction n with
  | zero => exact rlog_step 0 (fun l h => absurd h (Nat.not_lt_zero _))
  | succ n ih => exact rlog_step (n + 1) (fun l h => ih l (by omega))
theorem rlog_pf (l : List H) (h : l.length ≤ 1048576) : PF Tryz.prog 24 [slT hdv 32 (l)] (.ag (hdv (lroot (l)))) := rlog_all _ l (Nat.le_refl _) h
end Go.Proofs.YtmjokdhhniblgaaGreat

