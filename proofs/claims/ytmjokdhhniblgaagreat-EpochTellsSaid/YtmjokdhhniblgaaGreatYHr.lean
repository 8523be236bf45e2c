import Derived.Test.YtmjokdhhniblgaaGreatYHp
import Derived.Test.YtmjokdhhniblgaaGreatYGg
import Derived.Test.YtmjokdhhniblgaaGreatYEv
/-
  Entries, hashes, epochs compared.
-/
namespace Go.Proofs.YtmjokdhhniblgaaGreat
set_option linter.unusedVariables false
set_option linter.unusedSimpArgs false
open Go.RowKit Pl
set_option maxRecDepth 100000
set_option maxHeartbeats 3200000
theorem qe38 : eqT Tryz.prog 38 = some [.s, .i .i64, .i .u64] := by kernel_rfl
theorem qt30 : eqT Tryz.prog 30 = some hdks := by kernel_rfl
theorem eqe_pf (l m : List En) (r : Bool) (hr : r = true ↔ l = m) (hl : l.length ≤ 1048576) (hm : m.length ≤ 1048576) (f1 : ∀ e ∈ l, enFit e) (f2 : ∀ e ∈ m, enFit e) : PF Tryz.prog 34 [slT En.dv 3 (l), slT En.dv 3 (m)] (.v (.bool r)) := by
 refine PF.enter (fn := Tryz.f34) Tryz.func34 rfl Tryz.ntmps34 rfl (fun w0 => .w ?_)
 refine .q 6 1 rfl rfl (fun h1 => ?_) (fun h1 => ?_)
 ·skip
  have hne : ¬ l.length = m.length := fun q => by rw [q] at h1; simp at h1
  rw [show r = false from by cases r; rfl; exact absurd (congrArg List.length (hr.1 rfl)) hne]
  exact .z 1 1 rfl (TE.retf rfl rfl rfl (okv rfl))
 ·skip
  have hne : l.length = m.length := by have q : (l.length : Int) = (m.length : Int) := (by simpa using h1); omega
  refine .g 3 1 rfl ?_
  refine TE.setv 13 (.int .i64 ((0 : Nat) : Int)) rfl (congrArg _ (by first | rfl | (dsimp only; first | done | rfl | omega))) ?_
  refine .lo (T := Nat) 0 1 rfl (fun i => i ≤ l.length ∧ ∀ j (h1 : j < l.length) (h2 : j < m.length), j < i → l[j] = m[j]) (fun i => l.length - i) [0, 1] [] (fun i => [(12, .f (.v (.int .i64 ((l.length : Nat) : Int)))), (13, .d (.v (.int .i64 ((i : Nat) : Int))))]) (fun i => []) (0) rfl rfl ⟨Nat.zero_le _, fun j _ _ h => absurd h (Nat.not_lt_zero j)⟩ rfl rfl rfl (fun i hI => ?_)
  obtain ⟨hi0, hA⟩ := hI
  refine .q 1 1 rfl rfl (fun h2 => ?_) (fun h2 => ?_)
  ·skip
   have hi : i < l.length := by have q := of_decide_eq_true h2; (try dsimp only at q); omega
   have hj : i < m.length := by omega
   by_cases hE : l[i] = m[i]
   ·skip
    refine .d 2 1 rfl ?_
    refine .v 2 1 [] rfl rfl (fun _ _ => .idx (l[i]) rfl rfl rfl rfl et23 (fun _ => rfl) (Int.natCast_nonneg _) (get_nat hi)) ?_
    refine .v 0 1 [] rfl rfl (fun _ _ => .lm (l[i].dv) rfl) ?_
    refine .v 2 1 [] rfl rfl (fun _ _ => .idx (m[i]) rfl rfl rfl rfl et23 (fun _ => rfl) (Int.natCast_nonneg _) (get_nat hj)) ?_
    refine .v 0 1 [] rfl rfl (fun _ _ => .lm (m[i].dv) rfl) ?_
    refine .v 0 1 [] rfl rfl (fun _ _ => .nes false (by rw [hE]; simp) (fit_en (f1 _ (List.getElem_mem hi))) (fit_en (f2 _ (List.getElem_mem hj))) rfl rfl rfl qe38) ?_
    refine .y 0 1 rfl (by kernel_rfl) ?_
    refine .t 1 1 rfl rfl (.bv (.int .i64 ((i + 1 : Nat) : Int)) rfl (congrArg _ (by (try dsimp only); rw [IntKind.wrap_i64]; omega))) ?_
    refine .g 1 1 rfl ?_
    refine TE.setv 13 (.int .i64 ((i + 1 : Nat) : Int)) rfl (congrArg _ (by first | rfl | (dsimp only; first | done | rfl | omega))) ?_
    exact .rd 0 1 id (fun _ _ e => e) rfl (i + 1) ⟨hi, fun j h1 h2 hj2 => (Nat.lt_or_eq_of_le (Nat.le_of_lt_succ hj2)).elim (hA j h1 h2) (fun q => by subst q; exact hE)⟩ (by omega) rfl rfl rfl
   ·skip
    refine .d 2 1 rfl ?_
    refine .v 2 1 [] rfl rfl (fun _ _ => .idx (l[i]) rfl rfl rfl rfl et23 (fun _ => rfl) (Int.natCast_nonneg _) (get_nat hi)) ?_
    refine .v 0 1 [] rfl rfl (fun _ _ => .lm (l[i].dv) rfl) ?_
    refine .v 2 1 [] rfl rfl (fun _ _ => .idx (m[i]) rfl rfl rfl rfl et23 (fun _ => rfl) (Int.natCast_nonneg _) (get_nat hj)) ?_
    refine .v 0 1 [] rfl rfl (fun _ _ => .lm (m[i].dv) rfl) ?_
    refine .v 0 1 [] rfl rfl (fun _ _ => .nes true (⟨fun _ q => hE (en_dv.1 q), fun _ => rfl⟩) (fit_en (f1 _ (List.getElem_mem hi))) (fit_en (f2 _ (List.getElem_mem hj))) rfl rfl rfl qe38) ?_
    refine .y 0 1 rfl (by kernel_rfl) ?_
    rw [show r = false from by cases r; rfl; exact absurd (hr.1 rfl) (fun q => hE (by subst q; rfl))]
    exact .z 2 1 rfl (TE.retf rfl rfl rfl (okv rfl))
  ·skip
   have hi : ¬ (i < l.length) := by have q := of_decide_eq_false h2; (try dsimp only at q); omega
   rw [hr.2 (List.ext_getElem hne fun j h1 h2 => hA j h1 h2 (by omega))]
   exact .z 1 1 rfl (TE.retf rfl rfl rfl (okv rfl))
theorem same_pf (l m : List En) (r : Bool) (hr : r = true ↔ l = m) (hl : l.length ≤ 1048576) (hm : m.length ≤ 1048576) (f1 : ∀ e ∈ l, enFit e) (f2 : ∀ e ∈ m, enFit e) : PF Tryz.prog 35 [slT En.dv 3 (l), slT En.dv 3 (m)] (.v (.bool r)) := by
 refine PF.enter (fn := Tryz.f35) Tryz.func35 rfl Tryz.ntmps35 rfl (fun w0 => .w ?_)
 refine .q 6 1 rfl rfl (fun h1 => ?_) (fun h1 => ?_)
 ·skip
  have hne : ¬ l.length = m.length := fun q => by rw [q] at h1; simp at h1
  rw [show r = false from by cases r; rfl; exact absurd (congrArg List.length (hr.1 rfl)) hne]
  exact .z 1 1 rfl (TE.retf rfl rfl rfl (okv rfl))
 ·skip
  have hne : l.length = m.length := by have q : (l.length : Int) = (m.length : Int) := (by simpa using h1); omega
  refine .g 1 1 rfl ?_
  refine TE.setv 5 (.int .i64 ((0 : Nat) : Int)) rfl (congrArg _ (by first | rfl | (dsimp only; first | done | rfl | omega))) ?_
  refine .lo (T := Nat) 0 1 rfl (fun i => i ≤ l.length ∧ ∀ j (h1 : j < l.length) (h2 : j < m.length), j < i → l[j] = m[j]) (fun i => l.length - i) [0, 1] [] (fun i => [(5, .d (.v (.int .i64 ((i : Nat) : Int))))]) (fun i => []) (0) rfl rfl ⟨Nat.zero_le _, fun j _ _ h => absurd h (Nat.not_lt_zero j)⟩ rfl rfl rfl (fun i hI => ?_)
  obtain ⟨hi0, hA⟩ := hI
  refine .q 4 1 rfl rfl (fun h2 => ?_) (fun h2 => ?_)
  ·skip
   have hi : i < l.length := by have q := of_decide_eq_true h2; (try dsimp only at q); omega
   have hj : i < m.length := by omega
   by_cases hE : l[i] = m[i]
   ·skip
    refine .d 0 1 rfl ?_
    refine .v 2 1 [] rfl rfl (fun _ _ => .idx (l[i]) rfl rfl rfl rfl et23 (fun _ => rfl) (Int.natCast_nonneg _) (get_nat hi)) ?_
    refine .v 0 1 [] rfl rfl (fun _ _ => .lm (l[i].dv) rfl) ?_
    refine .v 2 1 [] rfl rfl (fun _ _ => .idx (m[i]) rfl rfl rfl rfl et23 (fun _ => rfl) (Int.natCast_nonneg _) (get_nat hj)) ?_
    refine .v 0 1 [] rfl rfl (fun _ _ => .lm (m[i].dv) rfl) ?_
    refine .v 0 1 [] rfl rfl (fun _ _ => .nes false (by rw [hE]; simp) (fit_en (f1 _ (List.getElem_mem hi))) (fit_en (f2 _ (List.getElem_mem hj))) rfl rfl rfl qe38) ?_
    refine .y 0 1 rfl (by kernel_rfl) ?_
    refine .t 2 1 rfl rfl (.bv (.int .i64 ((i + 1 : Nat) : Int)) rfl (congrArg _ (by (try dsimp only); rw [IntKind.wrap_i64]; omega))) ?_
    refine .g 1 1 rfl ?_
    refine TE.setv 5 (.int .i64 ((i + 1 : Nat) : Int)) rfl (congrArg _ (by first | rfl | (dsimp only; first | done | rfl | omega))) ?_
    exact .rd 0 1 id (fun _ _ e => e) rfl (i + 1) ⟨hi, fun j h1 h2 hj2 => (Nat.lt_or_eq_of_le (Nat.le_of_lt_succ hj2)).elim (hA j h1 h2) (fun q => by subst q; exact hE)⟩ (by omega) rfl rfl rfl
   ·skip
    refine .d 0 1 rfl ?_
    refine .v 2 1 [] rfl rfl (fun _ _ => .idx (l[i]) rfl rfl rfl rfl et23 (fun _ => rfl) (Int.natCast_nonneg _) (get_nat hi)) ?_
    refine .v 0 1 [] rfl rfl (fun _ _ => .lm (l[i].dv) rfl) ?_
    refine .v 2 1 [] rfl rfl (fun _ _ => .idx (m[i]) rfl rfl rfl rfl et23 (fun _ => rfl) (Int.natCast_nonneg _) (get_nat hj)) ?_
    refine .v 0 1 [] rfl rfl (fun _ _ => .lm (m[i].dv) rfl) ?_
    refine .v 0 1 [] rfl rfl (fun _ _ => .nes true (⟨fun _ q => hE (en_dv.1 q), fun _ => rfl⟩) (fit_en (f1 _ (List.getElem_mem hi))) (fit_en (f2 _ (List.getElem_mem hj))) rfl rfl rfl qe38) ?_
    refine .y 0 1 rfl (by kernel_rfl) ?_
    rw [show r = false from by cases r; rfl; exact absurd (hr.1 rfl) (fun q => hE (by subst q; rfl))]
    exact .z 2 1 rfl (TE.retf rfl rfl rfl (okv rfl))
  ·skip
   have hi : ¬ (i < l.length) := by have q := of_decide_eq_false h2; (try dsimp only at q); omega
   rw [hr.2 (List.ext_getElem hne fun j h1 h2 => hA j h1 h2 (by omega))]
   exact .z 1 1 rfl (TE.retf rfl rfl rfl (okv rfl))
theorem pents_pf (l m : List En) (r : Bool) (hr : r = true ↔ l = m) (hl : l.length ≤ 1048576) (hm : m.length ≤ 1048576) (f1 : ∀ e ∈ l, enFit e) (f2 : ∀ e ∈ m, enFit e) : PF Tryz.prog 31 [slT En.dv 3 (l), slT En.dv 3 (m)] (.v (.bool r)) := by
 refine PF.enter (fn := Tryz.f31) Tryz.func31 rfl Tryz.ntmps31 rfl (fun w0 => .w ?_)
 refine .q 6 1 rfl rfl (fun h1 => ?_) (fun h1 => ?_)
 ·skip
  have hne : ¬ l.length = m.length := fun q => by rw [q] at h1; simp at h1
  rw [show r = false from by cases r; rfl; exact absurd (congrArg List.length (hr.1 rfl)) hne]
  exact .z 1 1 rfl (TE.retf rfl rfl rfl (okv rfl))
 ·skip
  have hne : l.length = m.length := by have q : (l.length : Int) = (m.length : Int) := (by simpa using h1); omega
  refine .g 1 1 rfl ?_
  refine TE.setv 5 (.int .i64 ((0 : Nat) : Int)) rfl (congrArg _ (by first | rfl | (dsimp only; first | done | rfl | omega))) ?_
  refine .lo (T := Nat) 0 1 rfl (fun i => i ≤ l.length ∧ ∀ j (h1 : j < l.length) (h2 : j < m.length), j < i → l[j] = m[j]) (fun i => l.length - i) [0, 1] [] (fun i => [(5, .d (.v (.int .i64 ((i : Nat) : Int))))]) (fun i => []) (0) rfl rfl ⟨Nat.zero_le _, fun j _ _ h => absurd h (Nat.not_lt_zero j)⟩ rfl rfl rfl (fun i hI => ?_)
  obtain ⟨hi0, hA⟩ := hI
  refine .q 4 1 rfl rfl (fun h2 => ?_) (fun h2 => ?_)
  ·skip
   have hi : i < l.length := by have q := of_decide_eq_true h2; (try dsimp only at q); omega
   have hj : i < m.length := by omega
   by_cases hE : l[i] = m[i]
   ·skip
    refine .d 0 1 rfl ?_
    refine .v 2 1 [] rfl rfl (fun _ _ => .idx (l[i]) rfl rfl rfl rfl et23 (fun _ => rfl) (Int.natCast_nonneg _) (get_nat hi)) ?_
    refine .v 0 1 [] rfl rfl (fun _ _ => .lm (l[i].dv) rfl) ?_
    refine .v 2 1 [] rfl rfl (fun _ _ => .idx (m[i]) rfl rfl rfl rfl et23 (fun _ => rfl) (Int.natCast_nonneg _) (get_nat hj)) ?_
    refine .v 0 1 [] rfl rfl (fun _ _ => .lm (m[i].dv) rfl) ?_
    refine .v 0 1 [] rfl rfl (fun _ _ => .nes false (by rw [hE]; simp) (fit_en (f1 _ (List.getElem_mem hi))) (fit_en (f2 _ (List.getElem_mem hj))) rfl rfl rfl qe38) ?_
    refine .y 0 1 rfl (by kernel_rfl) ?_
    refine .t 2 1 rfl rfl (.bv (.int .i64 ((i + 1 : Nat) : Int)) rfl (congrArg _ (by (try dsimp only); rw [IntKind.wrap_i64]; omega))) ?_
    refine .g 1 1 rfl ?_
    refine TE.setv 5 (.int .i64 ((i + 1 : Nat) : Int)) rfl (congrArg _ (by first | rfl | (dsimp only; first | done | rfl | omega))) ?_
    exact .rd 0 1 id (fun _ _ e => e) rfl (i + 1) ⟨hi, fun j h1 h2 hj2 => (Nat.lt_or_eq_of_le (Nat.le_of_lt_succ hj2)).elim (hA j h1 h2) (fun q => by subst q; exact hE)⟩ (by omega) rfl rfl rfl
   ·skip
    refine .d 0 1 rfl ?_
    refine .v 2 1 [] rfl rfl (fun _ _ => .idx (l[i]) rfl rfl rfl rfl et23 (fun _ => rfl) (Int.natCast_nonneg _) (get_nat hi)) ?_
    refine .v 0 1 [] rfl rfl (fun _ _ => .lm (l[i].dv) rfl) ?_
    refine .v 2 1 [] rfl rfl (fun _ _ => .idx (m[i]) rfl rfl rfl rfl et23 (fun _ => rfl) (Int.natCast_nonneg _) (get_nat hj)) ?_
    refine .v 0 1 [] rfl rfl (fun _ _ => .lm (m[i].dv) rfl) ?_
    refine .v 0 1 [] rfl rfl (fun _ _ => .nes true (⟨fun _ q => hE (en_dv.1 q), fun _ => rfl⟩) (fit_en (f1 _ (List.getElem_mem hi))) (fit_en (f2 _ (List.getElem_mem hj))) rfl rfl rfl qe38) ?_
    refine .y 0 1 rfl (by kernel_rfl) ?_
    rw [show r = false from by cases r; rfl; exact absurd (hr.1 rfl) (fun q => hE (by subst q; rfl))]
    exact .z 2 1 rfl (TE.retf rfl rfl rfl (okv rfl))
  ·skip
   have hi : ¬ (i < l.length) := by have q := of_decide_eq_false h2; (try dsimp only at q); omega
   rw [hr.2 (List.ext_getElem hne fun j h1 h2 => hA j h1 h2 (by omega))]
   exact .z 1 1 rfl (TE.retf rfl rfl rfl (okv rfl))
theorem samehs_pf (x : List H) (hx : x.length ≤ 1048577) : PF Tryz.prog 19 [slT hdv 32 (x), slT hdv 32 (x)] (.v (.bool true)) := by
 refine PF.enter (fn := Tryz.f19) Tryz.func19 rfl Tryz.ntmps19 rfl (fun w0 => .w ?_)
 refine .t 5 1 rfl rfl (.bv (.bool false) rfl (by simp)) ?_
 refine .g 2 1 rfl ?_
 refine TE.setv 5 (.int .i64 ((0 : Nat) : Int)) rfl (congrArg _ (by first | rfl | (dsimp only; first | done | rfl | omega))) ?_
 refine .lo (T := Nat) 0 1 rfl (fun i => i ≤ x.length) (fun i => x.length - i) [0, 1] [] (fun i => [(5, .d (.v (.int .i64 ((i : Nat) : Int))))]) (fun i => []) (0) rfl rfl (Nat.zero_le _) rfl rfl rfl (fun i hI => ?_)
 refine .q 4 1 rfl rfl (fun h2 => ?_) (fun h2 => ?_)
 ·skip
  have hi : i < x.length := by have q := of_decide_eq_true h2; (try dsimp only at q); omega
  refine .d 0 1 rfl ?_
  refine .v 2 1 [] rfl rfl (fun _ _ => .idx (x[i]) rfl rfl rfl rfl et61 (fun _ => rfl) (Int.natCast_nonneg i) (get_nat hi)) ?_
  refine .v 0 1 [] rfl rfl (fun _ _ => .lm (hdv x[i]) rfl) ?_
  refine .v 2 1 [] rfl rfl (fun _ _ => .idx (x[i]) rfl rfl rfl rfl et61 (fun _ => rfl) (Int.natCast_nonneg i) (get_nat hi)) ?_
  refine .v 0 1 [] rfl rfl (fun _ _ => .lm (hdv x[i]) rfl) ?_
  refine .v 0 1 [] rfl rfl (fun _ _ => .nehf (a := x[i]) (b := x[i]) (rfl) rfl rfl rfl qh26) ?_
  refine .y 0 1 rfl (by kernel_rfl) ?_
  refine .t 2 1 rfl rfl (.bv (.int .i64 ((i + 1 : Nat) : Int)) rfl (congrArg _ (by (try dsimp only); rw [IntKind.wrap_i64]; omega))) ?_
  refine .g 1 1 rfl ?_
  refine TE.setv 5 (.int .i64 ((i + 1 : Nat) : Int)) rfl (congrArg _ (by first | rfl | (dsimp only; first | done | rfl | omega))) ?_
  exact .rd 0 1 id (fun _ _ e => e) rfl (i + 1) (by omega) (by omega) rfl rfl rfl
 ·skip
  skip
  exact .z 1 1 rfl (TE.retf rfl rfl rfl trivial)
theorem samep_pf (p : Pub) (hh : hdFit p.hd) (hl : p.es.length ≤ 1048576) (hf : ∀ e ∈ p.es, enFit e) : PF Tryz.prog 14 [.ag p.dv, .ag p.dv] (.v (.bool true)) := by
 refine PF.enter (fn := Tryz.f14) Tryz.func14 rfl Tryz.ntmps14 rfl (fun w0 => .w ?_)
 refine .g 3 1 rfl ?_
 refine TE.frzb 2 rfl rfl rfl rfl ?_
 refine TE.frzb 3 rfl rfl rfl rfl ?_
 refine .t 1 3 rfl rfl (.lm (p.hd.dv) rfl) ?_
 refine .t 1 3 rfl rfl (.lm (p.hd.dv) rfl) ?_
 refine .t 0 3 rfl rfl (.eqs true (by simp) (fit_hd hh) (fit_hd hh) rfl rfl rfl qt30) ?_
 refine .t 5 3 rfl rfl (.cf (pents_pf p.es p.es true (by simp) hl hl hf hf) rfl) ?_
 exact .z 2 3 rfl (TE.retf rfl rfl rfl (okv rfl))
end Go.Proofs.YtmjokdhhniblgaaGreat

