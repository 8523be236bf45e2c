/-
  The program's directory: search, the latest, find.
-/
import Derived.Test.YthidepbffhhkmaaIb
namespace Go.Proofs.Ythidepbffhhkmaa
set_option linter.unusedVariables false
set_option linter.unusedSimpArgs false
open Go.RowKit Pl

theorem cf33 : cfn Try.prog 33 = true := by kernel_rfl
theorem cf50 : cfn Try.prog 50 = true := by kernel_rfl
theorem cf51 : cfn Try.prog 51 = true := by kernel_rfl
theorem sp30 : stp Try.prog 30 = some ([.string ⟨#[]⟩, .int .i64 0, .int .u64 0], [(0, 1), (1, 1), (2, 1)]) := by kernel_rfl
theorem sp32 : stp Try.prog 32 = some ([.string ⟨#[]⟩, .int .i64 0, .int .u64 0, .int .i64 0], [(0, 3), (3, 1)]) := by kernel_rfl
theorem sz32 : szt Try.prog 32 = some 4 := by kernel_rfl
theorem tk30 : tyk Try.prog 30 = some (some 3) := by kernel_rfl
theorem tk32 : tyk Try.prog 32 = some (some 4) := by kernel_rfl
theorem zc32 : zc Try.prog 32 = some [.string ⟨#[]⟩, .int .i64 0, .int .u64 0, .int .i64 0] := by kernel_rfl

set_option maxRecDepth 100000 in
set_option maxHeartbeats 1600000 in
theorem bs_any (l : List Kn) (e : En) (hl : l.length ≤ 140737488355328) : PF Try.prog 50 [slT Kn.dv 4 l, .ag e.dv, .fn (.func 51) [] []] (.tp [.v (.int .i64 (bsI l e.nm e.ver)), .v (.bool (placeB l e.nm e.ver))]) := by
  refine PF.enter (fn := Try.f50) Try.func50 rfl Try.ntmps50 rfl (fun w0 => ?_)
  refine .seq ?_
  refine .region ?_
  refine .step rfl (.box 1 rfl rfl rfl rfl) ?_
  refine .step rfl (.assign rfl rfl) ?_
  refine .step rfl (.assign rfl rfl) ?_
  refine .nil ?_
  refine .next ?_
  refine .seq ?_
  refine .region ?_
  refine .step rfl (.move rfl rfl) ?_
  refine .step rfl (.len rfl rfl ⟨_, _, rfl⟩ is24) ?_
  refine .step rfl (.assign rfl rfl) ?_
  refine .nil ?_
  refine .next ?_
  refine .seq ?_
  refine .region ?_
  refine .step rfl (.move rfl rfl) ?_
  refine .step rfl (.assign rfl rfl) ?_
  refine .step rfl (.assign rfl rfl) ?_
  refine .nil ?_
  refine .next ?_
  refine .seq ?_
  refine .block ?_
  refine TC.loop (S := Nat × Nat × Nat) (fun x => x.1 ≤ x.2.1 ∧ x.2.1 ≤ l.length ∧ x.2.1 - x.1 ≤ x.2.2 ∧ bsGo l e.nm e.ver x.2.2 x.1 x.2.1 = bsI l e.nm e.ver) (fun x => x.2.1 - x.1) (fun x => [(0, .d (slT Kn.dv 4 l)), (1, .d (.ag e.dv)), (2, .d (.fn (.func 51) [] [])), (4, .ptr 1 0), (8, .f (.v (.int .i64 l.length))), (9, .f (.v (.int .i64 x.1))), (10, .f (.v (.int .i64 x.2.1)))]) (fun x => [(1, .box 30 e.dv)]) ((0, l.length, l.length)) ⟨Nat.zero_le _, Nat.le_refl _, Nat.le_refl _, rfl⟩ ⟨⟨rfl, rfl⟩, ⟨rfl, rfl⟩, ⟨rfl, rfl⟩, ⟨rfl, rfl⟩, ⟨rfl, rfl⟩, ⟨rfl, rfl⟩, ⟨rfl, rfl⟩, trivial⟩ ⟨.inr rfl, trivial⟩ (fun x hI => ?_)
  obtain ⟨i, j, f⟩ := x
  obtain ⟨i1, i2, i3, i4⟩ := hI
  have i1 : i ≤ j := i1
  have i2 : j ≤ l.length := i2
  have i3 : j - i ≤ f := i3
  have i4 : bsGo l e.nm e.ver f i j = bsI l e.nm e.ver := i4
  refine .seq ?_
  refine .seq ?_
  refine .region ?_
  refine .step rfl (.move rfl rfl) ?_
  refine .step rfl (.move rfl rfl) ?_
  refine .step rfl (.bin rfl rfl rfl rfl) ?_
  refine .nil ?_
  refine .next ?_
  refine .cond rfl (fun h1 => ?_) (fun h1 => ?_)
  ·skip
   have hij : i < j := by have q : (i : Int) < (j : Int) := of_decide_eq_true h1; omega
   have hm : (i + j) / 2 < l.length := by omega
   refine .skip ?_
   refine .next ?_
   refine .block ?_
   refine .seq ?_
   refine .region ?_
   refine .step rfl (.move rfl rfl) ?_
   refine .step rfl (.move rfl rfl) ?_
   refine .step rfl (.binv (.int .i64 ((i + j : Nat) : Int)) rfl rfl rfl rfl (congrArg _ (wrap_add i j (by omega)))) ?_
   refine .step rfl (.conviv (((i + j : Nat) : Int)) rfl rfl uk3 uk95 (wrap_natu _ (by omega))) ?_
   refine .step rfl (.shr ((((i + j) / 2 : Nat) : Int)) rfl rfl rfl (by decide) (half_eq _)) ?_
   refine .step rfl (.conviv ((((i + j) / 2 : Nat) : Int)) rfl rfl uk95 uk3 (wrap_nat _ (by omega))) ?_
   refine .step rfl (.assign rfl rfl) ?_
   refine .nil ?_
   refine .next ?_
   refine .seq ?_
   refine .draw mixed [Ro.mk _ (Eff.mk (some (24, _)) []) [], Ro.mk _ (Eff.mk (some (25, _)) []) [], Ro.mk _ (Eff.mk (some (26, _)) []) [], Ro.mk _ (Eff.mk (some (27, _)) []) [], Ro.mk _ (Eff.mk (some (28, _)) []) [], Ro.mk _ (Eff.mk (some (29, _)) []) [1], Ro.mk _ (Eff.mk (some (30, _)) []) [], Ro.mk _ (Eff.mk (some (31, _)) []) []] rfl ⟨(fun _ _ => .move rfl rfl), (fun _ _ => .move rfl rfl), (fun _ _ => .move rfl rfl), (fun _ _ => .idx (l[(i + j) / 2]) rfl rfl rfl rfl et24 (fun _ => rfl) (Int.natCast_nonneg _) (get_nat hm)), (fun _ _ => .ldem rfl rfl rfl rfl rfl tk32), (fun _ _ => .ldpm rfl rfl rfl rfl rfl rfl tk30), (fun _ _ => .callvf rfl rfl cf51 rfl ⟨trivial, trivial, trivial⟩ (order_any l[(i + j) / 2] e)), (fun _ _ => .bin rfl rfl rfl rfl), trivial⟩ (by kernel_rfl) ?_
   refine .next ?_
   refine .cond rfl (fun h2 => ?_) (fun h2 => ?_)
   ·skip
    have hneg := of_decide_eq_true h2
    refine .region ?_
    refine .step rfl (.move rfl rfl) ?_
    refine .step rfl (.binv (.int .i64 (((i + j) / 2 + 1 : Nat) : Int)) rfl rfl rfl rfl (congrArg _ (wrap_succ hm hl))) ?_
    refine .step rfl (.assign rfl rfl) ?_
    refine .nil ?_
    refine TE.blk ?_
    exact TE.round id (fun _ _ e => e) (((i + j) / 2 + 1, j, f - 1)) ⟨by show (i + j) / 2 + 1 ≤ j; omega, i2, by show j - ((i + j) / 2 + 1) ≤ f - 1; omega, by rw [bsGo_step hij i3, ordAt_get hm, if_pos hneg] at i4; exact i4⟩ (by show j - ((i + j) / 2 + 1) < j - i; omega) ⟨⟨rfl, rfl⟩, ⟨rfl, rfl⟩, ⟨rfl, rfl⟩, ⟨rfl, rfl⟩, ⟨rfl, rfl⟩, ⟨rfl, rfl⟩, ⟨rfl, rfl⟩, trivial⟩ ⟨.inr rfl, trivial⟩
   ·skip
    have hneg := of_decide_eq_false h2
    refine .region ?_
    refine .step rfl (.move rfl rfl) ?_
    refine .step rfl (.assign rfl rfl) ?_
    refine .nil ?_
    refine TE.blk ?_
    exact TE.round id (fun _ _ e => e) ((i, (i + j) / 2, f - 1)) ⟨by show i ≤ (i + j) / 2; omega, by show (i + j) / 2 ≤ l.length; omega, by show (i + j) / 2 - i ≤ f - 1; omega, by rw [bsGo_step hij i3, ordAt_get hm, if_neg hneg] at i4; exact i4⟩ (by show (i + j) / 2 - i < j - i; omega) ⟨⟨rfl, rfl⟩, ⟨rfl, rfl⟩, ⟨rfl, rfl⟩, ⟨rfl, rfl⟩, ⟨rfl, rfl⟩, ⟨rfl, rfl⟩, ⟨rfl, rfl⟩, trivial⟩ ⟨.inr rfl, trivial⟩
  ·skip
   have hij : i = j := by have q : ¬ ((i : Int) < (j : Int)) := of_decide_eq_false h1; omega
   subst hij
   rw [bsGo_end (Nat.lt_irrefl i)] at i4
   subst i4
   refine .exit ?_
   refine TE.pass ?_
   refine TE.pass ?_
   refine TE.here ?_
   refine .next ?_
   refine .seq ?_
   by_cases hn : bsI l e.nm e.ver < l.length
   ·skip
    have hp : placeB l e.nm e.ver = decide (ordF e.nm e.ver l[bsI l e.nm e.ver] = 0) := by unfold placeB; rw [decide_eq_true hn, Bool.true_and, ordAt_get hn]
    refine .draw mixed [Ro.mk _ (Eff.mk (some (35, _)) []) [], Ro.mk _ (Eff.mk (some (36, _)) []) [], Ro.mk _ (Eff.mk (some (37, _)) []) [], Ro.mk _ (Eff.mk (some (38, _)) []) [], Ro.mk _ (Eff.mk (some (39, _)) []) [], Ro.mk _ (Eff.mk (some (40, _)) []) [], Ro.mk _ (Eff.mk (some (41, _)) []) [], Ro.mk _ (Eff.mk (some (42, _)) []) [], Ro.mk _ (Eff.mk (some (43, _)) []) [], Ro.mk _ (Eff.mk (some (44, _)) []) [], Ro.mk _ (Eff.mk (some (45, _)) []) [1], Ro.mk _ (Eff.mk (some (46, _)) []) [], Ro.mk _ (Eff.mk (some (47, _)) []) [], Ro.mk _ (Eff.mk (some (48, _)) []) [], Ro.mk _ (Eff.mk (some (6, _)) []) [], Ro.mk _ (Eff.mk (some (7, _)) []) []] rfl ⟨(fun _ _ => .move rfl rfl), (fun _ _ => .move rfl rfl), (fun _ _ => .move rfl rfl), (fun _ _ => .binv (.bool true) rfl rfl rfl rfl (congrArg Value.bool (decide_eq_true (by omega)))), (fun _ _ => .move rfl rfl), (.inr ⟨39, _, rfl, rfl, rfl, rfl, fun _ _ => .move rfl rfl⟩), (.inr ⟨39, _, rfl, rfl, rfl, rfl, fun _ _ => .move rfl rfl⟩), (.inr ⟨39, _, rfl, rfl, rfl, rfl, fun _ _ => .move rfl rfl⟩), (.inr ⟨39, _, rfl, rfl, rfl, rfl, fun _ _ => .idx (l[bsI l e.nm e.ver]) rfl rfl rfl rfl et24 (fun _ => rfl) (Int.natCast_nonneg _) (get_nat hn)⟩), (.inr ⟨39, _, rfl, rfl, rfl, rfl, fun _ _ => .ldem rfl rfl rfl rfl rfl tk32⟩), (.inr ⟨39, _, rfl, rfl, rfl, rfl, fun _ _ => .ldpm rfl rfl rfl rfl rfl rfl tk30⟩), (.inr ⟨39, _, rfl, rfl, rfl, rfl, fun _ _ => .callvf rfl rfl cf51 rfl ⟨trivial, trivial, trivial⟩ (order_any l[bsI l e.nm e.ver] e)⟩), (.inr ⟨39, _, rfl, rfl, rfl, rfl, fun _ _ => .bin rfl rfl rfl rfl⟩), (fun _ _ => .pick rfl rfl rfl), (fun _ _ => .assign rfl rfl), (fun _ _ => .assign rfl rfl), trivial⟩ (by kernel_rfl) ?_
    refine .next ?_
    refine .ret ?_
    rw [hp]
    exact TE.rettf rfl rfl rfl ⟨trivial, trivial, trivial⟩
   ·skip
    have hp : placeB l e.nm e.ver = false := by unfold placeB; rw [decide_eq_false hn, Bool.false_and]
    refine .draw mixed [Ro.mk _ (Eff.mk (some (35, _)) []) [], Ro.mk _ (Eff.mk (some (36, _)) []) [], Ro.mk _ (Eff.mk (some (37, _)) []) [], Ro.mk _ (Eff.mk (some (38, _)) []) [], Ro.mk _ (Eff.mk (some (39, _)) []) [], Ro.mk _ (Eff.mk (some (40, _)) []) [], Ro.mk _ (Eff.mk (some (41, _)) []) [], Ro.mk _ (Eff.mk (some (42, _)) []) [], Ro.mk _ (Eff.mk (some (43, _)) []) [], Ro.mk _ (Eff.mk (some (44, _)) []) [], Ro.mk _ (Eff.mk (some (45, _)) []) [], Ro.mk _ (Eff.mk (some (46, _)) []) [], Ro.mk _ (Eff.mk (some (47, _)) []) [], Ro.mk _ (Eff.mk (some (48, _)) []) [], Ro.mk _ (Eff.mk (some (6, _)) []) [], Ro.mk _ (Eff.mk (some (7, _)) []) []] rfl ⟨(fun _ _ => .move rfl rfl), (fun _ _ => .move rfl rfl), (fun _ _ => .move rfl rfl), (fun _ _ => .binv (.bool false) rfl rfl rfl rfl (congrArg Value.bool (decide_eq_false (by omega)))), (fun _ _ => .move rfl rfl), (.inr ⟨39, _, rfl, rfl, rfl, rfl, 40, rfl, rfl, rfl⟩), (.inr ⟨39, _, rfl, rfl, rfl, rfl, 41, rfl, rfl, rfl⟩), (.inr ⟨39, _, rfl, rfl, rfl, rfl, 42, rfl, rfl, rfl⟩), (.inr ⟨39, _, rfl, rfl, rfl, rfl, 43, rfl, rfl, rfl⟩), (.inr ⟨39, _, rfl, rfl, rfl, rfl, 44, rfl, rfl, rfl⟩), (.inr ⟨39, _, rfl, rfl, rfl, rfl, 45, rfl, rfl, rfl⟩), (.inr ⟨39, _, rfl, rfl, rfl, rfl, 46, rfl, rfl, rfl⟩), (.inr ⟨39, _, rfl, rfl, rfl, rfl, 47, rfl, rfl, rfl⟩), (fun _ _ => .pick rfl rfl rfl), (fun _ _ => .assign rfl rfl), (fun _ _ => .assign rfl rfl), trivial⟩ (by kernel_rfl) ?_
    refine .next ?_
    refine .ret ?_
    rw [hp]
    exact TE.rettf rfl rfl rfl ⟨trivial, trivial, trivial⟩

set_option maxRecDepth 100000 in
set_option maxHeartbeats 1600000 in
theorem place_any (l : List Kn) (nm : List UInt8) (v : Int) (hl : l.length ≤ 140737488355328) : PF Try.prog 33 [slT Kn.dv 4 l, .v (strV nm), .v (.int .i64 v)] (.tp [.v (.int .i64 (bsI l nm v)), .v (.bool (placeB l nm v))]) := by
  refine PF.enter (fn := Try.f33) Try.func33 rfl Try.ntmps33 rfl (fun w0 => ?_)
  refine .seq ?_
  refine .region ?_
  refine .step rfl (.assign rfl rfl) ?_
  refine .step rfl (.assign rfl rfl) ?_
  refine .nil ?_
  refine .next ?_
  refine .seq ?_
  refine .region ?_
  refine .step rfl (.move rfl rfl) ?_
  refine .step rfl (.move rfl rfl) ?_
  refine .step rfl (.move rfl rfl) ?_
  refine .step rfl (.build rfl rfl sp30 rfl rfl) ?_
  refine .step rfl (.callf rfl cf50 rfl ⟨trivial, trivial, trivial, trivial⟩ (bs_any l ⟨nm, v, 0⟩ hl)) ?_
  refine .step rfl (.extract rfl rfl rfl rfl) ?_
  refine .step rfl (.extract rfl rfl rfl rfl) ?_
  refine .step rfl (.assign rfl rfl) ?_
  refine .step rfl (.assign rfl rfl) ?_
  refine .nil ?_
  refine .next ?_
  refine .ret ?_
  exact TE.rettf rfl rfl rfl ⟨trivial, trivial, trivial⟩

set_option maxRecDepth 100000 in
set_option maxHeartbeats 1600000 in
theorem find_any (l : List Kn) (nm : List UInt8) (v : Int) (hl : l.length ≤ 140737488355328) : PF Try.prog 22 [slT Kn.dv 4 l, .v (strV nm), .v (.int .i64 v)] (.tp [.ag (findP l nm v).1.dv, .v (.bool (findP l nm v).2)]) := by
  refine PF.enter (fn := Try.f22) Try.func22 rfl Try.ntmps22 rfl (fun w0 => ?_)
  refine .seq ?_
  refine .region ?_
  refine .step rfl (.alloc 1 rfl rfl zc32 rfl) ?_
  refine .step rfl (.assign rfl rfl) ?_
  refine .nil ?_
  refine .next ?_
  refine .seq ?_
  refine .region ?_
  refine .step rfl (.move rfl rfl) ?_
  refine .step rfl (.move rfl rfl) ?_
  refine .step rfl (.move rfl rfl) ?_
  refine .step rfl (.callf rfl cf33 rfl ⟨trivial, trivial, trivial, trivial⟩ (place_any l nm v hl)) ?_
  refine .step rfl (.move rfl rfl) ?_
  refine .step rfl (.extract rfl rfl rfl rfl) ?_
  refine .step rfl (.extract rfl rfl rfl rfl) ?_
  refine .step rfl (.assign rfl rfl) ?_
  refine .step rfl (.assign rfl rfl) ?_
  refine .nil ?_
  refine .next ?_
  refine .seq ?_
  refine .seq ?_
  refine .region ?_
  refine .step rfl (.move rfl rfl) ?_
  refine .step rfl (.un rfl rfl rfl) ?_
  refine .nil ?_
  refine .next ?_
  refine .cond rfl (fun h1 => ?_) (fun h1 => ?_)
  ·skip
   have hp : placeB l nm v = false := by simpa using h1
   have e : findP l nm v = (zeroK, false) := by unfold findP; rw [if_neg (by rw [hp]; simp)]
   refine .seq ?_
   refine .region ?_
   refine .step rfl (.build rfl rfl sp32 rfl rfl) ?_
   refine .step rfl (.store rfl rfl rfl sz32 rfl rfl) ?_
   refine .step rfl (.assign rfl rfl) ?_
   refine .nil ?_
   refine .next ?_
   refine .ret ?_
   rw [e]
   exact TE.rettf rfl rfl rfl ⟨pl_ag (pl_kn (zeroK)), trivial, trivial⟩
  ·skip
   have hp : placeB l nm v = true := by simpa using h1
   have hi : bsI l nm v < l.length := by unfold placeB at hp; simp only [Bool.and_eq_true, decide_eq_true_eq] at hp; exact hp.1
   have e : findP l nm v = (l[bsI l nm v], true) := by unfold findP; rw [if_pos hp, List.getElem?_eq_getElem hi]
   refine .skip ?_
   refine .next ?_
   refine .seq ?_
   refine .region ?_
   refine .step rfl (.move rfl rfl) ?_
   refine .step rfl (.move rfl rfl) ?_
   refine .step rfl (.idx (l[bsI l nm v]) rfl rfl rfl rfl et24 (fun _ => rfl) (Int.natCast_nonneg _) (get_nat hi)) ?_
   refine .step rfl (.ldem rfl rfl rfl rfl rfl tk32) ?_
   refine .step rfl (.store rfl rfl rfl sz32 rfl rfl) ?_
   refine .step rfl (.assign rfl rfl) ?_
   refine .nil ?_
   refine .next ?_
   refine .ret ?_
   rw [e]
   exact TE.rettf rfl rfl rfl ⟨pl_ag (pl_kn (l[bsI l nm v])), trivial, trivial⟩

set_option maxRecDepth 100000 in
set_option maxHeartbeats 1600000 in
theorem latest_any (l : List Kn) (nm : List UInt8) (hl : l.length ≤ 140737488355328) : PF Try.prog 21 [slT Kn.dv 4 l, .v (strV nm)] (.tp [.ag (latP l nm).1.dv, .v (.bool (latP l nm).2)]) := by
  refine PF.enter (fn := Try.f21) Try.func21 rfl Try.ntmps21 rfl (fun w0 => ?_)
  refine .seq ?_
  refine .region ?_
  refine .step rfl (.alloc 1 rfl rfl zc32 rfl) ?_
  refine .step rfl (.assign rfl rfl) ?_
  refine .nil ?_
  refine .next ?_
  refine .seq ?_
  refine .region ?_
  refine .step rfl (.move rfl rfl) ?_
  refine .step rfl (.move rfl rfl) ?_
  refine .step rfl (.callf rfl cf33 rfl ⟨trivial, trivial, trivial, trivial⟩ (place_any l nm 1073741825 hl)) ?_
  refine .step rfl (.move rfl rfl) ?_
  refine .step rfl (.extract rfl rfl rfl rfl) ?_
  refine .step rfl (.extract rfl rfl rfl rfl) ?_
  refine .step rfl (.assign rfl rfl) ?_
  refine .step rfl (.assign rfl rfl) ?_
  refine .nil ?_
  refine .next ?_
  refine .seq ?_
  refine .seq ?_
  by_cases hz : bsI l nm 1073741825 = 0
  ·skip
   have e : latP l nm = (zeroK, false) := by unfold latP; rw [hz]; split <;> rfl
   refine .region ?_
   refine .step rfl (.move rfl rfl) ?_
   refine .step rfl (.binv (.bool true) rfl rfl rfl rfl (congrArg Value.bool (decide_eq_true (by omega)))) ?_
   refine .step rfl (.move rfl rfl) ?_
   refine .no 16 rfl rfl rfl rfl rfl rfl rfl ?_
   refine .no 16 rfl rfl rfl rfl rfl rfl rfl ?_
   refine .no 16 rfl rfl rfl rfl rfl rfl rfl ?_
   refine .no 16 rfl rfl rfl rfl rfl rfl rfl ?_
   refine .no 16 rfl rfl rfl rfl rfl rfl rfl ?_
   refine .no 16 rfl rfl rfl rfl rfl rfl rfl ?_
   refine .no 16 rfl rfl rfl rfl rfl rfl rfl ?_
   refine .no 16 rfl rfl rfl rfl rfl rfl rfl ?_
   refine .no 16 rfl rfl rfl rfl rfl rfl rfl ?_
   refine .step rfl (.pick rfl rfl rfl) ?_
   refine .nil ?_
   refine .next ?_
   refine .cond rfl (fun h2 => ?_) (fun h2 => absurd h2 (by decide))
   refine .seq ?_
   refine .region ?_
   refine .step rfl (.build rfl rfl sp32 rfl rfl) ?_
   refine .step rfl (.store rfl rfl rfl sz32 rfl rfl) ?_
   refine .step rfl (.assign rfl rfl) ?_
   refine .nil ?_
   refine .next ?_
   refine .ret ?_
   rw [e]
   exact TE.rettf rfl rfl rfl ⟨pl_ag (pl_kn (zeroK)), trivial, trivial⟩
  ·skip
   have hi : bsI l nm 1073741825 - 1 < l.length := by have := bsI_le l nm 1073741825; omega
   have hw : IntKind.i64.wrap ((bsI l nm 1073741825 : Int) - 1) = ((bsI l nm 1073741825 - 1 : Nat) : Int) := by have := bsI_le l nm 1073741825; rw [IntKind.wrap_i64]; omega
   refine .region ?_
   refine .step rfl (.move rfl rfl) ?_
   refine .step rfl (.binv (.bool false) rfl rfl rfl rfl (congrArg Value.bool (decide_eq_false (by omega)))) ?_
   refine .step rfl (.move rfl rfl) ?_
   refine .go 16 rfl rfl rfl rfl (.move rfl rfl) ?_
   refine .go 16 rfl rfl rfl rfl (.move rfl rfl) ?_
   refine .go 16 rfl rfl rfl rfl (.binv (.int .i64 ((bsI l nm 1073741825 - 1 : Nat) : Int)) rfl rfl rfl rfl (congrArg _ hw)) ?_
   refine .go 16 rfl rfl rfl rfl (.idx (l[bsI l nm 1073741825 - 1]) rfl rfl rfl rfl et24 (fun _ => rfl) (Int.natCast_nonneg _) (get_nat hi)) ?_
   refine .go 16 rfl rfl rfl rfl (.fielde rfl rfl rfl fo32_0) ?_
   refine .go 16 rfl rfl rfl rfl (.fielde rfl rfl rfl fo30_0) ?_
   refine .go 16 rfl rfl rfl rfl (.lde rfl rfl rfl rfl tk9) ?_
   refine .go 16 rfl rfl rfl rfl (.move rfl rfl) ?_
   refine .go 16 rfl rfl rfl rfl (.bin rfl rfl rfl rfl) ?_
   refine .step rfl (.pick rfl rfl rfl) ?_
   refine .nil ?_
   refine .next ?_
   refine .cond rfl (fun h3 => ?_) (fun h3 => ?_)
   ·skip
    have hne : ¬ (l[bsI l nm 1073741825 - 1].nm = nm) := by simpa using h3
    have e : latP l nm = (zeroK, false) := by unfold latP; rw [List.getElem?_eq_getElem hi]; simp only [if_neg hz, if_neg hne]
    refine .seq ?_
    refine .region ?_
    refine .step rfl (.build rfl rfl sp32 rfl rfl) ?_
    refine .step rfl (.store rfl rfl rfl sz32 rfl rfl) ?_
    refine .step rfl (.assign rfl rfl) ?_
    refine .nil ?_
    refine .next ?_
    refine .ret ?_
    rw [e]
    exact TE.rettf rfl rfl rfl ⟨pl_ag (pl_kn (zeroK)), trivial, trivial⟩
   ·skip
    have hne : l[bsI l nm 1073741825 - 1].nm = nm := by simpa using h3
    have e : latP l nm = (l[bsI l nm 1073741825 - 1], true) := by unfold latP; rw [List.getElem?_eq_getElem hi]; simp only [if_neg hz, if_pos hne]
    refine .skip ?_
    refine .next ?_
    refine .seq ?_
    refine .region ?_
    refine .step rfl (.move rfl rfl) ?_
    refine .step rfl (.move rfl rfl) ?_
    refine .step rfl (.binv (.int .i64 ((bsI l nm 1073741825 - 1 : Nat) : Int)) rfl rfl rfl rfl (congrArg _ hw)) ?_
    refine .step rfl (.idx (l[bsI l nm 1073741825 - 1]) rfl rfl rfl rfl et24 (fun _ => rfl) (Int.natCast_nonneg _) (get_nat hi)) ?_
    refine .step rfl (.ldem rfl rfl rfl rfl rfl tk32) ?_
    refine .step rfl (.store rfl rfl rfl sz32 rfl rfl) ?_
    refine .step rfl (.assign rfl rfl) ?_
    refine .nil ?_
    refine .next ?_
    refine .ret ?_
    rw [e]
    exact TE.rettf rfl rfl rfl ⟨pl_ag (pl_kn (l[bsI l nm 1073741825 - 1])), trivial, trivial⟩

end Go.Proofs.Ythidepbffhhkmaa
