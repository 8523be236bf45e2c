/-
  TreeOrder.
-/
import Derived.Test.YthbcbfghfhecjaaVq
import Derived.Test.YthbcbfghfhecjaaTk
namespace Go.Proofs.Ythbcbfghfhecjaa
set_option linter.unusedVariables false
set_option linter.unusedSimpArgs false
open Go.RowKit Pl

theorem cf7 : cfn Try.prog 7 = true := by kernel_rfl
theorem cf8 : cfn Try.prog 8 = true := by kernel_rfl
theorem cf9 : cfn Try.prog 9 = true := by kernel_rfl
theorem et43 : elt Try.prog 43 = some (5, 1) := by kernel_rfl
theorem is43 : isSl Try.prog 43 = some true := by kernel_rfl

set_option maxRecDepth 100000 in
set_option maxHeartbeats 1600000 in
theorem treeOrder_pf (l : List UInt16) (tu : List UInt8) : PF Try.prog 4 [slT wdv 1 l, slT bdv 1 tu] (.v (.bool true)) := by
  obtain ⟨X, hX⟩ : ∃ X, X = setR (l.map seatI) [] := ⟨_, rfl⟩
  have hs : Str X := by rw [hX]; exact setR_str _ _
  have hXl : X.length ≤ l.length := by rw [hX]; have := setR_len (l.map seatI) []; simpa using this
  have c1 : l.length ≤ 30 → PC Try.prog 10 [slT It.dv 64 (l.map seatI), slT It.dv 64 ([])] (slT It.dv 64 (X)) := fun h => by rw [hX]; exact setr_pc (l.map seatI) [] (by simp; omega)
  refine PF.enter (fn := Try.f4) Try.func4 rfl Try.ntmps4 rfl (fun w0 => ?_)
  refine .seq ?_
  refine .region ?_
  refine .step rfl (.assign rfl rfl) ?_
  refine .nil ?_
  refine .next ?_
  refine .seq ?_
  refine .seq ?_
  refine .region ?_
  refine .step rfl (.callf rfl cf7 rfl trivial (known_pf)) ?_
  refine .step rfl (.un rfl rfl rfl) ?_
  refine .nil ?_
  refine .next ?_
  refine .cond rfl (fun h1 => absurd h1 (by decide)) (fun h1 => ?_)
  refine .skip ?_
  refine .next ?_
  refine .seq ?_
  refine .seq ?_
  by_cases q0 : 30 < l.length
  · skip
    refine .region ?_
    refine .step rfl (.move rfl rfl) ?_
    refine .step rfl (.len rfl rfl ⟨_, _, rfl⟩ is26) ?_
    refine .step rfl (.binv (.bool true) rfl rfl rfl rfl (congrArg Value.bool (decide_eq_true (by omega)))) ?_
    refine .step rfl (.move rfl rfl) ?_
    refine .no 16 rfl rfl rfl rfl rfl rfl rfl ?_
    refine .no 16 rfl rfl rfl rfl rfl rfl rfl ?_
    refine .no 16 rfl rfl rfl rfl rfl rfl rfl ?_
    refine .step rfl (.pick rfl rfl rfl) ?_
    refine .nil ?_
    refine .next ?_
    refine .cond rfl (fun h3 => ?_) (fun h3 => absurd h3 (by decide))
    refine .seq ?_
    refine .region ?_
    refine .step rfl (.assign rfl rfl) ?_
    refine .nil ?_
    refine .next ?_
    refine .ret ?_
    exact TE.retf rfl rfl rfl trivial
  · skip
    by_cases q1 : 40 < tu.length
    · skip
      refine .region ?_
      refine .step rfl (.move rfl rfl) ?_
      refine .step rfl (.len rfl rfl ⟨_, _, rfl⟩ is26) ?_
      refine .step rfl (.binv (.bool false) rfl rfl rfl rfl (congrArg Value.bool (decide_eq_false (by omega)))) ?_
      refine .step rfl (.move rfl rfl) ?_
      refine .go 16 rfl rfl rfl rfl (.move rfl rfl) ?_
      refine .go 16 rfl rfl rfl rfl (.len rfl rfl ⟨_, _, rfl⟩ is43) ?_
      refine .go 16 rfl rfl rfl rfl (.binv (.bool true) rfl rfl rfl rfl (congrArg Value.bool (decide_eq_true (by omega)))) ?_
      refine .step rfl (.pick rfl rfl rfl) ?_
      refine .nil ?_
      refine .next ?_
      refine .cond rfl (fun h5 => ?_) (fun h5 => absurd h5 (by decide))
      refine .seq ?_
      refine .region ?_
      refine .step rfl (.assign rfl rfl) ?_
      refine .nil ?_
      refine .next ?_
      refine .ret ?_
      exact TE.retf rfl rfl rfl trivial
    · skip
      refine .region ?_
      refine .step rfl (.move rfl rfl) ?_
      refine .step rfl (.len rfl rfl ⟨_, _, rfl⟩ is26) ?_
      refine .step rfl (.binv (.bool false) rfl rfl rfl rfl (congrArg Value.bool (decide_eq_false (by omega)))) ?_
      refine .step rfl (.move rfl rfl) ?_
      refine .go 16 rfl rfl rfl rfl (.move rfl rfl) ?_
      refine .go 16 rfl rfl rfl rfl (.len rfl rfl ⟨_, _, rfl⟩ is43) ?_
      refine .go 16 rfl rfl rfl rfl (.binv (.bool false) rfl rfl rfl rfl (congrArg Value.bool (decide_eq_false (by omega)))) ?_
      refine .step rfl (.pick rfl rfl rfl) ?_
      refine .nil ?_
      refine .next ?_
      refine .cond rfl (fun h6 => absurd h6 (by decide)) (fun h6 => ?_)
      refine .skip ?_
      refine .next ?_
      refine .seq ?_
      refine .region ?_
      refine .step rfl (.move rfl rfl) ?_
      refine .step rfl (.callo 1 rfl rfl cf8 rfl ⟨trivial, trivial⟩ (items_po l (by omega))) ?_
      refine .frz 22 (slT It.dv 64 (l.map seatI)) rfl rfl (it_flat _) rfl ?_
      refine .step rfl (.callc rfl cf10 rfl (.nil2 (c1 (by omega)))) ?_
      refine .step rfl (.assign rfl rfl) ?_
      refine .nil ?_
      refine .next ?_
      refine .seq ?_
      refine .region ?_
      refine .step rfl (.move rfl rfl) ?_
      refine .step rfl (.append0 2 rfl rfl rfl ap25 rfl rfl trivial (it_all _) (by omega) (by omega)) ?_
      refine .step rfl (.assign rfl rfl) ?_
      refine .nil ?_
      refine .next ?_
      refine .seq ?_
      refine .seq ?_
      refine .region ?_
      refine .step rfl (.assign rfl rfl) ?_
      refine .nil ?_
      refine TE.setv 7 (.int .i64 ((0 : Nat) : Int)) rfl (congrArg _ (by first | rfl | (dsimp only; first | done | rfl | omega))) ?_
      refine .next ?_
      refine .block ?_
      refine TC.loop (S := Nat × List It) (fun s => s.1 ≤ tu.length ∧ s.2.length = X.length ∧ ∀ z, z ∈ s.2 ↔ z ∈ X) (fun s => tu.length - s.1) (fun s => [(0, .d (slT wdv 1 l)), (1, .d (slT bdv 1 tu)), (5, .d (slT It.dv 64 (X))), (6, .ow 2 X.length 64), (7, .d (.v (.int .i64 ((s.1 : Nat) : Int))))]) (fun s => [(1, .dead), (2, .row 35 64 ((s.2).flatMap It.dv))]) ((0, X)) ⟨Nat.zero_le _, rfl, fun _ => Iff.rfl⟩ ⟨⟨rfl, rfl⟩, ⟨rfl, rfl⟩, ⟨rfl, rfl⟩, ⟨rfl, rfl⟩, ⟨rfl, rfl⟩, trivial⟩ ⟨.inl rfl, .inr rfl, trivial⟩ (fun s hI => ?_)
      obtain ⟨i, ys⟩ := s
      obtain ⟨i1, i2, i3⟩ := hI
      have i1 : i ≤ tu.length := i1
      have i2 : ys.length = X.length := i2
      have i3 : ∀ z, z ∈ ys ↔ z ∈ X := i3
      refine .seq ?_
      refine .seq ?_
      by_cases hi : i < tu.length
      · skip
        by_cases hx0 : 0 < X.length
        · skip
          obtain ⟨u, hu⟩ : ∃ u, u = tu[i] := ⟨_, rfl⟩
          obtain ⟨pa, hpa'⟩ : ∃ pa, pa = u.toNat % X.length := ⟨_, rfl⟩
          obtain ⟨pb, hpb'⟩ : ∃ pb, pb = i % X.length := ⟨_, rfl⟩
          have hpa : pa < ys.length := by rw [i2, hpa']; exact Nat.mod_lt _ hx0
          have hpb : pb < ys.length := by rw [i2, hpb']; exact Nat.mod_lt _ hx0
          refine .region ?_
          refine .step rfl (.move rfl rfl) ?_
          refine .step rfl (.move rfl rfl) ?_
          refine .step rfl (.len rfl rfl ⟨_, _, rfl⟩ is43) ?_
          refine .step rfl (.binv (.bool true) rfl rfl rfl rfl (congrArg Value.bool (decide_eq_true (by omega)))) ?_
          refine .step rfl (.move rfl rfl) ?_
          refine .go 30 rfl rfl rfl rfl (.move rfl rfl) ?_
          refine .go 30 rfl rfl rfl rfl (.leno rfl rfl rfl is25) ?_
          refine .go 30 rfl rfl rfl rfl (.binv (.bool true) rfl rfl rfl rfl (congrArg Value.bool (decide_eq_true (by omega)))) ?_
          refine .step rfl (.pick rfl rfl rfl) ?_
          refine .nil ?_
          refine .next ?_
          refine .cond rfl (fun h9 => ?_) (fun h9 => absurd h9 (by decide))
          refine .skip ?_
          refine .next ?_
          refine .seq ?_
          refine .block ?_
          refine .seq ?_
          refine .draw mixed [Ro.mk _ (Eff.mk (some (37, _)) []) [], Ro.mk _ (Eff.mk (some (38, _)) []) [], Ro.mk _ (Eff.mk (some (39, _)) []) [], Ro.mk _ (Eff.mk (some (40, _)) []) [], Ro.mk _ (Eff.mk (some (41, _)) []) [], Ro.mk _ (Eff.mk (some (42, _)) []) [], Ro.mk _ (Eff.mk (some (43, _)) []) [2], Ro.mk _ (Eff.mk (some (44, _)) []) [], Ro.mk _ (Eff.mk (some (45, _)) []) [], Ro.mk _ (Eff.mk (some (46, _)) []) [], Ro.mk _ (Eff.mk (some (47, _)) []) [2], Ro.mk _ (Eff.mk (some (48, _)) []) [], Ro.mk _ (Eff.mk (some (8, _)) []) [], Ro.mk _ (Eff.mk (some (9, _)) []) []] rfl ⟨(fun _ _ => .move rfl rfl), (fun _ _ => .move rfl rfl), (fun _ _ => .idx (u) rfl rfl rfl rfl et43 (fun _ => rfl) (Int.natCast_nonneg _) (hu ▸ get_nat hi)), (fun _ _ => .lde rfl rfl rfl rfl tk5), (fun _ _ => .conviv (((u.toNat : Nat) : Int)) rfl rfl uk5 uk3 (wrap_nat _ (by have := u.toNat_lt; omega))), (fun _ _ => .move rfl rfl), (fun _ _ => .leno rfl rfl rfl is25), (fun _ _ => .rem (((pa : Nat) : Int)) rfl rfl rfl (by omega) (by rw [hpa', Int.tmod_eq_emod_of_nonneg (by omega)]; omega)), (fun _ _ => .move rfl rfl), (fun _ _ => .move rfl rfl), (fun _ _ => .leno rfl rfl rfl is25), (fun _ _ => .rem (((pb : Nat) : Int)) rfl rfl rfl (by omega) (by rw [hpb', Int.tmod_eq_emod_of_nonneg (by omega)]; (try dsimp only); omega)), (fun _ _ => .assign rfl rfl), (fun _ _ => .assign rfl rfl), trivial⟩ (by kernel_rfl) ?_
          refine .next ?_
          refine .draw mixed [Ro.mk _ (Eff.mk (some (49, _)) []) [], Ro.mk _ (Eff.mk (some (50, _)) []) [], Ro.mk _ (Eff.mk (some (51, _)) []) [], Ro.mk _ (Eff.mk (some (52, _)) []) [], Ro.mk _ (Eff.mk (some (53, _)) []) [], Ro.mk _ (Eff.mk (some (54, _)) []) [], Ro.mk _ (Eff.mk (some (55, _)) []) [2], Ro.mk _ (Eff.mk (some (56, _)) []) [2], Ro.mk _ (Eff.mk (some (57, _)) []) [], Ro.mk _ (Eff.mk (some (58, _)) []) [], Ro.mk _ (Eff.mk (some (59, _)) []) [2], Ro.mk _ (Eff.mk (some (60, _)) []) [2], Ro.mk _ (Eff.mk (some (61, _)) []) [2], Ro.mk _ (Eff.mk none [(2, _)]) [2], Ro.mk _ (Eff.mk (some (62, _)) []) [2], Ro.mk _ (Eff.mk none [(2, _)]) [2]] rfl ⟨(fun _ _ => .move rfl rfl), (fun _ _ => .move rfl rfl), (fun _ _ => .move rfl rfl), (fun _ _ => .move rfl rfl), (fun _ _ => .move rfl rfl), (fun _ _ => .move rfl rfl), (fun _ _ => .idxo rfl rfl rfl rfl rfl et25 (Int.natCast_nonneg _) (by omega)), (fun _ _ => .ldpm rfl rfl rfl rfl (flat_at it_len ys (hpb)) (it_len _) tk35), (fun _ _ => .move rfl rfl), (fun _ _ => .move rfl rfl), (fun _ _ => .idxo rfl rfl rfl rfl rfl et25 (Int.natCast_nonneg _) (by omega)), (fun _ _ => .ldpm rfl rfl rfl rfl (flat_at it_len ys (hpa)) (it_len _) tk35), (fun _ _ => .idxo rfl rfl rfl rfl rfl et25 (Int.natCast_nonneg _) (by omega)), (fun _ _ => .storer (xs := ys) (enc := It.dv) (ys[pb]) rfl rfl rfl rfl rfl rfl (fun _ => rfl) sz35 rfl (hpa)), (fun _ _ => .idxo rfl rfl rfl rfl rfl et25 (Int.natCast_nonneg _) (by omega)), (fun _ _ => .storer (xs := ys.set pa ys[pb]) (enc := It.dv) (ys[pa]) rfl rfl rfl rfl rfl rfl (fun _ => rfl) sz35 rfl (by rw [List.length_set]; exact hpb)), trivial⟩ (by kernel_rfl) ?_
          refine TE.blk ?_
          refine .next ?_
          refine .region ?_
          refine .step rfl (.move rfl rfl) ?_
          refine .step rfl (.binv (.int .i64 ((i + 1 : Nat) : Int)) rfl rfl rfl rfl (congrArg _ (by (try dsimp only); rw [IntKind.wrap_i64]; omega))) ?_
          refine .step rfl (.assign rfl rfl) ?_
          refine .nil ?_
          refine TE.obj 2 (.row 35 64 ((swI ys pa pb).flatMap It.dv)) rfl (by unfold swI; rw [at_eq hpa, at_eq hpb]) ?_
          refine TE.setv 7 (.int .i64 ((i + 1 : Nat) : Int)) rfl (congrArg _ (by first | rfl | (dsimp only; first | done | rfl | omega))) ?_
          exact TE.round id (fun _ _ e => e) ((i + 1, swI ys pa pb)) ⟨by show i + 1 ≤ _; omega, by show (swI ys pa pb).length = _; rw [swI_len]; exact i2, fun z => (swI_perm ys (by omega) (by omega) z).trans (i3 z)⟩ (by show _ - (i + 1) < _ - i; omega) ⟨⟨rfl, rfl⟩, ⟨rfl, rfl⟩, ⟨rfl, rfl⟩, ⟨rfl, rfl⟩, ⟨rfl, rfl⟩, trivial⟩ ⟨.inl rfl, .inr rfl, trivial⟩
        · skip
          refine .region ?_
          refine .step rfl (.move rfl rfl) ?_
          refine .step rfl (.move rfl rfl) ?_
          refine .step rfl (.len rfl rfl ⟨_, _, rfl⟩ is43) ?_
          refine .step rfl (.binv (.bool true) rfl rfl rfl rfl (congrArg Value.bool (decide_eq_true (by omega)))) ?_
          refine .step rfl (.move rfl rfl) ?_
          refine .go 30 rfl rfl rfl rfl (.move rfl rfl) ?_
          refine .go 30 rfl rfl rfl rfl (.leno rfl rfl rfl is25) ?_
          refine .go 30 rfl rfl rfl rfl (.binv (.bool false) rfl rfl rfl rfl (congrArg Value.bool (decide_eq_false (by omega)))) ?_
          refine .step rfl (.pick rfl rfl rfl) ?_
          refine .nil ?_
          refine .next ?_
          refine .cond rfl (fun h10 => absurd h10 (by decide)) (fun h10 => ?_)
          refine .exit ?_
          refine TE.pass ?_
          refine TE.pass ?_
          refine TE.here ?_
          refine .next ?_
          refine .seq ?_
          refine .region ?_
          refine .step rfl (.move rfl rfl) ?_
          refine .step rfl (.callf rfl cf12 rfl ⟨trivial, trivial⟩ (root_pf X (by omega))) ?_
          refine .step rfl (.alloc 3 rfl rfl zc24 rfl) ?_
          refine .step rfl (.store rfl rfl rfl sz24 rfl rfl) ?_
          refine .nil ?_
          refine TE.obj 3 (.box 24 (hdv (rootH X))) rfl rfl ?_
          refine TE.frz 6 (slT It.dv 64 (ys)) rfl rfl (by rw [it_flat, i2]) (by rw [← i2]) ?_
          refine .next ?_
          refine .seq ?_
          have c3 := root_pf (ys ++ X) (by rw [List.length_append]; omega)
          unfold slT at c3
          rw [List.length_append, List.flatMap_append] at c3
          have c4 : PC Try.prog 10 [slT It.dv 64 (ys), slT It.dv 64 (X)] (slT It.dv 64 (X)) := by have := setr_pc ys X (by omega); rwa [setR_same hs (by intro z; rw [List.mem_append, i3 z]; simp)] at this
          have c5 : PC Try.prog 10 [slT It.dv 64 ([]), slT It.dv 64 (ys)] (slT It.dv 64 (X)) := by have := setr_pc [] ys (by simp; omega); rwa [setR_same hs (by intro z; simpa using i3 z)] at this
          refine .draw mixed [Ro.mk _ (Eff.mk (some (65, _)) []) [], Ro.mk _ (Eff.mk (some (66, _)) []) [], Ro.mk _ (Eff.mk (some (67, _)) []) [3], Ro.mk _ (Eff.mk (some (68, _)) []) [], Ro.mk _ (Eff.mk (some (69, _)) []) [], Ro.mk _ (Eff.mk (some (70, _)) []) [], Ro.mk _ (Eff.mk (some (71, _)) [(4, _)]) [4], Ro.mk _ (Eff.mk (some (72, _)) []) [], Ro.mk _ (Eff.mk (some (73, _)) [(4, .dead), (5, _)]) [4, 5], Ro.mk _ (Eff.mk (some (74, _)) []) [5], Ro.mk _ (Eff.mk (some (75, _)) []) [3], Ro.mk _ (Eff.mk (some (76, _)) []) [], Ro.mk _ (Eff.mk (some (77, _)) []) [], Ro.mk _ (Eff.mk (some (78, _)) []) [], Ro.mk _ (Eff.mk (some (79, _)) []) [], Ro.mk _ (Eff.mk (some (80, _)) []) [], Ro.mk _ (Eff.mk (some (81, _)) []) [], Ro.mk _ (Eff.mk (some (82, _)) []) [], Ro.mk _ (Eff.mk (some (83, _)) []) [], Ro.mk _ (Eff.mk (some (84, _)) []) [], Ro.mk _ (Eff.mk (some (85, _)) []) [], Ro.mk _ (Eff.mk (some (86, _)) []) [], Ro.mk _ (Eff.mk (some (87, _)) []) [], Ro.mk _ (Eff.mk (some (88, _)) []) [], Ro.mk _ (Eff.mk (some (89, _)) []) [], Ro.mk _ (Eff.mk (some (90, _)) []) [], Ro.mk _ (Eff.mk (some (4, _)) []) []] rfl ⟨(fun _ _ => .move rfl rfl), (fun _ _ => .callf rfl cf12 rfl ⟨trivial, trivial⟩ (root_pf ys (by omega))), (fun _ _ => .ldpm rfl rfl rfl rfl (show _ = hdv (rootH X) from rfl) (h_len _) tk24), (fun _ _ => .eqht (a := rootH ys) (b := rootH X) (root_same hs i3) rfl rfl rfl qh24), (fun _ _ => .move rfl rfl), (.inr ⟨69, _, rfl, rfl, rfl, rfl, fun _ _ => .move rfl rfl⟩), (.inr ⟨69, _, rfl, rfl, rfl, rfl, fun _ _ => .append0 4 rfl rfl rfl ap25 rfl rfl trivial (it_all _) (by omega) (by omega)⟩), (.inr ⟨69, _, rfl, rfl, rfl, rfl, fun _ _ => .move rfl rfl⟩), (.inr ⟨69, _, rfl, rfl, rfl, rfl, fun _ _ => .append 5 rfl rfl rfl (it_flat _) rfl ap25 rfl rfl trivial (it_all _) (by omega) (by omega)⟩), (.inr ⟨69, _, rfl, rfl, rfl, rfl, fun _ _ => .callf rfl cf12 rfl ⟨okA_len rfl (by rw [List.length_append, it_flat, it_flat]; omega), trivial⟩ (c3)⟩), (.inr ⟨69, _, rfl, rfl, rfl, rfl, fun _ _ => .ldpm rfl rfl rfl rfl (show _ = hdv (rootH X) from rfl) (h_len _) tk24⟩), (.inr ⟨69, _, rfl, rfl, rfl, rfl, fun _ _ => .eqht (a := rootH (ys ++ X)) (b := rootH X) (root_same hs (by intro z; rw [List.mem_append, i3 z]; simp)) rfl rfl rfl qh24⟩), (fun _ _ => .pick rfl rfl rfl), (fun _ _ => .move rfl rfl), (.inr ⟨78, _, rfl, rfl, rfl, rfl, fun _ _ => .move rfl rfl⟩), (.inr ⟨78, _, rfl, rfl, rfl, rfl, fun _ _ => .move rfl rfl⟩), (.inr ⟨78, _, rfl, rfl, rfl, rfl, fun _ _ => .callc rfl cf10 rfl (c4)⟩), (.inr ⟨78, _, rfl, rfl, rfl, rfl, fun _ _ => .move rfl rfl⟩), (.inr ⟨78, _, rfl, rfl, rfl, rfl, fun _ _ => .callf rfl cf9 rfl ⟨trivial, trivial, trivial⟩ (same_pf X (by omega))⟩), (fun _ _ => .pick rfl rfl rfl), (fun _ _ => .move rfl rfl), (.inr ⟨85, _, rfl, rfl, rfl, rfl, fun _ _ => .move rfl rfl⟩), (.inr ⟨85, _, rfl, rfl, rfl, rfl, fun _ _ => .callc rfl cf10 rfl (.nil1 c5)⟩), (.inr ⟨85, _, rfl, rfl, rfl, rfl, fun _ _ => .move rfl rfl⟩), (.inr ⟨85, _, rfl, rfl, rfl, rfl, fun _ _ => .callf rfl cf9 rfl ⟨trivial, trivial, trivial⟩ (same_pf X (by omega))⟩), (fun _ _ => .pick rfl rfl rfl), (fun _ _ => .assign rfl rfl), trivial⟩ (by kernel_rfl) ?_
          refine .next ?_
          refine .ret ?_
          exact TE.retf rfl rfl rfl trivial
      · skip
        refine .region ?_
        refine .step rfl (.move rfl rfl) ?_
        refine .step rfl (.move rfl rfl) ?_
        refine .step rfl (.len rfl rfl ⟨_, _, rfl⟩ is43) ?_
        refine .step rfl (.binv (.bool false) rfl rfl rfl rfl (congrArg Value.bool (decide_eq_false (by omega)))) ?_
        refine .step rfl (.move rfl rfl) ?_
        refine .no 30 rfl rfl rfl rfl rfl rfl rfl ?_
        refine .no 30 rfl rfl rfl rfl rfl rfl rfl ?_
        refine .no 30 rfl rfl rfl rfl rfl rfl rfl ?_
        refine .step rfl (.pick rfl rfl rfl) ?_
        refine .nil ?_
        refine .next ?_
        refine .cond rfl (fun h11 => absurd h11 (by decide)) (fun h11 => ?_)
        refine .exit ?_
        refine TE.pass ?_
        refine TE.pass ?_
        refine TE.here ?_
        refine .next ?_
        refine .seq ?_
        refine .region ?_
        refine .step rfl (.move rfl rfl) ?_
        refine .step rfl (.callf rfl cf12 rfl ⟨trivial, trivial⟩ (root_pf X (by omega))) ?_
        refine .step rfl (.alloc 6 rfl rfl zc24 rfl) ?_
        refine .step rfl (.store rfl rfl rfl sz24 rfl rfl) ?_
        refine .nil ?_
        refine TE.obj 6 (.box 24 (hdv (rootH X))) rfl rfl ?_
        refine TE.frz 6 (slT It.dv 64 (ys)) rfl rfl (by rw [it_flat, i2]) (by rw [← i2]) ?_
        refine .next ?_
        refine .seq ?_
        have c3 := root_pf (ys ++ X) (by rw [List.length_append]; omega)
        unfold slT at c3
        rw [List.length_append, List.flatMap_append] at c3
        have c4 : PC Try.prog 10 [slT It.dv 64 (ys), slT It.dv 64 (X)] (slT It.dv 64 (X)) := by have := setr_pc ys X (by omega); rwa [setR_same hs (by intro z; rw [List.mem_append, i3 z]; simp)] at this
        have c5 : PC Try.prog 10 [slT It.dv 64 ([]), slT It.dv 64 (ys)] (slT It.dv 64 (X)) := by have := setr_pc [] ys (by simp; omega); rwa [setR_same hs (by intro z; simpa using i3 z)] at this
        refine .draw mixed [Ro.mk _ (Eff.mk (some (65, _)) []) [], Ro.mk _ (Eff.mk (some (66, _)) []) [], Ro.mk _ (Eff.mk (some (67, _)) []) [6], Ro.mk _ (Eff.mk (some (68, _)) []) [], Ro.mk _ (Eff.mk (some (69, _)) []) [], Ro.mk _ (Eff.mk (some (70, _)) []) [], Ro.mk _ (Eff.mk (some (71, _)) [(7, _)]) [7], Ro.mk _ (Eff.mk (some (72, _)) []) [], Ro.mk _ (Eff.mk (some (73, _)) [(7, .dead), (8, _)]) [7, 8], Ro.mk _ (Eff.mk (some (74, _)) []) [8], Ro.mk _ (Eff.mk (some (75, _)) []) [6], Ro.mk _ (Eff.mk (some (76, _)) []) [], Ro.mk _ (Eff.mk (some (77, _)) []) [], Ro.mk _ (Eff.mk (some (78, _)) []) [], Ro.mk _ (Eff.mk (some (79, _)) []) [], Ro.mk _ (Eff.mk (some (80, _)) []) [], Ro.mk _ (Eff.mk (some (81, _)) []) [], Ro.mk _ (Eff.mk (some (82, _)) []) [], Ro.mk _ (Eff.mk (some (83, _)) []) [], Ro.mk _ (Eff.mk (some (84, _)) []) [], Ro.mk _ (Eff.mk (some (85, _)) []) [], Ro.mk _ (Eff.mk (some (86, _)) []) [], Ro.mk _ (Eff.mk (some (87, _)) []) [], Ro.mk _ (Eff.mk (some (88, _)) []) [], Ro.mk _ (Eff.mk (some (89, _)) []) [], Ro.mk _ (Eff.mk (some (90, _)) []) [], Ro.mk _ (Eff.mk (some (4, _)) []) []] rfl ⟨(fun _ _ => .move rfl rfl), (fun _ _ => .callf rfl cf12 rfl ⟨trivial, trivial⟩ (root_pf ys (by omega))), (fun _ _ => .ldpm rfl rfl rfl rfl (show _ = hdv (rootH X) from rfl) (h_len _) tk24), (fun _ _ => .eqht (a := rootH ys) (b := rootH X) (root_same hs i3) rfl rfl rfl qh24), (fun _ _ => .move rfl rfl), (.inr ⟨69, _, rfl, rfl, rfl, rfl, fun _ _ => .move rfl rfl⟩), (.inr ⟨69, _, rfl, rfl, rfl, rfl, fun _ _ => .append0 7 rfl rfl rfl ap25 rfl rfl trivial (it_all _) (by omega) (by omega)⟩), (.inr ⟨69, _, rfl, rfl, rfl, rfl, fun _ _ => .move rfl rfl⟩), (.inr ⟨69, _, rfl, rfl, rfl, rfl, fun _ _ => .append 8 rfl rfl rfl (it_flat _) rfl ap25 rfl rfl trivial (it_all _) (by omega) (by omega)⟩), (.inr ⟨69, _, rfl, rfl, rfl, rfl, fun _ _ => .callf rfl cf12 rfl ⟨okA_len rfl (by rw [List.length_append, it_flat, it_flat]; omega), trivial⟩ (c3)⟩), (.inr ⟨69, _, rfl, rfl, rfl, rfl, fun _ _ => .ldpm rfl rfl rfl rfl (show _ = hdv (rootH X) from rfl) (h_len _) tk24⟩), (.inr ⟨69, _, rfl, rfl, rfl, rfl, fun _ _ => .eqht (a := rootH (ys ++ X)) (b := rootH X) (root_same hs (by intro z; rw [List.mem_append, i3 z]; simp)) rfl rfl rfl qh24⟩), (fun _ _ => .pick rfl rfl rfl), (fun _ _ => .move rfl rfl), (.inr ⟨78, _, rfl, rfl, rfl, rfl, fun _ _ => .move rfl rfl⟩), (.inr ⟨78, _, rfl, rfl, rfl, rfl, fun _ _ => .move rfl rfl⟩), (.inr ⟨78, _, rfl, rfl, rfl, rfl, fun _ _ => .callc rfl cf10 rfl (c4)⟩), (.inr ⟨78, _, rfl, rfl, rfl, rfl, fun _ _ => .move rfl rfl⟩), (.inr ⟨78, _, rfl, rfl, rfl, rfl, fun _ _ => .callf rfl cf9 rfl ⟨trivial, trivial, trivial⟩ (same_pf X (by omega))⟩), (fun _ _ => .pick rfl rfl rfl), (fun _ _ => .move rfl rfl), (.inr ⟨85, _, rfl, rfl, rfl, rfl, fun _ _ => .move rfl rfl⟩), (.inr ⟨85, _, rfl, rfl, rfl, rfl, fun _ _ => .callc rfl cf10 rfl (.nil1 c5)⟩), (.inr ⟨85, _, rfl, rfl, rfl, rfl, fun _ _ => .move rfl rfl⟩), (.inr ⟨85, _, rfl, rfl, rfl, rfl, fun _ _ => .callf rfl cf9 rfl ⟨trivial, trivial, trivial⟩ (same_pf X (by omega))⟩), (fun _ _ => .pick rfl rfl rfl), (fun _ _ => .assign rfl rfl), trivial⟩ (by kernel_rfl) ?_
        refine .next ?_
        refine .ret ?_
        exact TE.retf rfl rfl rfl trivial

end Go.Proofs.Ythbcbfghfhecjaa
