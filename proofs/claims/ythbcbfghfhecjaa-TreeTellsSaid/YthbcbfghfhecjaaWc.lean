/-
  TreeTells.
-/
import Derived.Test.YthbcbfghfhecjaaVq
import Derived.Test.YthbcbfghfhecjaaTk
namespace Go.Proofs.Ythbcbfghfhecjaa
set_option linter.unusedVariables false
set_option linter.unusedSimpArgs false
open Go.RowKit Pl

theorem ap30 : apt Try.prog 30 = some (29, 2, 48) := by kernel_rfl
theorem ar29 : arr Try.prog 29 = some (2, 1) := by kernel_rfl
theorem cf13 : cfn Try.prog 13 = true := by kernel_rfl
theorem cf7 : cfn Try.prog 7 = true := by kernel_rfl
theorem cf8 : cfn Try.prog 8 = true := by kernel_rfl
theorem cf9 : cfn Try.prog 9 = true := by kernel_rfl
theorem et30 : elt Try.prog 30 = some (29, 2) := by kernel_rfl
theorem is30 : isSl Try.prog 30 = some true := by kernel_rfl
theorem is9 : isSl Try.prog 9 = some false := by kernel_rfl
theorem sp29 : stp Try.prog 29 = some ([.slice none 0 0, .slice none 0 0], [(0, 1), (1, 1)]) := by kernel_rfl
theorem sz29 : szt Try.prog 29 = some 2 := by kernel_rfl
theorem tk29 : tyk Try.prog 29 = some (some 2) := by kernel_rfl
theorem zc29 : zc Try.prog 29 = some [.slice none 0 0, .slice none 0 0] := by kernel_rfl

set_option maxRecDepth 100000 in
set_option maxHeartbeats 1600000 in
theorem treeTells_pf (nm : List UInt8) (ver key : Int) (a b : H) (raw : List It) (l m : List UInt16) (i : Int) (w0 : nm.length ≤ maxLen) (w1 : -9223372036854775808 ≤ ver ∧ ver < 9223372036854775808) (w2 : 0 ≤ key ∧ key < 18446744073709551616) (w8 : -9223372036854775808 ≤ i ∧ i < 9223372036854775808) : PF Try.prog 3 [.v (.string ⟨⟨nm⟩⟩), .v (.int .i64 ver), .v (.int .u64 key), .ag (hdv a), .ag (hdv b), slT It.dv 64 (raw), slT wdv 1 l, slT wdv 1 m, .v (.int .i64 i)] (.v (.bool true)) := by
  refine PF.enter (fn := Try.f3) Try.func3 rfl Try.ntmps3 rfl (fun w0 => ?_)
  refine .seq ?_
  refine .region ?_
  refine .step rfl (.box 1 rfl rfl rfl rfl) ?_
  refine .step rfl (.box 2 rfl rfl rfl rfl) ?_
  refine .step rfl (.assign rfl rfl) ?_
  refine .nil ?_
  refine TE.frzb 12 rfl rfl rfl rfl ?_
  refine TE.frzb 13 rfl rfl rfl rfl ?_
  refine .next ?_
  refine .seq ?_
  refine .seq ?_
  refine .region ?_
  refine .step rfl (.callf rfl cf7 rfl trivial (known_pf)) ?_
  refine .step rfl (.un rfl rfl rfl) ?_
  refine .nil ?_
  refine .next ?_
  refine .cond rfl (fun h1 => absurd h1 (by decide)) (fun h1 => ?_)
  refine .skip ?_
  refine .next ?_
  refine .seq ?_
  refine .seq ?_
  by_cases q0 : 60 < nm.length
  · skip
    refine .region ?_
    refine .step rfl (.move rfl rfl) ?_
    refine .step rfl (.lens rfl rfl is9) ?_
    refine .step rfl (.binv (.bool true) rfl rfl rfl rfl (congrArg Value.bool (decide_eq_true (by omega)))) ?_
    refine .step rfl (.move rfl rfl) ?_
    refine .no 29 rfl rfl rfl rfl rfl rfl rfl ?_
    refine .no 29 rfl rfl rfl rfl rfl rfl rfl ?_
    refine .no 29 rfl rfl rfl rfl rfl rfl rfl ?_
    refine .step rfl (.pick rfl rfl rfl) ?_
    refine .step rfl (.move rfl rfl) ?_
    refine .no 34 rfl rfl rfl rfl rfl rfl rfl ?_
    refine .no 34 rfl rfl rfl rfl rfl rfl rfl ?_
    refine .no 34 rfl rfl rfl rfl rfl rfl rfl ?_
    refine .step rfl (.pick rfl rfl rfl) ?_
    refine .step rfl (.move rfl rfl) ?_
    refine .no 39 rfl rfl rfl rfl rfl rfl rfl ?_
    refine .no 39 rfl rfl rfl rfl rfl rfl rfl ?_
    refine .no 39 rfl rfl rfl rfl rfl rfl rfl ?_
    refine .step rfl (.pick rfl rfl rfl) ?_
    refine .nil ?_
    refine .next ?_
    refine .cond rfl (fun h3 => ?_) (fun h3 => absurd h3 (by decide))
    refine .seq ?_
    refine .region ?_
    refine .step rfl (.assign rfl rfl) ?_
    refine .nil ?_
    refine .next ?_
    refine .ret ?_
    exact TE.retf rfl rfl rfl trivial
  · skip
    by_cases q1 : 20 < raw.length
    · skip
      refine .region ?_
      refine .step rfl (.move rfl rfl) ?_
      refine .step rfl (.lens rfl rfl is9) ?_
      refine .step rfl (.binv (.bool false) rfl rfl rfl rfl (congrArg Value.bool (decide_eq_false (by omega)))) ?_
      refine .step rfl (.move rfl rfl) ?_
      refine .go 29 rfl rfl rfl rfl (.move rfl rfl) ?_
      refine .go 29 rfl rfl rfl rfl (.len rfl rfl ⟨_, _, rfl⟩ is25) ?_
      refine .go 29 rfl rfl rfl rfl (.binv (.bool true) rfl rfl rfl rfl (congrArg Value.bool (decide_eq_true (by omega)))) ?_
      refine .step rfl (.pick rfl rfl rfl) ?_
      refine .step rfl (.move rfl rfl) ?_
      refine .no 34 rfl rfl rfl rfl rfl rfl rfl ?_
      refine .no 34 rfl rfl rfl rfl rfl rfl rfl ?_
      refine .no 34 rfl rfl rfl rfl rfl rfl rfl ?_
      refine .step rfl (.pick rfl rfl rfl) ?_
      refine .step rfl (.move rfl rfl) ?_
      refine .no 39 rfl rfl rfl rfl rfl rfl rfl ?_
      refine .no 39 rfl rfl rfl rfl rfl rfl rfl ?_
      refine .no 39 rfl rfl rfl rfl rfl rfl rfl ?_
      refine .step rfl (.pick rfl rfl rfl) ?_
      refine .nil ?_
      refine .next ?_
      refine .cond rfl (fun h5 => ?_) (fun h5 => absurd h5 (by decide))
      refine .seq ?_
      refine .region ?_
      refine .step rfl (.assign rfl rfl) ?_
      refine .nil ?_
      refine .next ?_
      refine .ret ?_
      exact TE.retf rfl rfl rfl trivial
    · skip
      by_cases q2 : 30 < l.length
      · skip
        refine .region ?_
        refine .step rfl (.move rfl rfl) ?_
        refine .step rfl (.lens rfl rfl is9) ?_
        refine .step rfl (.binv (.bool false) rfl rfl rfl rfl (congrArg Value.bool (decide_eq_false (by omega)))) ?_
        refine .step rfl (.move rfl rfl) ?_
        refine .go 29 rfl rfl rfl rfl (.move rfl rfl) ?_
        refine .go 29 rfl rfl rfl rfl (.len rfl rfl ⟨_, _, rfl⟩ is25) ?_
        refine .go 29 rfl rfl rfl rfl (.binv (.bool false) rfl rfl rfl rfl (congrArg Value.bool (decide_eq_false (by omega)))) ?_
        refine .step rfl (.pick rfl rfl rfl) ?_
        refine .step rfl (.move rfl rfl) ?_
        refine .go 34 rfl rfl rfl rfl (.move rfl rfl) ?_
        refine .go 34 rfl rfl rfl rfl (.len rfl rfl ⟨_, _, rfl⟩ is26) ?_
        refine .go 34 rfl rfl rfl rfl (.binv (.bool true) rfl rfl rfl rfl (congrArg Value.bool (decide_eq_true (by omega)))) ?_
        refine .step rfl (.pick rfl rfl rfl) ?_
        refine .step rfl (.move rfl rfl) ?_
        refine .no 39 rfl rfl rfl rfl rfl rfl rfl ?_
        refine .no 39 rfl rfl rfl rfl rfl rfl rfl ?_
        refine .no 39 rfl rfl rfl rfl rfl rfl rfl ?_
        refine .step rfl (.pick rfl rfl rfl) ?_
        refine .nil ?_
        refine .next ?_
        refine .cond rfl (fun h7 => ?_) (fun h7 => absurd h7 (by decide))
        refine .seq ?_
        refine .region ?_
        refine .step rfl (.assign rfl rfl) ?_
        refine .nil ?_
        refine .next ?_
        refine .ret ?_
        exact TE.retf rfl rfl rfl trivial
      · skip
        by_cases q3 : 20 < m.length
        · skip
          refine .region ?_
          refine .step rfl (.move rfl rfl) ?_
          refine .step rfl (.lens rfl rfl is9) ?_
          refine .step rfl (.binv (.bool false) rfl rfl rfl rfl (congrArg Value.bool (decide_eq_false (by omega)))) ?_
          refine .step rfl (.move rfl rfl) ?_
          refine .go 29 rfl rfl rfl rfl (.move rfl rfl) ?_
          refine .go 29 rfl rfl rfl rfl (.len rfl rfl ⟨_, _, rfl⟩ is25) ?_
          refine .go 29 rfl rfl rfl rfl (.binv (.bool false) rfl rfl rfl rfl (congrArg Value.bool (decide_eq_false (by omega)))) ?_
          refine .step rfl (.pick rfl rfl rfl) ?_
          refine .step rfl (.move rfl rfl) ?_
          refine .go 34 rfl rfl rfl rfl (.move rfl rfl) ?_
          refine .go 34 rfl rfl rfl rfl (.len rfl rfl ⟨_, _, rfl⟩ is26) ?_
          refine .go 34 rfl rfl rfl rfl (.binv (.bool false) rfl rfl rfl rfl (congrArg Value.bool (decide_eq_false (by omega)))) ?_
          refine .step rfl (.pick rfl rfl rfl) ?_
          refine .step rfl (.move rfl rfl) ?_
          refine .go 39 rfl rfl rfl rfl (.move rfl rfl) ?_
          refine .go 39 rfl rfl rfl rfl (.len rfl rfl ⟨_, _, rfl⟩ is26) ?_
          refine .go 39 rfl rfl rfl rfl (.binv (.bool true) rfl rfl rfl rfl (congrArg Value.bool (decide_eq_true (by omega)))) ?_
          refine .step rfl (.pick rfl rfl rfl) ?_
          refine .nil ?_
          refine .next ?_
          refine .cond rfl (fun h9 => ?_) (fun h9 => absurd h9 (by decide))
          refine .seq ?_
          refine .region ?_
          refine .step rfl (.assign rfl rfl) ?_
          refine .nil ?_
          refine .next ?_
          refine .ret ?_
          exact TE.retf rfl rfl rfl trivial
        · skip
          refine .region ?_
          refine .step rfl (.move rfl rfl) ?_
          refine .step rfl (.lens rfl rfl is9) ?_
          refine .step rfl (.binv (.bool false) rfl rfl rfl rfl (congrArg Value.bool (decide_eq_false (by omega)))) ?_
          refine .step rfl (.move rfl rfl) ?_
          refine .go 29 rfl rfl rfl rfl (.move rfl rfl) ?_
          refine .go 29 rfl rfl rfl rfl (.len rfl rfl ⟨_, _, rfl⟩ is25) ?_
          refine .go 29 rfl rfl rfl rfl (.binv (.bool false) rfl rfl rfl rfl (congrArg Value.bool (decide_eq_false (by omega)))) ?_
          refine .step rfl (.pick rfl rfl rfl) ?_
          refine .step rfl (.move rfl rfl) ?_
          refine .go 34 rfl rfl rfl rfl (.move rfl rfl) ?_
          refine .go 34 rfl rfl rfl rfl (.len rfl rfl ⟨_, _, rfl⟩ is26) ?_
          refine .go 34 rfl rfl rfl rfl (.binv (.bool false) rfl rfl rfl rfl (congrArg Value.bool (decide_eq_false (by omega)))) ?_
          refine .step rfl (.pick rfl rfl rfl) ?_
          refine .step rfl (.move rfl rfl) ?_
          refine .go 39 rfl rfl rfl rfl (.move rfl rfl) ?_
          refine .go 39 rfl rfl rfl rfl (.len rfl rfl ⟨_, _, rfl⟩ is26) ?_
          refine .go 39 rfl rfl rfl rfl (.binv (.bool false) rfl rfl rfl rfl (congrArg Value.bool (decide_eq_false (by omega)))) ?_
          refine .step rfl (.pick rfl rfl rfl) ?_
          refine .nil ?_
          refine .next ?_
          refine .cond rfl (fun h10 => absurd h10 (by decide)) (fun h10 => ?_)
          refine .skip ?_
          refine .next ?_
          refine .seq ?_
          refine .region ?_
          refine .step rfl (.move rfl rfl) ?_
          refine .step rfl (.callo 3 rfl rfl cf8 rfl ⟨trivial, trivial⟩ (items_po l (by omega))) ?_
          refine .step rfl (.move rfl rfl) ?_
          refine .step rfl (.callo 4 rfl rfl cf8 rfl ⟨trivial, trivial⟩ (items_po m (by omega))) ?_
          refine .step rfl (.assign rfl rfl) ?_
          refine .step rfl (.assign rfl rfl) ?_
          refine .nil ?_
          refine TE.frz 19 (slT It.dv 64 (l.map seatI)) rfl rfl (it_flat _) rfl ?_
          refine TE.frz 20 (slT It.dv 64 (m.map seatI)) rfl rfl (it_flat _) rfl ?_
          refine .next ?_
          refine .seq ?_
          refine .seq ?_
          refine .region ?_
          refine .step rfl (.move rfl rfl) ?_
          refine .step rfl (.move rfl rfl) ?_
          refine .step rfl (.build (ds := pdv (raw, l.map seatI)) rfl rfl sp29 rfl rfl) ?_
          refine .step rfl (.move rfl rfl) ?_
          refine .step rfl (.move rfl rfl) ?_
          refine .step rfl (.build (ds := pdv (l.map seatI, m.map seatI)) rfl rfl sp29 rfl rfl) ?_
          refine .step rfl (.move rfl rfl) ?_
          refine .step rfl (.move rfl rfl) ?_
          refine .step rfl (.build (ds := pdv (l.map seatI, raw)) rfl rfl sp29 rfl rfl) ?_
          refine .step rfl (.move rfl rfl) ?_
          refine .step rfl (.build (ds := [slT It.dv 64 (m.map seatI), .v (.slice none 0 0)]) rfl rfl sp29 rfl rfl) ?_
          refine .sub 58 (.ag (pdv (m.map seatI, []))) rfl rfl (sub_ag (subL_cons (Sub.refl _) (subL_cons (nil_sub It.dv 64) subL_nil))) ?_
          refine .step rfl (.buildsl (ds := [(raw, l.map seatI), (l.map seatI, m.map seatI), (l.map seatI, raw), (m.map seatI, [])].flatMap pdv) 5 rfl rfl rfl ap30 zc29 rfl rfl rfl) ?_
          refine .step rfl (.leno rfl rfl rfl is30) ?_
          refine .step rfl (.move rfl rfl) ?_
          refine .nil ?_
          refine TE.frz 59 (slT pdv 2 [(raw, l.map seatI), (l.map seatI, m.map seatI), (l.map seatI, raw), (m.map seatI, [])]) rfl rfl rfl rfl ?_
          have hps : ∀ p ∈ [(raw, l.map seatI), (l.map seatI, m.map seatI), (l.map seatI, raw), (m.map seatI, [])], p.1.length + p.2.length ≤ 50 := by intro p hp; simp only [List.mem_cons, List.not_mem_nil, or_false] at hp; rcases hp with rfl | rfl | rfl | rfl <;> simp <;> omega
          have hpl : [(raw, l.map seatI), (l.map seatI, m.map seatI), (l.map seatI, raw), (m.map seatI, [])].length = 4 := rfl
          generalize [(raw, l.map seatI), (l.map seatI, m.map seatI), (l.map seatI, raw), (m.map seatI, [])] = ps at hps hpl ⊢
          refine TE.setv 61 (.int .i64 ((0 : Nat) : Int)) rfl (congrArg _ (by first | rfl | (dsimp only; first | done | rfl | omega))) ?_
          refine .next ?_
          refine .block ?_
          refine TC.loop (S := Nat) (fun j => j ≤ ps.length) (fun j => ps.length - j) (fun j => [(0, .d (.v (.string ⟨⟨nm⟩⟩))), (1, .d (.v (.int .i64 ver))), (2, .d (.v (.int .u64 key))), (3, .d (.ag (hdv a))), (4, .d (.ag (hdv b))), (5, .d (slT It.dv 64 (raw))), (6, .d (slT wdv 1 l)), (7, .d (slT wdv 1 m)), (8, .d (.v (.int .i64 i))), (12, .d (.el (hdv a))), (13, .d (.el (hdv b))), (59, .d (slT pdv 2 ps)), (60, .f (.v (.int .i64 4))), (61, .d (.v (.int .i64 ((j : Nat) : Int))))]) (fun j => [(1, .dead), (2, .dead), (3, .dead), (4, .dead), (5, .dead)]) (0) (Nat.zero_le _) ⟨⟨rfl, rfl⟩, ⟨rfl, rfl⟩, ⟨rfl, rfl⟩, ⟨rfl, rfl⟩, ⟨rfl, rfl⟩, ⟨rfl, rfl⟩, ⟨rfl, rfl⟩, ⟨rfl, rfl⟩, ⟨rfl, rfl⟩, ⟨rfl, rfl⟩, ⟨rfl, rfl⟩, ⟨rfl, rfl⟩, ⟨rfl, rfl⟩, ⟨rfl, rfl⟩, trivial⟩ ⟨.inl rfl, .inl rfl, .inl rfl, .inl rfl, .inl rfl, trivial⟩ (fun j hI => ?_)
          refine .seq ?_
          refine .region ?_
          refine .step rfl (.bin rfl rfl rfl rfl) ?_
          refine .nil ?_
          refine .next ?_
          refine .seq ?_
          refine .cond rfl (fun h11 => ?_) (fun h11 => ?_)
          · skip
            have hj : j < ps.length := by have q := of_decide_eq_true h11; (try dsimp only at q); omega
            obtain ⟨p, hp⟩ : ∃ p, p = ps[j] := ⟨_, rfl⟩
            have hb := hps p (by rw [hp]; exact List.getElem_mem hj)
            have hb2 := setR_len p.1 p.2
            refine .skip ?_
            refine .next ?_
            refine .seq ?_
            refine .block ?_
            refine .seq ?_
            refine .region ?_
            refine .step rfl (.idx (p) rfl rfl rfl rfl et30 (fun _ => rfl) (Int.natCast_nonneg _) (hp ▸ get_nat hj)) ?_
            refine .step rfl (.ldem (ds := pdv p) rfl rfl rfl rfl rfl tk29) ?_
            refine .step rfl (.alloc 6 rfl rfl zc29 rfl) ?_
            refine .step rfl (.store rfl rfl rfl sz29 rfl rfl) ?_
            refine .nil ?_
            refine TE.obj 6 (.box 29 (pdv p)) rfl rfl ?_
            refine .next ?_
            refine .seq ?_
            refine .draw mixed [Ro.mk _ (Eff.mk (some (65, _)) []) [6], Ro.mk _ (Eff.mk (some (66, _)) []) [6], Ro.mk _ (Eff.mk (some (67, _)) []) [6], Ro.mk _ (Eff.mk (some (68, _)) []) [6], Ro.mk _ (Eff.mk (some (69, _)) []) [], Ro.mk _ (Eff.mk (some (70, _)) []) [6], Ro.mk _ (Eff.mk (some (71, _)) []) [6], Ro.mk _ (Eff.mk (some (72, _)) []) [6], Ro.mk _ (Eff.mk (some (73, _)) []) [6], Ro.mk _ (Eff.mk (some (74, _)) []) [], Ro.mk _ (Eff.mk (some (75, _)) []) [], Ro.mk _ (Eff.mk (some (76, _)) []) [], Ro.mk _ (Eff.mk (some (77, _)) []) [], Ro.mk _ (Eff.mk (some (78, _)) []) [6], Ro.mk _ (Eff.mk (some (79, _)) []) [6], Ro.mk _ (Eff.mk (some (80, _)) []) [], Ro.mk _ (Eff.mk (some (81, _)) []) [6], Ro.mk _ (Eff.mk (some (82, _)) []) [6], Ro.mk _ (Eff.mk (some (83, _)) []) [], Ro.mk _ (Eff.mk (some (84, _)) []) [], Ro.mk _ (Eff.mk (some (85, _)) []) []] rfl ⟨(fun _ _ => .idxp rfl rfl rfl rfl rfl ar29 (by decide) (by decide)), (fun _ _ => .ldp rfl rfl rfl rfl rfl tk25), (fun _ _ => .idxp rfl rfl rfl rfl rfl ar29 (by decide) (by decide)), (fun _ _ => .ldp rfl rfl rfl rfl rfl tk25), (fun _ _ => .callc rfl cf10 rfl (setr_pc p.1 p.2 (by omega))), (fun _ _ => .idxp rfl rfl rfl rfl rfl ar29 (by decide) (by decide)), (fun _ _ => .ldp rfl rfl rfl rfl rfl tk25), (fun _ _ => .idxp rfl rfl rfl rfl rfl ar29 (by decide) (by decide)), (fun _ _ => .ldp rfl rfl rfl rfl rfl tk25), (fun _ _ => .callf rfl cf11 rfl ⟨trivial, trivial, trivial⟩ ((rset_po p.1 p.2 (by omega)).pf)), (fun _ _ => .callf rfl cf9 rfl ⟨trivial, trivial, trivial⟩ (same_pf (setR p.1 p.2) (by omega))), (fun _ _ => .un rfl rfl rfl), (fun _ _ => .move rfl rfl), (.inr ⟨77, _, rfl, rfl, rfl, rfl, fun _ _ => .idxp rfl rfl rfl rfl rfl ar29 (by decide) (by decide)⟩), (.inr ⟨77, _, rfl, rfl, rfl, rfl, fun _ _ => .ldp rfl rfl rfl rfl rfl tk25⟩), (.inr ⟨77, _, rfl, rfl, rfl, rfl, fun _ _ => .callf rfl cf12 rfl ⟨trivial, trivial⟩ (root_pf p.1 (by omega))⟩), (.inr ⟨77, _, rfl, rfl, rfl, rfl, fun _ _ => .idxp rfl rfl rfl rfl rfl ar29 (by decide) (by decide)⟩), (.inr ⟨77, _, rfl, rfl, rfl, rfl, fun _ _ => .ldp rfl rfl rfl rfl rfl tk25⟩), (.inr ⟨77, _, rfl, rfl, rfl, rfl, fun _ _ => .callf rfl cf13 rfl ⟨trivial, trivial⟩ (rroot_all p.1 (by omega))⟩), (.inr ⟨77, _, rfl, rfl, rfl, rfl, fun _ _ => .nehf (a := rootH p.1) (b := rootH p.1) (rfl) rfl rfl rfl qh24⟩), (fun _ _ => .pick rfl rfl rfl), trivial⟩ (by kernel_rfl) ?_
            refine .next ?_
            refine .cond rfl (fun h12 => absurd h12 (by decide)) (fun h12 => ?_)
            refine .skip ?_
            refine TE.blk ?_
            refine .next ?_
            refine .region ?_
            refine .step rfl (.binv (.int .i64 ((j + 1 : Nat) : Int)) rfl rfl rfl rfl (congrArg _ (by (try dsimp only); rw [IntKind.wrap_i64]; omega))) ?_
            refine .step rfl (.move rfl rfl) ?_
            refine .nil ?_
            refine TE.setv 61 (.int .i64 ((j + 1 : Nat) : Int)) rfl (congrArg _ (by first | rfl | (dsimp only; first | done | rfl | omega))) ?_
            exact TE.round id (fun _ _ e => e) (j + 1) (by omega) (by omega) ⟨⟨rfl, rfl⟩, ⟨rfl, rfl⟩, ⟨rfl, rfl⟩, ⟨rfl, rfl⟩, ⟨rfl, rfl⟩, ⟨rfl, rfl⟩, ⟨rfl, rfl⟩, ⟨rfl, rfl⟩, ⟨rfl, rfl⟩, ⟨rfl, rfl⟩, ⟨rfl, rfl⟩, ⟨rfl, rfl⟩, ⟨rfl, rfl⟩, ⟨rfl, rfl⟩, trivial⟩ ⟨.inl rfl, .inl rfl, .inl rfl, .inl rfl, .inl rfl, trivial⟩
          · skip
            skip
            refine .exit ?_
            refine TE.pass ?_
            refine TE.pass ?_
            refine TE.here ?_
            refine .next ?_
            refine .seq ?_
            refine .region ?_
            refine .step rfl (.ldem (ds := hdv a) rfl rfl rfl rfl rfl tk24) ?_
            refine .step rfl (.ldem (ds := hdv b) rfl rfl rfl rfl rfl tk24) ?_
            refine .step rfl (.build (ds := (It.mk a b).dv) rfl rfl sp35 rfl rfl) ?_
            refine .step rfl (.alloc 7 rfl rfl zc35 rfl) ?_
            refine .step rfl (.store rfl rfl rfl sz35 rfl rfl) ?_
            refine .nil ?_
            refine TE.obj 7 (.box 35 (It.mk a b).dv) rfl rfl ?_
            refine .next ?_
            refine .seq ?_
            refine .draw mixed [Ro.mk _ (Eff.mk (some (90, _)) []) [], Ro.mk _ (Eff.mk (some (91, _)) []) [], Ro.mk _ (Eff.mk (some (92, _)) []) [], Ro.mk _ (Eff.mk (some (93, _)) []) [], Ro.mk _ (Eff.mk (some (94, _)) []) [], Ro.mk _ (Eff.mk (some (95, _)) []) [], Ro.mk _ (Eff.mk (some (96, _)) []) [], Ro.mk _ (Eff.mk (some (97, _)) []) [], Ro.mk _ (Eff.mk (some (98, _)) []) [], Ro.mk _ (Eff.mk (some (99, _)) []) [], Ro.mk _ (Eff.mk (some (100, _)) []) [], Ro.mk _ (Eff.mk (some (101, _)) []) [], Ro.mk _ (Eff.mk (some (102, _)) []) [], Ro.mk _ (Eff.mk (some (103, _)) []) [], Ro.mk _ (Eff.mk (some (104, _)) []) [], Ro.mk _ (Eff.mk (some (105, _)) []) [7], Ro.mk _ (Eff.mk (some (106, _)) []) [], Ro.mk _ (Eff.mk (some (107, _)) []) [7], Ro.mk _ (Eff.mk (some (108, _)) []) [], Ro.mk _ (Eff.mk (some (109, _)) []) [], Ro.mk _ (Eff.mk (some (110, _)) []) [], Ro.mk _ (Eff.mk (some (111, _)) []) [], Ro.mk _ (Eff.mk (some (112, _)) []) [], Ro.mk _ (Eff.mk (some (113, _)) []) [], Ro.mk _ (Eff.mk (some (114, _)) []) [], Ro.mk _ (Eff.mk (some (115, _)) []) [], Ro.mk _ (Eff.mk (some (116, _)) []) [], Ro.mk _ (Eff.mk (some (117, _)) []) [], Ro.mk _ (Eff.mk (some (118, _)) []) [], Ro.mk _ (Eff.mk (some (119, _)) []) [], Ro.mk _ (Eff.mk (some (120, _)) []) [], Ro.mk _ (Eff.mk (some (121, _)) []) [], Ro.mk _ (Eff.mk (some (122, _)) []) [], Ro.mk _ (Eff.mk (some (123, _)) []) [], Ro.mk _ (Eff.mk (some (124, _)) []) [], Ro.mk _ (Eff.mk (some (125, _)) []) [], Ro.mk _ (Eff.mk (some (126, _)) []) [], Ro.mk _ (Eff.mk (some (127, _)) []) [], Ro.mk _ (Eff.mk (some (128, _)) []) [], Ro.mk _ (Eff.mk (some (129, _)) []) [], Ro.mk _ (Eff.mk (some (130, _)) []) [], Ro.mk _ (Eff.mk (some (131, _)) []) [], Ro.mk _ (Eff.mk (some (132, _)) []) [], Ro.mk _ (Eff.mk (some (133, _)) []) [], Ro.mk _ (Eff.mk (some (134, _)) []) [], Ro.mk _ (Eff.mk (some (135, _)) []) [], Ro.mk _ (Eff.mk (some (136, _)) []) [], Ro.mk _ (Eff.mk (some (137, _)) []) [], Ro.mk _ (Eff.mk (some (138, _)) []) [], Ro.mk _ (Eff.mk (some (139, _)) []) [], Ro.mk _ (Eff.mk (some (140, _)) []) [], Ro.mk _ (Eff.mk (some (141, _)) []) [], Ro.mk _ (Eff.mk (some (142, _)) []) [], Ro.mk _ (Eff.mk (some (143, _)) []) [], Ro.mk _ (Eff.mk (some (144, _)) []) [], Ro.mk _ (Eff.mk (some (18, _)) []) []] rfl ⟨(fun _ _ => .move rfl rfl), (fun _ _ => .callf rfl cf14 rfl ⟨trivial, trivial⟩ (index_pf nm (by omega))), (fun _ _ => .move rfl rfl), (fun _ _ => .callf rfl cf15 rfl ⟨trivial, trivial⟩ (rindex_pf nm (by omega))), (fun _ _ => .eqht (a := indexH nm) (b := indexH nm) (rfl) rfl rfl rfl qh24), (fun _ _ => .move rfl rfl), (.inr ⟨95, _, rfl, rfl, rfl, rfl, fun _ _ => .move rfl rfl⟩), (.inr ⟨95, _, rfl, rfl, rfl, rfl, fun _ _ => .move rfl rfl⟩), (.inr ⟨95, _, rfl, rfl, rfl, rfl, fun _ _ => .callf rfl cf16 rfl ⟨trivial, trivial, trivial⟩ (value_pf ver key w2.1 w2.2)⟩), (.inr ⟨95, _, rfl, rfl, rfl, rfl, fun _ _ => .move rfl rfl⟩), (.inr ⟨95, _, rfl, rfl, rfl, rfl, fun _ _ => .move rfl rfl⟩), (.inr ⟨95, _, rfl, rfl, rfl, rfl, fun _ _ => .callf rfl cf17 rfl ⟨trivial, trivial, trivial⟩ (rvalue_pf ver key w2.1 w2.2)⟩), (.inr ⟨95, _, rfl, rfl, rfl, rfl, fun _ _ => .eqht (a := valueH ver key) (b := valueH ver key) (rfl) rfl rfl rfl qh24⟩), (fun _ _ => .pick rfl rfl rfl), (fun _ _ => .move rfl rfl), (.inr ⟨104, _, rfl, rfl, rfl, rfl, fun _ _ => .ldpm rfl rfl rfl rfl (show _ = (It.mk a b).dv from rfl) (it_len _) tk35⟩), (.inr ⟨104, _, rfl, rfl, rfl, rfl, fun _ _ => .callf rfl cf18 rfl ⟨trivial, trivial⟩ (leaf_pf (It.mk a b))⟩), (.inr ⟨104, _, rfl, rfl, rfl, rfl, fun _ _ => .ldpm rfl rfl rfl rfl (show _ = (It.mk a b).dv from rfl) (it_len _) tk35⟩), (.inr ⟨104, _, rfl, rfl, rfl, rfl, fun _ _ => .callf rfl cf19 rfl ⟨trivial, trivial⟩ (rleaf_pf (It.mk a b))⟩), (.inr ⟨104, _, rfl, rfl, rfl, rfl, fun _ _ => .eqht (a := tagH 108 [H.l a, H.l b]) (b := tagH 108 [H.l a, H.l b]) (rfl) rfl rfl rfl qh24⟩), (fun _ _ => .pick rfl rfl rfl), (fun _ _ => .move rfl rfl), (.inr ⟨111, _, rfl, rfl, rfl, rfl, fun _ _ => .ldem (ds := hdv a) rfl rfl rfl rfl rfl tk24⟩), (.inr ⟨111, _, rfl, rfl, rfl, rfl, fun _ _ => .ldem (ds := hdv b) rfl rfl rfl rfl rfl tk24⟩), (.inr ⟨111, _, rfl, rfl, rfl, rfl, fun _ _ => .callf rfl cf20 rfl ⟨trivial, trivial, trivial⟩ (node_pf a b)⟩), (.inr ⟨111, _, rfl, rfl, rfl, rfl, fun _ _ => .ldem (ds := hdv a) rfl rfl rfl rfl rfl tk24⟩), (.inr ⟨111, _, rfl, rfl, rfl, rfl, fun _ _ => .ldem (ds := hdv b) rfl rfl rfl rfl rfl tk24⟩), (.inr ⟨111, _, rfl, rfl, rfl, rfl, fun _ _ => .callf rfl cf21 rfl ⟨trivial, trivial, trivial⟩ (rnode_pf a b)⟩), (.inr ⟨111, _, rfl, rfl, rfl, rfl, fun _ _ => .eqht (a := tagH 110 [H.l a, H.l b]) (b := tagH 110 [H.l a, H.l b]) (rfl) rfl rfl rfl qh24⟩), (fun _ _ => .pick rfl rfl rfl), (fun _ _ => .move rfl rfl), (.inr ⟨120, _, rfl, rfl, rfl, rfl, fun _ _ => .callf rfl cf22 rfl trivial (empty_pf)⟩), (.inr ⟨120, _, rfl, rfl, rfl, rfl, fun _ _ => .callf rfl cf23 rfl trivial (rempty_pf)⟩), (.inr ⟨120, _, rfl, rfl, rfl, rfl, fun _ _ => .eqht (a := tagH 122 []) (b := tagH 122 []) (rfl) rfl rfl rfl qh24⟩), (fun _ _ => .pick rfl rfl rfl), (fun _ _ => .move rfl rfl), (.inr ⟨125, _, rfl, rfl, rfl, rfl, fun _ _ => .ldem (ds := hdv a) rfl rfl rfl rfl rfl tk24⟩), (.inr ⟨125, _, rfl, rfl, rfl, rfl, fun _ _ => .move rfl rfl⟩), (.inr ⟨125, _, rfl, rfl, rfl, rfl, fun _ _ => .callf rfl cf24 rfl ⟨trivial, trivial, trivial⟩ (bit_pf a i)⟩), (.inr ⟨125, _, rfl, rfl, rfl, rfl, fun _ _ => .ldem (ds := hdv a) rfl rfl rfl rfl rfl tk24⟩), (.inr ⟨125, _, rfl, rfl, rfl, rfl, fun _ _ => .move rfl rfl⟩), (.inr ⟨125, _, rfl, rfl, rfl, rfl, fun _ _ => .callf rfl cf25 rfl ⟨trivial, trivial, trivial⟩ (rbit_pf a i)⟩), (.inr ⟨125, _, rfl, rfl, rfl, rfl, fun _ _ => .binv (.bool true) rfl rfl rfl rfl (by simp)⟩), (fun _ _ => .pick rfl rfl rfl), (fun _ _ => .move rfl rfl), (.inr ⟨134, _, rfl, rfl, rfl, rfl, fun _ _ => .ldem (ds := hdv a) rfl rfl rfl rfl rfl tk24⟩), (.inr ⟨134, _, rfl, rfl, rfl, rfl, fun _ _ => .move rfl rfl⟩), (.inr ⟨134, _, rfl, rfl, rfl, rfl, fun _ _ => .bits (and255 i) rfl rfl rfl rfl (rfl)⟩), (.inr ⟨134, _, rfl, rfl, rfl, rfl, fun _ _ => .callf rfl cf24 rfl ⟨trivial, trivial, trivial⟩ (bit_pf a (and255 i))⟩), (.inr ⟨134, _, rfl, rfl, rfl, rfl, fun _ _ => .ldem (ds := hdv a) rfl rfl rfl rfl rfl tk24⟩), (.inr ⟨134, _, rfl, rfl, rfl, rfl, fun _ _ => .move rfl rfl⟩), (.inr ⟨134, _, rfl, rfl, rfl, rfl, fun _ _ => .bits (and255 i) rfl rfl rfl rfl (rfl)⟩), (.inr ⟨134, _, rfl, rfl, rfl, rfl, fun _ _ => .callf rfl cf25 rfl ⟨trivial, trivial, trivial⟩ (rbit_pf a (and255 i))⟩), (.inr ⟨134, _, rfl, rfl, rfl, rfl, fun _ _ => .binv (.bool true) rfl rfl rfl rfl (by simp)⟩), (fun _ _ => .pick rfl rfl rfl), (fun _ _ => .assign rfl rfl), trivial⟩ (by kernel_rfl) ?_
            refine .next ?_
            refine .ret ?_
            exact TE.retf rfl rfl rfl trivial

end Go.Proofs.Ythbcbfghfhecjaa
