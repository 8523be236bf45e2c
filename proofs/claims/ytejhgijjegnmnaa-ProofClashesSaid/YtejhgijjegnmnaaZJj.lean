/-
  Proofs that say unlike things.
-/
import Derived.Test.YtejhgijjegnmnaaZJi
import Derived.Test.YtejhgijjegnmnaaZFi
namespace Go.Proofs.Ytejhgijjegnmnaa
set_option linter.unusedVariables false
set_option linter.unusedSimpArgs false
open Go.RowKit Pl
theorem cf54 : cfn Try.prog 54 = true := by kernel_rfl
theorem ub4 : ubl Try.prog 4 = true := by kernel_rfl
set_option maxRecDepth 100000 in
set_option maxHeartbeats 1600000 in
theorem beq_pf (a b : List UInt8) (ha : a.length ≤ 549755813888) (hb : b.length ≤ 549755813888) : PF Try.prog 54 [slT bdv 1 a, slT bdv 1 b] (.v (.bool (decide (a = b)))) := by
  refine PF.enter (fn := Try.f54) Try.func54 rfl Try.ntmps54 rfl (fun w0 => ?_)
  refine .seq ?_
  refine .region ?_
  refine .step rfl (.assign rfl rfl) ?_
  refine .nil ?_
  refine .next ?_
  refine .seq ?_
  refine .region ?_
  refine .step rfl (.move rfl rfl) ?_
  refine .step rfl (.convbd (l := a) rfl rfl u844 us9) ?_
  refine .step rfl (.move rfl rfl) ?_
  refine .step rfl (.convbd (l := b) rfl rfl u844 us9) ?_
  refine .step rfl (.bin rfl rfl rfl rfl) ?_
  refine .step rfl (.assign rfl rfl) ?_
  refine .nil ?_
  refine .next ?_
  refine .ret ?_
  exact TE.retf rfl rfl rfl trivial
set_option maxRecDepth 100000 in
set_option maxHeartbeats 1600000 in
theorem clash_pc (ix : H) (p q : Pf) : PC Try.prog 27 [.ag (hdv (ix)), .ag p.dv, .ag q.dv] (.tp [slT bdv 1 (clashF ix p q).1, slT bdv 1 (clashF ix p q).2.1, .v (.bool (clashF ix p q).2.2)]) := by
  refine PC.enter (fn := Try.f27) Try.func27 rfl Try.ntmps27 rfl (fun w0 K0 => ?_)
  refine .seq ?_
  refine .region ?_
  refine .step rfl (.box 1 rfl rfl rfl rfl) ?_
  refine .step rfl (.box 2 rfl rfl rfl rfl) ?_
  refine .step rfl (.box 3 rfl rfl rfl rfl) ?_
  refine .step rfl (.assign rfl rfl) ?_
  refine .step rfl (.assign rfl rfl) ?_
  refine .step rfl (.assign rfl rfl) ?_
  refine .nil ?_
  refine TE.frzb 3 rfl rfl rfl rfl ?_
  refine TE.frzb 4 rfl rfl rfl rfl ?_
  refine TE.frzb 5 rfl rfl rfl rfl ?_
  refine .next ?_
  refine .seq ?_
  refine .seq ?_
  refine .region ?_
  refine .step rfl (.ldem (ds := hdv ix) rfl rfl rfl rfl rfl tk25) ?_
  refine .step rfl (.ldem (ds := p.dv) rfl rfl rfl rfl rfl tk30) ?_
  refine .step rfl (.callf rfl cf19 rfl ⟨trivial, trivial, trivial⟩ (pfright_pf ix p)) ?_
  refine .step rfl (.un rfl rfl rfl) ?_
  refine .step rfl (.move rfl rfl) ?_
  refine .case 18 rfl (fun h1 => ?_) (fun h1 => ?_)
  ·skip
   have hP : ¬ rightF ix p = true := by simpa using h1
   have hst : ¬ Stated ix p q := by unfold Stated; grind
   refine .no 18 rfl rfl rfl rfl rfl rfl rfl ?_
   refine .no 18 rfl rfl rfl rfl rfl rfl rfl ?_
   refine .no 18 rfl rfl rfl rfl rfl rfl rfl ?_
   refine .no 18 rfl rfl rfl rfl rfl rfl rfl ?_
   refine .step rfl (.pick rfl rfl rfl) ?_
   refine .step rfl (.move rfl rfl) ?_
   refine .no 24 rfl rfl rfl rfl rfl rfl rfl ?_
   refine .no 24 rfl rfl rfl rfl rfl rfl rfl ?_
   refine .no 24 rfl rfl rfl rfl rfl rfl rfl ?_
   refine .no 24 rfl rfl rfl rfl rfl rfl rfl ?_
   refine .no 24 rfl rfl rfl rfl rfl rfl rfl ?_
   refine .no 24 rfl rfl rfl rfl rfl rfl rfl ?_
   refine .no 24 rfl rfl rfl rfl rfl rfl rfl ?_
   refine .no 24 rfl rfl rfl rfl rfl rfl rfl ?_
   refine .no0 32 rfl rfl rfl rfl rfl ?_
   refine .no0 32 rfl rfl rfl rfl rfl ?_
   refine .no0 32 rfl rfl rfl rfl rfl ?_
   refine .no0 32 rfl rfl rfl rfl rfl ?_
   refine .no0 36 rfl rfl rfl rfl rfl ?_
   refine .no0 36 rfl rfl rfl rfl rfl ?_
   refine .no0 36 rfl rfl rfl rfl rfl ?_
   refine .no0 36 rfl rfl rfl rfl rfl ?_
   refine .no0 36 rfl rfl rfl rfl rfl ?_
   refine .no0 36 rfl rfl rfl rfl rfl ?_
   refine .no0 36 rfl rfl rfl rfl rfl ?_
   refine .no0 32 rfl rfl rfl rfl rfl ?_
   refine .no 24 rfl rfl rfl rfl rfl rfl rfl ?_
   refine .step rfl (.pick rfl rfl rfl) ?_
   refine .nil ?_
   refine .next ?_
   refine .cond rfl (fun h2 => ?_) (fun h2 => absurd h2 (by decide))
   refine .seq ?_
   refine .region ?_
   refine .step rfl (.assign rfl rfl) ?_
   refine .step rfl (.assign rfl rfl) ?_
   refine .step rfl (.assign rfl rfl) ?_
   refine .nil ?_
   refine .next ?_
   refine .ret ?_
   have hcl := clash_none hst
   rw [hcl]
   refine TE.sub 6 (slT bdv 1 []) rfl rfl (nil_sub _ _) ?_
   refine TE.sub 7 (slT bdv 1 []) rfl rfl (nil_sub _ _) ?_
   exact TE.rettc rfl rfl rfl
  ·skip
   have hP : rightF ix p = true := by simpa using h1
   refine .go 18 rfl rfl rfl rfl (.ldem (ds := hdv ix) rfl rfl rfl rfl rfl tk25) ?_
   refine .go 18 rfl rfl rfl rfl (.ldem (ds := q.dv) rfl rfl rfl rfl rfl tk30) ?_
   refine .go 18 rfl rfl rfl rfl (.callf rfl cf19 rfl ⟨trivial, trivial, trivial⟩ (pfright_pf ix q)) ?_
   refine .go 18 rfl rfl rfl rfl (.un rfl rfl rfl) ?_
   refine .step rfl (.pick rfl rfl rfl) ?_
   refine .step rfl (.move rfl rfl) ?_
   refine .case 24 rfl (fun h3 => ?_) (fun h3 => ?_)
   ·skip
    have hQ : ¬ rightF ix q = true := by simpa using h3
    have hst : ¬ Stated ix p q := by unfold Stated; grind
    refine .no 24 rfl rfl rfl rfl rfl rfl rfl ?_
    refine .no 24 rfl rfl rfl rfl rfl rfl rfl ?_
    refine .no 24 rfl rfl rfl rfl rfl rfl rfl ?_
    refine .no 24 rfl rfl rfl rfl rfl rfl rfl ?_
    refine .no 24 rfl rfl rfl rfl rfl rfl rfl ?_
    refine .no 24 rfl rfl rfl rfl rfl rfl rfl ?_
    refine .no 24 rfl rfl rfl rfl rfl rfl rfl ?_
    refine .no 24 rfl rfl rfl rfl rfl rfl rfl ?_
    refine .no0 32 rfl rfl rfl rfl rfl ?_
    refine .no0 32 rfl rfl rfl rfl rfl ?_
    refine .no0 32 rfl rfl rfl rfl rfl ?_
    refine .no0 32 rfl rfl rfl rfl rfl ?_
    refine .no0 36 rfl rfl rfl rfl rfl ?_
    refine .no0 36 rfl rfl rfl rfl rfl ?_
    refine .no0 36 rfl rfl rfl rfl rfl ?_
    refine .no0 36 rfl rfl rfl rfl rfl ?_
    refine .no0 36 rfl rfl rfl rfl rfl ?_
    refine .no0 36 rfl rfl rfl rfl rfl ?_
    refine .no0 36 rfl rfl rfl rfl rfl ?_
    refine .no0 32 rfl rfl rfl rfl rfl ?_
    refine .no 24 rfl rfl rfl rfl rfl rfl rfl ?_
    refine .step rfl (.pick rfl rfl rfl) ?_
    refine .nil ?_
    refine .next ?_
    refine .cond rfl (fun h4 => ?_) (fun h4 => absurd h4 (by decide))
    refine .seq ?_
    refine .region ?_
    refine .step rfl (.assign rfl rfl) ?_
    refine .step rfl (.assign rfl rfl) ?_
    refine .step rfl (.assign rfl rfl) ?_
    refine .nil ?_
    refine .next ?_
    refine .ret ?_
    have hcl := clash_none hst
    rw [hcl]
    refine TE.sub 6 (slT bdv 1 []) rfl rfl (nil_sub _ _) ?_
    refine TE.sub 7 (slT bdv 1 []) rfl rfl (nil_sub _ _) ?_
    exact TE.rettc rfl rfl rfl
   ·skip
    have hQ : rightF ix q = true := by simpa using h3
    refine .go 24 rfl rfl rfl rfl (.fielde rfl rfl rfl fo30_1) ?_
    refine .go 24 rfl rfl rfl rfl (.lde rfl rfl rfl rfl tk3) ?_
    refine .go 24 rfl rfl rfl rfl (.bin rfl rfl rfl rfl) ?_
    refine .go 24 rfl rfl rfl rfl (.fielde rfl rfl rfl fo30_1) ?_
    refine .go 24 rfl rfl rfl rfl (.lde rfl rfl rfl rfl tk3) ?_
    refine .go 24 rfl rfl rfl rfl (.bin rfl rfl rfl rfl) ?_
    refine .go 24 rfl rfl rfl rfl (.eqb (decide (p.en = 0) == decide (q.en = 0)) rfl rfl rfl ub4 rfl) ?_
    refine .go 24 rfl rfl rfl rfl (.move rfl rfl) ?_
    refine .case 32 rfl (fun h5 => ?_) (fun h5 => ?_)
    ·skip
     have hE : p.en = 0 ↔ q.en = 0 := by simpa using h5
     refine .go 32 rfl rfl rfl rfl (.fielde rfl rfl rfl fo30_1) ?_
     refine .go 32 rfl rfl rfl rfl (.lde rfl rfl rfl rfl tk3) ?_
     refine .go 32 rfl rfl rfl rfl (.bin rfl rfl rfl rfl) ?_
     refine .go 32 rfl rfl rfl rfl (.move rfl rfl) ?_
     refine .case 36 rfl (fun h6 => ?_) (fun h6 => ?_)
     ·skip
      have hN : ¬ p.en = 0 := by simpa using h6
      have hst : ¬ Stated ix p q := by unfold Stated; grind
      refine .no 36 rfl rfl rfl rfl rfl rfl rfl ?_
      refine .no 36 rfl rfl rfl rfl rfl rfl rfl ?_
      refine .no 36 rfl rfl rfl rfl rfl rfl rfl ?_
      refine .no 36 rfl rfl rfl rfl rfl rfl rfl ?_
      refine .no 36 rfl rfl rfl rfl rfl rfl rfl ?_
      refine .no 36 rfl rfl rfl rfl rfl rfl rfl ?_
      refine .no 36 rfl rfl rfl rfl rfl rfl rfl ?_
      refine .go 32 rfl rfl rfl rfl (.pick rfl rfl rfl) ?_
      refine .go 24 rfl rfl rfl rfl (.pick rfl rfl rfl) ?_
      refine .step rfl (.pick rfl rfl rfl) ?_
      refine .nil ?_
      refine .next ?_
      refine .cond rfl (fun h7 => ?_) (fun h7 => absurd h7 (by decide))
      refine .seq ?_
      refine .region ?_
      refine .step rfl (.assign rfl rfl) ?_
      refine .step rfl (.assign rfl rfl) ?_
      refine .step rfl (.assign rfl rfl) ?_
      refine .nil ?_
      refine .next ?_
      refine .ret ?_
      have hcl := clash_none hst
      rw [hcl]
      refine TE.sub 6 (slT bdv 1 []) rfl rfl (nil_sub _ _) ?_
      refine TE.sub 7 (slT bdv 1 []) rfl rfl (nil_sub _ _) ?_
      exact TE.rettc rfl rfl rfl
     ·skip
      have hN : p.en = 0 := by simpa using h6
      refine .go 36 rfl rfl rfl rfl (.fielde rfl rfl rfl fo30_2) ?_
      refine .go 36 rfl rfl rfl rfl (.fielde rfl rfl rfl fo28_1) ?_
      refine .go 36 rfl rfl rfl rfl (.ldem (ds := hdv p.it.vl) rfl rfl rfl rfl rfl tk25) ?_
      refine .go 36 rfl rfl rfl rfl (.fielde rfl rfl rfl fo30_2) ?_
      refine .go 36 rfl rfl rfl rfl (.fielde rfl rfl rfl fo28_1) ?_
      refine .go 36 rfl rfl rfl rfl (.ldem (ds := hdv q.it.vl) rfl rfl rfl rfl rfl tk25) ?_
      refine .go 36 rfl rfl rfl rfl (.eqh (a := p.it.vl) (b := q.it.vl) rfl rfl rfl qh25) ?_
      refine .go 32 rfl rfl rfl rfl (.pick rfl rfl rfl) ?_
      refine .go 24 rfl rfl rfl rfl (.pick rfl rfl rfl) ?_
      refine .step rfl (.pick rfl rfl rfl) ?_
      refine .nil ?_
      refine .next ?_
      refine .cond rfl (fun h8 => ?_) (fun h8 => ?_)
      ·skip
       have hv : H.l p.it.vl = H.l q.it.vl := of_decide_eq_true h8
       have hst : ¬ Stated ix p q := by unfold Stated; grind
       refine .seq ?_
       refine .region ?_
       refine .step rfl (.assign rfl rfl) ?_
       refine .step rfl (.assign rfl rfl) ?_
       refine .step rfl (.assign rfl rfl) ?_
       refine .nil ?_
       refine .next ?_
       refine .ret ?_
       have hcl := clash_none hst
       rw [hcl]
       refine TE.sub 6 (slT bdv 1 []) rfl rfl (nil_sub _ _) ?_
       refine TE.sub 7 (slT bdv 1 []) rfl rfl (nil_sub _ _) ?_
       exact TE.rettc rfl rfl rfl
      ·skip
       have hv : ¬ H.l p.it.vl = H.l q.it.vl := of_decide_eq_false h8
       have hst : Stated ix p q := by unfold Stated; grind
       refine .skip ?_
       refine .next ?_
       refine .seq ?_
       have hs1 := rightF_short hP
       have hs2 := rightF_short hQ
       refine .region ?_
       refine .step rfl (.ldem (ds := hdv ix) rfl rfl rfl rfl rfl tk25) ?_
       refine .step rfl (.ldem (ds := p.dv) rfl rfl rfl rfl rfl tk30) ?_
       refine .step rfl (.callc rfl cf41 rfl (texts_pc ix p (by omega))) ?_
       refine .step rfl (.move rfl rfl) ?_
       refine .step rfl (.extract rfl rfl rfl rfl) ?_
       refine .step rfl (.extract rfl rfl rfl rfl) ?_
       refine .step rfl (.alloc 4 rfl rfl zc25 rfl) ?_
       refine .step rfl (.assign rfl rfl) ?_
       refine .step rfl (.store rfl rfl rfl sz25 rfl rfl) ?_
       refine .nil ?_
       refine TE.obj 4 (.box 25 (hdv (txH ix p p.path.length))) rfl rfl ?_
       refine TE.set 9 (.d (slT ldv 1 (txR ix p))) rfl rfl ?_
       refine .next ?_
       refine .seq ?_
       refine .region ?_
       refine .step rfl (.ldem (ds := hdv ix) rfl rfl rfl rfl rfl tk25) ?_
       refine .step rfl (.ldem (ds := q.dv) rfl rfl rfl rfl rfl tk30) ?_
       refine .step rfl (.callc rfl cf41 rfl (texts_pc ix q (by omega))) ?_
       refine .step rfl (.move rfl rfl) ?_
       refine .step rfl (.extract rfl rfl rfl rfl) ?_
       refine .step rfl (.extract rfl rfl rfl rfl) ?_
       refine .step rfl (.alloc 5 rfl rfl zc25 rfl) ?_
       refine .step rfl (.assign rfl rfl) ?_
       refine .step rfl (.store rfl rfl rfl sz25 rfl rfl) ?_
       refine .nil ?_
       refine TE.obj 5 (.box 25 (hdv (txH ix q q.path.length))) rfl rfl ?_
       refine TE.set 11 (.d (slT ldv 1 (txR ix q))) rfl rfl ?_
       refine .next ?_
       refine .seq ?_
       refine .seq ?_
       refine .region ?_
       refine .step rfl (.ldpm (ds := hdv (txH ix p p.path.length)) rfl rfl rfl rfl rfl rfl tk25) ?_
       refine .step rfl (.ldpm (ds := hdv (txH ix q q.path.length)) rfl rfl rfl rfl rfl rfl tk25) ?_
       refine .step rfl (.neh (a := txH ix p p.path.length) (b := txH ix q q.path.length) rfl rfl rfl qh25) ?_
       refine .nil ?_
       refine .next ?_
       refine .cond rfl (fun h9 => ?_) (fun h9 => ?_)
       ·skip
        have hT : ¬ H.l (txH ix p p.path.length) = H.l (txH ix q q.path.length) := of_decide_eq_true h9
        refine .seq ?_
        refine .region ?_
        refine .step rfl (.assign rfl rfl) ?_
        refine .step rfl (.assign rfl rfl) ?_
        refine .step rfl (.assign rfl rfl) ?_
        refine .nil ?_
        refine .next ?_
        refine .ret ?_
        have hcl := clash_root hT
        rw [hcl]
        refine TE.sub 6 (slT bdv 1 []) rfl rfl (nil_sub _ _) ?_
        refine TE.sub 7 (slT bdv 1 []) rfl rfl (nil_sub _ _) ?_
        exact TE.rettc rfl rfl rfl
       ·skip
        have hT : H.l (txH ix p p.path.length) = H.l (txH ix q q.path.length) := by have z := of_decide_eq_false h9; exact Classical.byContradiction z
        refine .skip ?_
        refine .next ?_
        refine .seq ?_
        refine .seq ?_
        refine .region ?_
        refine .step rfl (.move rfl rfl) ?_
        refine .step rfl (.len rfl rfl ⟨_, _, rfl⟩ is48) ?_
        refine .step rfl (.move rfl rfl) ?_
        refine .step rfl (.len rfl rfl ⟨_, _, rfl⟩ is48) ?_
        refine .step rfl (.min2 rfl rfl rfl) ?_
        refine .step rfl (.move rfl rfl) ?_
        refine .nil ?_
        have hc := clash_go hst hT
        have hn1 := txR_len ix p
        have hn2 := txR_len ix q
        have hx1 : ∀ t ∈ txR ix p, t.length ≤ 549755813888 := fun t h => txR_text _ (Nat.le_refl _) t (List.mem_reverse.1 h)
        have hx2 : ∀ t ∈ txR ix q, t.length ≤ 549755813888 := fun t h => txR_text _ (Nat.le_refl _) t (List.mem_reverse.1 h)
        generalize txR ix p = l1 at *
        generalize txR ix q = l2 at *
        refine TE.setv 67 (.int .i64 ((0 : Nat) : Int)) rfl (congrArg _ (by first | rfl | (dsimp only; first | done | rfl | omega))) ?_
        refine TE.setv 66 (.int .i64 (min (l1.length : Int) (l2.length : Int))) rfl rfl ?_
        refine .next ?_
        refine .block ?_
        refine TC.loop (S := Nat) (fun i => (i ≤ l1.length ∧ i ≤ l2.length) ∧ firstD l1 l2 = firstD (l1.drop i) (l2.drop i)) (fun i => l1.length - i) (fun i => [(9, .d (slT ldv 1 l1)), (11, .d (slT ldv 1 l2)), (67, .d (.v (.int .i64 ((i : Nat) : Int)))), (66, .d (.v (.int .i64 (min (l1.length : Int) (l2.length : Int)))))]) (fun i => [(1, .dead), (2, .dead), (3, .dead), (4, .dead), (5, .dead)]) (0) ⟨⟨Nat.zero_le _, Nat.zero_le _⟩, rfl⟩ ⟨⟨rfl, rfl⟩, ⟨rfl, rfl⟩, ⟨rfl, rfl⟩, ⟨rfl, rfl⟩, trivial⟩ ⟨.inl rfl, .inl rfl, .inl rfl, .inl rfl, .inl rfl, trivial⟩ (fun i hI => ?_)
        obtain ⟨⟨hI0, hI1⟩, hI2⟩ := hI
        refine .seq ?_
        refine .region ?_
        refine .step rfl (.bin rfl rfl rfl rfl) ?_
        refine .nil ?_
        refine .next ?_
        refine .seq ?_
        refine .cond rfl (fun h10 => ?_) (fun h10 => ?_)
        ·skip
         have hi : i < l1.length ∧ i < l2.length := by have z := of_decide_eq_true h10; (try dsimp only at z); omega
         obtain ⟨hi1, hi2⟩ := hi
         refine .skip ?_
         refine .next ?_
         refine .seq ?_
         refine .block ?_
         refine .seq ?_
         refine .region ?_
         refine .step rfl (.move rfl rfl) ?_
         refine .step rfl (.assign rfl rfl) ?_
         refine .nil ?_
         refine .next ?_
         refine .seq ?_
         refine .draw mixed [Ro.mk _ (Eff.mk (some (70, _)) []) [], Ro.mk _ (Eff.mk (some (71, _)) []) [], Ro.mk _ (Eff.mk (some (72, _)) []) [], Ro.mk _ (Eff.mk (some (73, _)) []) [], Ro.mk _ (Eff.mk (some (74, _)) []) [], Ro.mk _ (Eff.mk (some (75, _)) []) [], Ro.mk _ (Eff.mk (some (76, _)) []) [], Ro.mk _ (Eff.mk (some (77, _)) []) [], Ro.mk _ (Eff.mk (some (78, _)) []) [], Ro.mk _ (Eff.mk (some (79, _)) []) []] rfl ⟨(fun _ _ => .move rfl rfl), (fun _ _ => .move rfl rfl), (fun _ _ => .idx (l1[i]) rfl rfl rfl rfl et48 (fun _ => rfl) (Int.natCast_nonneg _) (get_nat hi1)), (fun _ _ => .lde rfl rfl rfl rfl tk44), (fun _ _ => .move rfl rfl), (fun _ _ => .move rfl rfl), (fun _ _ => .idx (l2[i]) rfl rfl rfl rfl et48 (fun _ => rfl) (Int.natCast_nonneg _) (get_nat hi2)), (fun _ _ => .lde rfl rfl rfl rfl tk44), (fun _ _ => .callf rfl cf54 rfl ⟨trivial, trivial, trivial⟩ (beq_pf l1[i] l2[i] (hx1 _ (List.getElem_mem hi1)) (hx2 _ (List.getElem_mem hi2)))), (fun _ _ => .un rfl rfl rfl), trivial⟩ (by kernel_rfl) ?_
         refine .next ?_
         refine .cond rfl (fun h11 => ?_) (fun h11 => ?_)
         ·skip
          have he : ¬ l1[i] = l2[i] := by simpa using h11
          refine .seq ?_
          refine .draw mixed [Ro.mk _ (Eff.mk (some (80, _)) []) [], Ro.mk _ (Eff.mk (some (81, _)) []) [], Ro.mk _ (Eff.mk (some (82, _)) []) [], Ro.mk _ (Eff.mk (some (83, _)) []) [], Ro.mk _ (Eff.mk (some (84, _)) []) [], Ro.mk _ (Eff.mk (some (85, _)) []) [], Ro.mk _ (Eff.mk (some (86, _)) []) [], Ro.mk _ (Eff.mk (some (87, _)) []) [], Ro.mk _ (Eff.mk (some (6, _)) []) [], Ro.mk _ (Eff.mk (some (7, _)) []) [], Ro.mk _ (Eff.mk (some (8, _)) []) []] rfl ⟨(fun _ _ => .move rfl rfl), (fun _ _ => .move rfl rfl), (fun _ _ => .idx (l1[i]) rfl rfl rfl rfl et48 (fun _ => rfl) (Int.natCast_nonneg _) (get_nat hi1)), (fun _ _ => .lde rfl rfl rfl rfl tk44), (fun _ _ => .move rfl rfl), (fun _ _ => .move rfl rfl), (fun _ _ => .idx (l2[i]) rfl rfl rfl rfl et48 (fun _ => rfl) (Int.natCast_nonneg _) (get_nat hi2)), (fun _ _ => .lde rfl rfl rfl rfl tk44), (fun _ _ => .assign rfl rfl), (fun _ _ => .assign rfl rfl), (fun _ _ => .assign rfl rfl), trivial⟩ (by kernel_rfl) ?_
          refine .next ?_
          refine .ret ?_
          have hcl := hc.trans ((hI2.trans (firstD_at hi1 hi2 he)))
          rw [hcl]
          exact TE.rettc rfl rfl rfl
         ·skip
          have he : l1[i] = l2[i] := by simpa using h11
          refine .skip ?_
          refine TE.blk ?_
          refine .next ?_
          refine .region ?_
          refine .step rfl (.binv (.int .i64 ((i + 1 : Nat) : Int)) rfl rfl rfl rfl (congrArg _ (by (try dsimp only); rw [IntKind.wrap_i64]; omega))) ?_
          refine .step rfl (.move rfl rfl) ?_
          refine .nil ?_
          refine TE.setv 67 (.int .i64 ((i + 1 : Nat) : Int)) rfl (congrArg _ (by first | rfl | (dsimp only; first | done | rfl | omega))) ?_
          exact TE.round id (fun _ _ e => e) (i + 1) ⟨⟨by omega, by omega⟩, hI2.trans (firstD_step hi1 hi2 he)⟩ (by omega) ⟨⟨rfl, rfl⟩, ⟨rfl, rfl⟩, ⟨rfl, rfl⟩, ⟨rfl, rfl⟩, trivial⟩ ⟨.inl rfl, .inl rfl, .inl rfl, .inl rfl, .inl rfl, trivial⟩
        ·skip
         have hi : ¬ (i < l1.length ∧ i < l2.length) := by have z := of_decide_eq_false h10; (try dsimp only at z); omega
         refine .exit ?_
         refine TE.pass ?_
         refine TE.pass ?_
         refine TE.here ?_
         refine .next ?_
         refine .seq ?_
         refine .region ?_
         refine .step rfl (.assign rfl rfl) ?_
         refine .step rfl (.assign rfl rfl) ?_
         refine .step rfl (.assign rfl rfl) ?_
         refine .nil ?_
         refine .next ?_
         refine .ret ?_
         have hcl := hc.trans (hI2.trans (firstD_end hi))
         rw [hcl]
         refine TE.sub 6 (slT bdv 1 []) rfl rfl (nil_sub _ _) ?_
         refine TE.sub 7 (slT bdv 1 []) rfl rfl (nil_sub _ _) ?_
         exact TE.rettc rfl rfl rfl
    ·skip
     have hE : ¬ (p.en = 0 ↔ q.en = 0) := by simpa using h5
     have hst : Stated ix p q := by unfold Stated; grind
     refine .no 32 rfl rfl rfl rfl rfl rfl rfl ?_
     refine .no 32 rfl rfl rfl rfl rfl rfl rfl ?_
     refine .no 32 rfl rfl rfl rfl rfl rfl rfl ?_
     refine .no 32 rfl rfl rfl rfl rfl rfl rfl ?_
     refine .no0 36 rfl rfl rfl rfl rfl ?_
     refine .no0 36 rfl rfl rfl rfl rfl ?_
     refine .no0 36 rfl rfl rfl rfl rfl ?_
     refine .no0 36 rfl rfl rfl rfl rfl ?_
     refine .no0 36 rfl rfl rfl rfl rfl ?_
     refine .no0 36 rfl rfl rfl rfl rfl ?_
     refine .no0 36 rfl rfl rfl rfl rfl ?_
     refine .no 32 rfl rfl rfl rfl rfl rfl rfl ?_
     refine .go 24 rfl rfl rfl rfl (.pick rfl rfl rfl) ?_
     refine .step rfl (.pick rfl rfl rfl) ?_
     refine .nil ?_
     refine .next ?_
     refine .cond rfl (fun h12 => absurd h12 (by decide)) (fun h12 => ?_)
     refine .skip ?_
     refine .next ?_
     refine .seq ?_
     have hs1 := rightF_short hP
     have hs2 := rightF_short hQ
     refine .region ?_
     refine .step rfl (.ldem (ds := hdv ix) rfl rfl rfl rfl rfl tk25) ?_
     refine .step rfl (.ldem (ds := p.dv) rfl rfl rfl rfl rfl tk30) ?_
     refine .step rfl (.callc rfl cf41 rfl (texts_pc ix p (by omega))) ?_
     refine .step rfl (.move rfl rfl) ?_
     refine .step rfl (.extract rfl rfl rfl rfl) ?_
     refine .step rfl (.extract rfl rfl rfl rfl) ?_
     refine .step rfl (.alloc 6 rfl rfl zc25 rfl) ?_
     refine .step rfl (.assign rfl rfl) ?_
     refine .step rfl (.store rfl rfl rfl sz25 rfl rfl) ?_
     refine .nil ?_
     refine TE.obj 6 (.box 25 (hdv (txH ix p p.path.length))) rfl rfl ?_
     refine TE.set 9 (.d (slT ldv 1 (txR ix p))) rfl rfl ?_
     refine .next ?_
     refine .seq ?_
     refine .region ?_
     refine .step rfl (.ldem (ds := hdv ix) rfl rfl rfl rfl rfl tk25) ?_
     refine .step rfl (.ldem (ds := q.dv) rfl rfl rfl rfl rfl tk30) ?_
     refine .step rfl (.callc rfl cf41 rfl (texts_pc ix q (by omega))) ?_
     refine .step rfl (.move rfl rfl) ?_
     refine .step rfl (.extract rfl rfl rfl rfl) ?_
     refine .step rfl (.extract rfl rfl rfl rfl) ?_
     refine .step rfl (.alloc 7 rfl rfl zc25 rfl) ?_
     refine .step rfl (.assign rfl rfl) ?_
     refine .step rfl (.store rfl rfl rfl sz25 rfl rfl) ?_
     refine .nil ?_
     refine TE.obj 7 (.box 25 (hdv (txH ix q q.path.length))) rfl rfl ?_
     refine TE.set 11 (.d (slT ldv 1 (txR ix q))) rfl rfl ?_
     refine .next ?_
     refine .seq ?_
     refine .seq ?_
     refine .region ?_
     refine .step rfl (.ldpm (ds := hdv (txH ix p p.path.length)) rfl rfl rfl rfl rfl rfl tk25) ?_
     refine .step rfl (.ldpm (ds := hdv (txH ix q q.path.length)) rfl rfl rfl rfl rfl rfl tk25) ?_
     refine .step rfl (.neh (a := txH ix p p.path.length) (b := txH ix q q.path.length) rfl rfl rfl qh25) ?_
     refine .nil ?_
     refine .next ?_
     refine .cond rfl (fun h13 => ?_) (fun h13 => ?_)
     ·skip
      have hT : ¬ H.l (txH ix p p.path.length) = H.l (txH ix q q.path.length) := of_decide_eq_true h13
      refine .seq ?_
      refine .region ?_
      refine .step rfl (.assign rfl rfl) ?_
      refine .step rfl (.assign rfl rfl) ?_
      refine .step rfl (.assign rfl rfl) ?_
      refine .nil ?_
      refine .next ?_
      refine .ret ?_
      have hcl := clash_root hT
      rw [hcl]
      refine TE.sub 6 (slT bdv 1 []) rfl rfl (nil_sub _ _) ?_
      refine TE.sub 7 (slT bdv 1 []) rfl rfl (nil_sub _ _) ?_
      exact TE.rettc rfl rfl rfl
     ·skip
      have hT : H.l (txH ix p p.path.length) = H.l (txH ix q q.path.length) := by have z := of_decide_eq_false h13; exact Classical.byContradiction z
      refine .skip ?_
      refine .next ?_
      refine .seq ?_
      refine .seq ?_
      refine .region ?_
      refine .step rfl (.move rfl rfl) ?_
      refine .step rfl (.len rfl rfl ⟨_, _, rfl⟩ is48) ?_
      refine .step rfl (.move rfl rfl) ?_
      refine .step rfl (.len rfl rfl ⟨_, _, rfl⟩ is48) ?_
      refine .step rfl (.min2 rfl rfl rfl) ?_
      refine .step rfl (.move rfl rfl) ?_
      refine .nil ?_
      have hc := clash_go hst hT
      have hn1 := txR_len ix p
      have hn2 := txR_len ix q
      have hx1 : ∀ t ∈ txR ix p, t.length ≤ 549755813888 := fun t h => txR_text _ (Nat.le_refl _) t (List.mem_reverse.1 h)
      have hx2 : ∀ t ∈ txR ix q, t.length ≤ 549755813888 := fun t h => txR_text _ (Nat.le_refl _) t (List.mem_reverse.1 h)
      generalize txR ix p = l1 at *
      generalize txR ix q = l2 at *
      refine TE.setv 67 (.int .i64 ((0 : Nat) : Int)) rfl (congrArg _ (by first | rfl | (dsimp only; first | done | rfl | omega))) ?_
      refine TE.setv 66 (.int .i64 (min (l1.length : Int) (l2.length : Int))) rfl rfl ?_
      refine .next ?_
      refine .block ?_
      refine TC.loop (S := Nat) (fun i => (i ≤ l1.length ∧ i ≤ l2.length) ∧ firstD l1 l2 = firstD (l1.drop i) (l2.drop i)) (fun i => l1.length - i) (fun i => [(9, .d (slT ldv 1 l1)), (11, .d (slT ldv 1 l2)), (67, .d (.v (.int .i64 ((i : Nat) : Int)))), (66, .d (.v (.int .i64 (min (l1.length : Int) (l2.length : Int)))))]) (fun i => [(1, .dead), (2, .dead), (3, .dead), (6, .dead), (7, .dead)]) (0) ⟨⟨Nat.zero_le _, Nat.zero_le _⟩, rfl⟩ ⟨⟨rfl, rfl⟩, ⟨rfl, rfl⟩, ⟨rfl, rfl⟩, ⟨rfl, rfl⟩, trivial⟩ ⟨.inl rfl, .inl rfl, .inl rfl, .inl rfl, .inl rfl, trivial⟩ (fun i hI => ?_)
      obtain ⟨⟨hI0, hI1⟩, hI2⟩ := hI
      refine .seq ?_
      refine .region ?_
      refine .step rfl (.bin rfl rfl rfl rfl) ?_
      refine .nil ?_
      refine .next ?_
      refine .seq ?_
      refine .cond rfl (fun h14 => ?_) (fun h14 => ?_)
      ·skip
       have hi : i < l1.length ∧ i < l2.length := by have z := of_decide_eq_true h14; (try dsimp only at z); omega
       obtain ⟨hi1, hi2⟩ := hi
       refine .skip ?_
       refine .next ?_
       refine .seq ?_
       refine .block ?_
       refine .seq ?_
       refine .region ?_
       refine .step rfl (.move rfl rfl) ?_
       refine .step rfl (.assign rfl rfl) ?_
       refine .nil ?_
       refine .next ?_
       refine .seq ?_
       refine .draw mixed [Ro.mk _ (Eff.mk (some (70, _)) []) [], Ro.mk _ (Eff.mk (some (71, _)) []) [], Ro.mk _ (Eff.mk (some (72, _)) []) [], Ro.mk _ (Eff.mk (some (73, _)) []) [], Ro.mk _ (Eff.mk (some (74, _)) []) [], Ro.mk _ (Eff.mk (some (75, _)) []) [], Ro.mk _ (Eff.mk (some (76, _)) []) [], Ro.mk _ (Eff.mk (some (77, _)) []) [], Ro.mk _ (Eff.mk (some (78, _)) []) [], Ro.mk _ (Eff.mk (some (79, _)) []) []] rfl ⟨(fun _ _ => .move rfl rfl), (fun _ _ => .move rfl rfl), (fun _ _ => .idx (l1[i]) rfl rfl rfl rfl et48 (fun _ => rfl) (Int.natCast_nonneg _) (get_nat hi1)), (fun _ _ => .lde rfl rfl rfl rfl tk44), (fun _ _ => .move rfl rfl), (fun _ _ => .move rfl rfl), (fun _ _ => .idx (l2[i]) rfl rfl rfl rfl et48 (fun _ => rfl) (Int.natCast_nonneg _) (get_nat hi2)), (fun _ _ => .lde rfl rfl rfl rfl tk44), (fun _ _ => .callf rfl cf54 rfl ⟨trivial, trivial, trivial⟩ (beq_pf l1[i] l2[i] (hx1 _ (List.getElem_mem hi1)) (hx2 _ (List.getElem_mem hi2)))), (fun _ _ => .un rfl rfl rfl), trivial⟩ (by kernel_rfl) ?_
       refine .next ?_
       refine .cond rfl (fun h15 => ?_) (fun h15 => ?_)
       ·skip
        have he : ¬ l1[i] = l2[i] := by simpa using h15
        refine .seq ?_
        refine .draw mixed [Ro.mk _ (Eff.mk (some (80, _)) []) [], Ro.mk _ (Eff.mk (some (81, _)) []) [], Ro.mk _ (Eff.mk (some (82, _)) []) [], Ro.mk _ (Eff.mk (some (83, _)) []) [], Ro.mk _ (Eff.mk (some (84, _)) []) [], Ro.mk _ (Eff.mk (some (85, _)) []) [], Ro.mk _ (Eff.mk (some (86, _)) []) [], Ro.mk _ (Eff.mk (some (87, _)) []) [], Ro.mk _ (Eff.mk (some (6, _)) []) [], Ro.mk _ (Eff.mk (some (7, _)) []) [], Ro.mk _ (Eff.mk (some (8, _)) []) []] rfl ⟨(fun _ _ => .move rfl rfl), (fun _ _ => .move rfl rfl), (fun _ _ => .idx (l1[i]) rfl rfl rfl rfl et48 (fun _ => rfl) (Int.natCast_nonneg _) (get_nat hi1)), (fun _ _ => .lde rfl rfl rfl rfl tk44), (fun _ _ => .move rfl rfl), (fun _ _ => .move rfl rfl), (fun _ _ => .idx (l2[i]) rfl rfl rfl rfl et48 (fun _ => rfl) (Int.natCast_nonneg _) (get_nat hi2)), (fun _ _ => .lde rfl rfl rfl rfl tk44), (fun _ _ => .assign rfl rfl), (fun _ _ => .assign rfl rfl), (fun _ _ => .assign rfl rfl), trivial⟩ (by kernel_rfl) ?_
        refine .next ?_
        refine .ret ?_
        have hcl := hc.trans ((hI2.trans (firstD_at hi1 hi2 he)))
        rw [hcl]
        exact TE.rettc rfl rfl rfl
       ·skip
        have he : l1[i] = l2[i] := by simpa using h15
        refine .skip ?_
        refine TE.blk ?_
        refine .next ?_
        refine .region ?_
        refine .step rfl (.binv (.int .i64 ((i + 1 : Nat) : Int)) rfl rfl rfl rfl (congrArg _ (by (try dsimp only); rw [IntKind.wrap_i64]; omega))) ?_
        refine .step rfl (.move rfl rfl) ?_
        refine .nil ?_
        refine TE.setv 67 (.int .i64 ((i + 1 : Nat) : Int)) rfl (congrArg _ (by first | rfl | (dsimp only; first | done | rfl | omega))) ?_
        exact TE.round id (fun _ _ e => e) (i + 1) ⟨⟨by omega, by omega⟩, hI2.trans (firstD_step hi1 hi2 he)⟩ (by omega) ⟨⟨rfl, rfl⟩, ⟨rfl, rfl⟩, ⟨rfl, rfl⟩, ⟨rfl, rfl⟩, trivial⟩ ⟨.inl rfl, .inl rfl, .inl rfl, .inl rfl, .inl rfl, trivial⟩
      ·skip
       have hi : ¬ (i < l1.length ∧ i < l2.length) := by have z := of_decide_eq_false h14; (try dsimp only at z); omega
       refine .exit ?_
       refine TE.pass ?_
       refine TE.pass ?_
       refine TE.here ?_
       refine .next ?_
       refine .seq ?_
       refine .region ?_
       refine .step rfl (.assign rfl rfl) ?_
       refine .step rfl (.assign rfl rfl) ?_
       refine .step rfl (.assign rfl rfl) ?_
       refine .nil ?_
       refine .next ?_
       refine .ret ?_
       have hcl := hc.trans (hI2.trans (firstD_end hi))
       rw [hcl]
       refine TE.sub 6 (slT bdv 1 []) rfl rfl (nil_sub _ _) ?_
       refine TE.sub 7 (slT bdv 1 []) rfl rfl (nil_sub _ _) ?_
       exact TE.rettc rfl rfl rfl
set_option maxRecDepth 100000 in
set_option maxHeartbeats 1600000 in
theorem rclash_pc (ix : H) (p q : Pf) : PC Try.prog 28 [.ag (hdv (ix)), .ag p.dv, .ag q.dv] (.tp [slT bdv 1 (clashF ix p q).1, slT bdv 1 (clashF ix p q).2.1, .v (.bool (clashF ix p q).2.2)]) := by
  refine PC.enter (fn := Try.f28) Try.func28 rfl Try.ntmps28 rfl (fun w0 K0 => ?_)
  refine .seq ?_
  refine .region ?_
  refine .step rfl (.box 1 rfl rfl rfl rfl) ?_
  refine .step rfl (.box 2 rfl rfl rfl rfl) ?_
  refine .step rfl (.box 3 rfl rfl rfl rfl) ?_
  refine .step rfl (.assign rfl rfl) ?_
  refine .step rfl (.assign rfl rfl) ?_
  refine .step rfl (.assign rfl rfl) ?_
  refine .nil ?_
  refine TE.frzb 3 rfl rfl rfl rfl ?_
  refine TE.frzb 4 rfl rfl rfl rfl ?_
  refine TE.frzb 5 rfl rfl rfl rfl ?_
  refine .next ?_
  refine .seq ?_
  refine .seq ?_
  refine .region ?_
  refine .step rfl (.ldem (ds := hdv ix) rfl rfl rfl rfl rfl tk25) ?_
  refine .step rfl (.ldem (ds := p.dv) rfl rfl rfl rfl rfl tk30) ?_
  refine .step rfl (.callf rfl cf20 rfl ⟨trivial, trivial, trivial⟩ (pfrright_pf ix p)) ?_
  refine .step rfl (.un rfl rfl rfl) ?_
  refine .step rfl (.move rfl rfl) ?_
  refine .case 16 rfl (fun h1 => ?_) (fun h1 => ?_)
  ·skip
   have hP : ¬ rightF ix p = true := by simpa using h1
   have hst : ¬ Stated ix p q := by unfold Stated; grind
   refine .no 16 rfl rfl rfl rfl rfl rfl rfl ?_
   refine .no 16 rfl rfl rfl rfl rfl rfl rfl ?_
   refine .no 16 rfl rfl rfl rfl rfl rfl rfl ?_
   refine .no 16 rfl rfl rfl rfl rfl rfl rfl ?_
   refine .step rfl (.pick rfl rfl rfl) ?_
   refine .step rfl (.move rfl rfl) ?_
   refine .no 22 rfl rfl rfl rfl rfl rfl rfl ?_
   refine .no 22 rfl rfl rfl rfl rfl rfl rfl ?_
   refine .no 22 rfl rfl rfl rfl rfl rfl rfl ?_
   refine .no 22 rfl rfl rfl rfl rfl rfl rfl ?_
   refine .no0 26 rfl rfl rfl rfl rfl ?_
   refine .no0 26 rfl rfl rfl rfl rfl ?_
   refine .no0 26 rfl rfl rfl rfl rfl ?_
   refine .no 22 rfl rfl rfl rfl rfl rfl rfl ?_
   refine .step rfl (.pick rfl rfl rfl) ?_
   refine .step rfl (.move rfl rfl) ?_
   refine .no 32 rfl rfl rfl rfl rfl rfl rfl ?_
   refine .no 32 rfl rfl rfl rfl rfl rfl rfl ?_
   refine .no 32 rfl rfl rfl rfl rfl rfl rfl ?_
   refine .no 32 rfl rfl rfl rfl rfl rfl rfl ?_
   refine .no 32 rfl rfl rfl rfl rfl rfl rfl ?_
   refine .no 32 rfl rfl rfl rfl rfl rfl rfl ?_
   refine .no0 38 rfl rfl rfl rfl rfl ?_
   refine .no0 38 rfl rfl rfl rfl rfl ?_
   refine .no0 38 rfl rfl rfl rfl rfl ?_
   refine .no0 38 rfl rfl rfl rfl rfl ?_
   refine .no0 38 rfl rfl rfl rfl rfl ?_
   refine .no0 38 rfl rfl rfl rfl rfl ?_
   refine .no0 38 rfl rfl rfl rfl rfl ?_
   refine .no 32 rfl rfl rfl rfl rfl rfl rfl ?_
   refine .step rfl (.pick rfl rfl rfl) ?_
   refine .nil ?_
   refine .next ?_
   refine .cond rfl (fun h2 => ?_) (fun h2 => absurd h2 (by decide))
   refine .seq ?_
   refine .region ?_
   refine .step rfl (.assign rfl rfl) ?_
   refine .step rfl (.assign rfl rfl) ?_
   refine .step rfl (.assign rfl rfl) ?_
   refine .nil ?_
   refine .next ?_
   refine .ret ?_
   have hcl := clash_none hst
   rw [hcl]
   refine TE.sub 6 (slT bdv 1 []) rfl rfl (nil_sub _ _) ?_
   refine TE.sub 7 (slT bdv 1 []) rfl rfl (nil_sub _ _) ?_
   exact TE.rettc rfl rfl rfl
  ·skip
   have hP : rightF ix p = true := by simpa using h1
   refine .go 16 rfl rfl rfl rfl (.ldem (ds := hdv ix) rfl rfl rfl rfl rfl tk25) ?_
   refine .go 16 rfl rfl rfl rfl (.ldem (ds := q.dv) rfl rfl rfl rfl rfl tk30) ?_
   refine .go 16 rfl rfl rfl rfl (.callf rfl cf20 rfl ⟨trivial, trivial, trivial⟩ (pfrright_pf ix q)) ?_
   refine .go 16 rfl rfl rfl rfl (.un rfl rfl rfl) ?_
   refine .step rfl (.pick rfl rfl rfl) ?_
   refine .step rfl (.move rfl rfl) ?_
   refine .case 22 rfl (fun h3 => ?_) (fun h3 => ?_)
   ·skip
    have hQ : ¬ rightF ix q = true := by simpa using h3
    have hst : ¬ Stated ix p q := by unfold Stated; grind
    refine .no 22 rfl rfl rfl rfl rfl rfl rfl ?_
    refine .no 22 rfl rfl rfl rfl rfl rfl rfl ?_
    refine .no 22 rfl rfl rfl rfl rfl rfl rfl ?_
    refine .no 22 rfl rfl rfl rfl rfl rfl rfl ?_
    refine .no0 26 rfl rfl rfl rfl rfl ?_
    refine .no0 26 rfl rfl rfl rfl rfl ?_
    refine .no0 26 rfl rfl rfl rfl rfl ?_
    refine .no 22 rfl rfl rfl rfl rfl rfl rfl ?_
    refine .step rfl (.pick rfl rfl rfl) ?_
    refine .step rfl (.move rfl rfl) ?_
    refine .no 32 rfl rfl rfl rfl rfl rfl rfl ?_
    refine .no 32 rfl rfl rfl rfl rfl rfl rfl ?_
    refine .no 32 rfl rfl rfl rfl rfl rfl rfl ?_
    refine .no 32 rfl rfl rfl rfl rfl rfl rfl ?_
    refine .no 32 rfl rfl rfl rfl rfl rfl rfl ?_
    refine .no 32 rfl rfl rfl rfl rfl rfl rfl ?_
    refine .no0 38 rfl rfl rfl rfl rfl ?_
    refine .no0 38 rfl rfl rfl rfl rfl ?_
    refine .no0 38 rfl rfl rfl rfl rfl ?_
    refine .no0 38 rfl rfl rfl rfl rfl ?_
    refine .no0 38 rfl rfl rfl rfl rfl ?_
    refine .no0 38 rfl rfl rfl rfl rfl ?_
    refine .no0 38 rfl rfl rfl rfl rfl ?_
    refine .no 32 rfl rfl rfl rfl rfl rfl rfl ?_
    refine .step rfl (.pick rfl rfl rfl) ?_
    refine .nil ?_
    refine .next ?_
    refine .cond rfl (fun h4 => ?_) (fun h4 => absurd h4 (by decide))
    refine .seq ?_
    refine .region ?_
    refine .step rfl (.assign rfl rfl) ?_
    refine .step rfl (.assign rfl rfl) ?_
    refine .step rfl (.assign rfl rfl) ?_
    refine .nil ?_
    refine .next ?_
    refine .ret ?_
    have hcl := clash_none hst
    rw [hcl]
    refine TE.sub 6 (slT bdv 1 []) rfl rfl (nil_sub _ _) ?_
    refine TE.sub 7 (slT bdv 1 []) rfl rfl (nil_sub _ _) ?_
    exact TE.rettc rfl rfl rfl
   ·skip
    have hQ : rightF ix q = true := by simpa using h3
    refine .go 22 rfl rfl rfl rfl (.fielde rfl rfl rfl fo30_1) ?_
    refine .go 22 rfl rfl rfl rfl (.lde rfl rfl rfl rfl tk3) ?_
    refine .go 22 rfl rfl rfl rfl (.bin rfl rfl rfl rfl) ?_
    refine .go 22 rfl rfl rfl rfl (.move rfl rfl) ?_
    refine .case 26 rfl (fun h5 => ?_) (fun h5 => ?_)
    ·skip
     have hN : ¬ p.en = 0 := by simpa using h5
     refine .go 26 rfl rfl rfl rfl (.fielde rfl rfl rfl fo30_1) ?_
     refine .go 26 rfl rfl rfl rfl (.lde rfl rfl rfl rfl tk3) ?_
     refine .go 26 rfl rfl rfl rfl (.bin rfl rfl rfl rfl) ?_
     refine .go 22 rfl rfl rfl rfl (.pick rfl rfl rfl) ?_
     refine .step rfl (.pick rfl rfl rfl) ?_
     refine .step rfl (.move rfl rfl) ?_
     refine .case 32 rfl (fun h6 => ?_) (fun h6 => ?_)
     ·skip
      have hM : ¬ q.en = 0 := by simpa using h6
      have hst : ¬ Stated ix p q := by unfold Stated; grind
      refine .no 32 rfl rfl rfl rfl rfl rfl rfl ?_
      refine .no 32 rfl rfl rfl rfl rfl rfl rfl ?_
      refine .no 32 rfl rfl rfl rfl rfl rfl rfl ?_
      refine .no 32 rfl rfl rfl rfl rfl rfl rfl ?_
      refine .no 32 rfl rfl rfl rfl rfl rfl rfl ?_
      refine .no 32 rfl rfl rfl rfl rfl rfl rfl ?_
      refine .no0 38 rfl rfl rfl rfl rfl ?_
      refine .no0 38 rfl rfl rfl rfl rfl ?_
      refine .no0 38 rfl rfl rfl rfl rfl ?_
      refine .no0 38 rfl rfl rfl rfl rfl ?_
      refine .no0 38 rfl rfl rfl rfl rfl ?_
      refine .no0 38 rfl rfl rfl rfl rfl ?_
      refine .no0 38 rfl rfl rfl rfl rfl ?_
      refine .no 32 rfl rfl rfl rfl rfl rfl rfl ?_
      refine .step rfl (.pick rfl rfl rfl) ?_
      refine .nil ?_
      refine .next ?_
      refine .cond rfl (fun h7 => ?_) (fun h7 => absurd h7 (by decide))
      refine .seq ?_
      refine .region ?_
      refine .step rfl (.assign rfl rfl) ?_
      refine .step rfl (.assign rfl rfl) ?_
      refine .step rfl (.assign rfl rfl) ?_
      refine .nil ?_
      refine .next ?_
      refine .ret ?_
      have hcl := clash_none hst
      rw [hcl]
      refine TE.sub 6 (slT bdv 1 []) rfl rfl (nil_sub _ _) ?_
      refine TE.sub 7 (slT bdv 1 []) rfl rfl (nil_sub _ _) ?_
      exact TE.rettc rfl rfl rfl
     ·skip
      have hM : q.en = 0 := by simpa using h6
      refine .go 32 rfl rfl rfl rfl (.fielde rfl rfl rfl fo30_1) ?_
      refine .go 32 rfl rfl rfl rfl (.lde rfl rfl rfl rfl tk3) ?_
      refine .go 32 rfl rfl rfl rfl (.fielde rfl rfl rfl fo30_1) ?_
      refine .go 32 rfl rfl rfl rfl (.lde rfl rfl rfl rfl tk3) ?_
      refine .go 32 rfl rfl rfl rfl (.bin rfl rfl rfl rfl) ?_
      refine .go 32 rfl rfl rfl rfl (.move rfl rfl) ?_
      refine .case 38 rfl (fun h8 => ?_) (fun h8 => ?_)
      ·skip
       have hE : p.en = q.en := of_decide_eq_true h8
       refine .go 38 rfl rfl rfl rfl (.fielde rfl rfl rfl fo30_2) ?_
       refine .go 38 rfl rfl rfl rfl (.fielde rfl rfl rfl fo28_1) ?_
       refine .go 38 rfl rfl rfl rfl (.ldem (ds := hdv p.it.vl) rfl rfl rfl rfl rfl tk25) ?_
       refine .go 38 rfl rfl rfl rfl (.fielde rfl rfl rfl fo30_2) ?_
       refine .go 38 rfl rfl rfl rfl (.fielde rfl rfl rfl fo28_1) ?_
       refine .go 38 rfl rfl rfl rfl (.ldem (ds := hdv q.it.vl) rfl rfl rfl rfl rfl tk25) ?_
       refine .go 38 rfl rfl rfl rfl (.eqh (a := p.it.vl) (b := q.it.vl) rfl rfl rfl qh25) ?_
       refine .go 32 rfl rfl rfl rfl (.pick rfl rfl rfl) ?_
       refine .step rfl (.pick rfl rfl rfl) ?_
       refine .nil ?_
       refine .next ?_
       refine .cond rfl (fun h9 => ?_) (fun h9 => ?_)
       ·skip
        have hv : H.l p.it.vl = H.l q.it.vl := of_decide_eq_true h9
        have hst : ¬ Stated ix p q := by unfold Stated; grind
        refine .seq ?_
        refine .region ?_
        refine .step rfl (.assign rfl rfl) ?_
        refine .step rfl (.assign rfl rfl) ?_
        refine .step rfl (.assign rfl rfl) ?_
        refine .nil ?_
        refine .next ?_
        refine .ret ?_
        have hcl := clash_none hst
        rw [hcl]
        refine TE.sub 6 (slT bdv 1 []) rfl rfl (nil_sub _ _) ?_
        refine TE.sub 7 (slT bdv 1 []) rfl rfl (nil_sub _ _) ?_
        exact TE.rettc rfl rfl rfl
       ·skip
        have hv : ¬ H.l p.it.vl = H.l q.it.vl := of_decide_eq_false h9
        have hst : Stated ix p q := by unfold Stated; grind
        refine .skip ?_
        refine .next ?_
        refine .seq ?_
        have hs1 := rightF_short hP
        have hs2 := rightF_short hQ
        obtain ⟨h01, hS1, hE1⟩ := txR_head ix p
        obtain ⟨h02, hS2, hE2⟩ := txR_head ix q
        refine .draw mixed [Ro.mk _ (Eff.mk (some (48, _)) []) [], Ro.mk _ (Eff.mk (some (49, _)) []) [], Ro.mk _ (Eff.mk (some (50, _)) []) [], Ro.mk _ (Eff.mk (some (51, _)) []) [], Ro.mk _ (Eff.mk (some (52, _)) []) [], Ro.mk _ (Eff.mk (some (53, _)) []) [], Ro.mk _ (Eff.mk (some (9, _)) []) [], Ro.mk _ (Eff.mk (some (10, _)) []) []] rfl ⟨(fun _ _ => .ldem (ds := hdv ix) rfl rfl rfl rfl rfl tk25), (fun _ _ => .ldem (ds := p.dv) rfl rfl rfl rfl rfl tk30), (fun _ _ => .callc rfl cf43 rfl (rtexts_pc ix p (by omega))), (fun _ _ => .ldem (ds := hdv ix) rfl rfl rfl rfl rfl tk25), (fun _ _ => .ldem (ds := q.dv) rfl rfl rfl rfl rfl tk30), (fun _ _ => .callc rfl cf43 rfl (rtexts_pc ix q (by omega))), (fun _ _ => .assign rfl rfl), (fun _ _ => .assign rfl rfl), trivial⟩ (by kernel_rfl) ?_
        refine TE.set 9 (.d (slT ldv 1 (txR ix p))) rfl rfl ?_
        refine TE.set 10 (.d (slT ldv 1 (txR ix q))) rfl rfl ?_
        refine .next ?_
        refine .seq ?_
        refine .seq ?_
        refine .draw mixed [Ro.mk _ (Eff.mk (some (54, _)) []) [], Ro.mk _ (Eff.mk (some (55, _)) []) [], Ro.mk _ (Eff.mk (some (56, _)) []) [], Ro.mk _ (Eff.mk (some (57, _)) []) [], Ro.mk _ (Eff.mk (some (58, _)) []) [], Ro.mk _ (Eff.mk (some (59, _)) []) [], Ro.mk _ (Eff.mk (some (60, _)) []) [], Ro.mk _ (Eff.mk (some (61, _)) []) [], Ro.mk _ (Eff.mk (some (62, _)) []) []] rfl ⟨(fun _ _ => .move rfl rfl), (fun _ _ => .idx ((txR ix p)[0]'h01) rfl rfl rfl rfl et48 (fun _ => rfl) (by decide) (List.getElem?_eq_getElem h01)), (fun _ _ => .lde rfl rfl rfl rfl tk44), (fun _ _ => .callf rfl cf42 rfl ⟨trivial, trivial⟩ (rsum_pf ((txR ix p)[0]'h01) hE1)), (fun _ _ => .move rfl rfl), (fun _ _ => .idx ((txR ix q)[0]'h02) rfl rfl rfl rfl et48 (fun _ => rfl) (by decide) (List.getElem?_eq_getElem h02)), (fun _ _ => .lde rfl rfl rfl rfl tk44), (fun _ _ => .callf rfl cf42 rfl ⟨trivial, trivial⟩ (rsum_pf ((txR ix q)[0]'h02) hE2)), (fun _ _ => .neh (a := sumH ((txR ix p)[0]'h01)) (b := sumH ((txR ix q)[0]'h02)) rfl rfl rfl qh25), trivial⟩ (by kernel_rfl) ?_
        refine .next ?_
        refine .cond rfl (fun h10 => ?_) (fun h10 => ?_)
        ·skip
         rw [hS1, hS2] at h10
         have hT : ¬ H.l (txH ix p p.path.length) = H.l (txH ix q q.path.length) := of_decide_eq_true h10
         refine .seq ?_
         refine .region ?_
         refine .step rfl (.assign rfl rfl) ?_
         refine .step rfl (.assign rfl rfl) ?_
         refine .step rfl (.assign rfl rfl) ?_
         refine .nil ?_
         refine .next ?_
         refine .ret ?_
         have hcl := clash_root hT
         rw [hcl]
         refine TE.sub 6 (slT bdv 1 []) rfl rfl (nil_sub _ _) ?_
         refine TE.sub 7 (slT bdv 1 []) rfl rfl (nil_sub _ _) ?_
         exact TE.rettc rfl rfl rfl
        ·skip
         rw [hS1, hS2] at h10
         have hT : H.l (txH ix p p.path.length) = H.l (txH ix q q.path.length) := by have z := of_decide_eq_false h10; exact Classical.byContradiction z
         refine .skip ?_
         refine .next ?_
         refine .seq ?_
         refine .seq ?_
         refine .region ?_
         refine .step rfl (.assign rfl rfl) ?_
         refine .nil ?_
         have hc := clash_go hst hT
         have hn1 := txR_len ix p
         have hn2 := txR_len ix q
         have hx1 : ∀ t ∈ txR ix p, t.length ≤ 549755813888 := fun t h => txR_text _ (Nat.le_refl _) t (List.mem_reverse.1 h)
         have hx2 : ∀ t ∈ txR ix q, t.length ≤ 549755813888 := fun t h => txR_text _ (Nat.le_refl _) t (List.mem_reverse.1 h)
         generalize txR ix p = l1 at *
         generalize txR ix q = l2 at *
         refine TE.setv 11 (.int .i64 ((0 : Nat) : Int)) rfl (congrArg _ (by first | rfl | (dsimp only; first | done | rfl | omega))) ?_
         refine .next ?_
         refine .block ?_
         refine TC.loop (S := Nat) (fun i => (i ≤ l1.length ∧ i ≤ l2.length) ∧ firstD l1 l2 = firstD (l1.drop i) (l2.drop i)) (fun i => l1.length - i) (fun i => [(9, .d (slT ldv 1 l1)), (10, .d (slT ldv 1 l2)), (11, .d (.v (.int .i64 ((i : Nat) : Int))))]) (fun i => [(1, .dead), (2, .dead), (3, .dead)]) (0) ⟨⟨Nat.zero_le _, Nat.zero_le _⟩, rfl⟩ ⟨⟨rfl, rfl⟩, ⟨rfl, rfl⟩, ⟨rfl, rfl⟩, trivial⟩ ⟨.inl rfl, .inl rfl, .inl rfl, trivial⟩ (fun i hI => ?_)
         obtain ⟨⟨hI0, hI1⟩, hI2⟩ := hI
         refine .seq ?_
         refine .seq ?_
         refine .region ?_
         refine .step rfl (.move rfl rfl) ?_
         refine .step rfl (.move rfl rfl) ?_
         refine .step rfl (.len rfl rfl ⟨_, _, rfl⟩ is48) ?_
         refine .step rfl (.bin rfl rfl rfl rfl) ?_
         refine .step rfl (.move rfl rfl) ?_
         refine .case 67 rfl (fun h11 => ?_) (fun h11 => ?_)
         ·skip
          have hi1 : i < l1.length := by have q := of_decide_eq_true h11; (try dsimp only at q); omega
          refine .go 67 rfl rfl rfl rfl (.move rfl rfl) ?_
          refine .go 67 rfl rfl rfl rfl (.move rfl rfl) ?_
          refine .go 67 rfl rfl rfl rfl (.len rfl rfl ⟨_, _, rfl⟩ is48) ?_
          refine .go 67 rfl rfl rfl rfl (.bin rfl rfl rfl rfl) ?_
          refine .step rfl (.pick rfl rfl rfl) ?_
          refine .nil ?_
          refine .next ?_
          refine .cond rfl (fun h12 => ?_) (fun h12 => ?_)
          ·skip
           have hi2 : i < l2.length := by have q := of_decide_eq_true h12; (try dsimp only at q); omega
           refine .skip ?_
           refine .next ?_
           refine .seq ?_
           refine .block ?_
           refine .seq ?_
           refine .draw mixed [Ro.mk _ (Eff.mk (some (75, _)) []) [], Ro.mk _ (Eff.mk (some (76, _)) []) [], Ro.mk _ (Eff.mk (some (77, _)) []) [], Ro.mk _ (Eff.mk (some (78, _)) []) [], Ro.mk _ (Eff.mk (some (79, _)) []) [], Ro.mk _ (Eff.mk (some (80, _)) []) [], Ro.mk _ (Eff.mk (some (81, _)) []) [], Ro.mk _ (Eff.mk (some (82, _)) []) [], Ro.mk _ (Eff.mk (some (83, _)) []) [], Ro.mk _ (Eff.mk (some (84, _)) []) [], Ro.mk _ (Eff.mk (some (85, _)) []) []] rfl ⟨(fun _ _ => .move rfl rfl), (fun _ _ => .move rfl rfl), (fun _ _ => .idx (l1[i]) rfl rfl rfl rfl et48 (fun _ => rfl) (Int.natCast_nonneg _) (get_nat hi1)), (fun _ _ => .lde rfl rfl rfl rfl tk44), (fun _ _ => .convbd (l := l1[i]) rfl rfl u844 us9), (fun _ _ => .move rfl rfl), (fun _ _ => .move rfl rfl), (fun _ _ => .idx (l2[i]) rfl rfl rfl rfl et48 (fun _ => rfl) (Int.natCast_nonneg _) (get_nat hi2)), (fun _ _ => .lde rfl rfl rfl rfl tk44), (fun _ _ => .convbd (l := l2[i]) rfl rfl u844 us9), (fun _ _ => .bin rfl rfl rfl rfl), trivial⟩ (by kernel_rfl) ?_
           refine .next ?_
           refine .cond rfl (fun h13 => ?_) (fun h13 => ?_)
           ·skip
            have he : ¬ l1[i] = l2[i] := by simpa using h13
            refine .seq ?_
            refine .draw mixed [Ro.mk _ (Eff.mk (some (86, _)) []) [], Ro.mk _ (Eff.mk (some (87, _)) []) [], Ro.mk _ (Eff.mk (some (88, _)) []) [], Ro.mk _ (Eff.mk (some (89, _)) []) [], Ro.mk _ (Eff.mk (some (90, _)) []) [], Ro.mk _ (Eff.mk (some (91, _)) []) [], Ro.mk _ (Eff.mk (some (92, _)) []) [], Ro.mk _ (Eff.mk (some (93, _)) []) [], Ro.mk _ (Eff.mk (some (6, _)) []) [], Ro.mk _ (Eff.mk (some (7, _)) []) [], Ro.mk _ (Eff.mk (some (8, _)) []) []] rfl ⟨(fun _ _ => .move rfl rfl), (fun _ _ => .move rfl rfl), (fun _ _ => .idx (l1[i]) rfl rfl rfl rfl et48 (fun _ => rfl) (Int.natCast_nonneg _) (get_nat hi1)), (fun _ _ => .lde rfl rfl rfl rfl tk44), (fun _ _ => .move rfl rfl), (fun _ _ => .move rfl rfl), (fun _ _ => .idx (l2[i]) rfl rfl rfl rfl et48 (fun _ => rfl) (Int.natCast_nonneg _) (get_nat hi2)), (fun _ _ => .lde rfl rfl rfl rfl tk44), (fun _ _ => .assign rfl rfl), (fun _ _ => .assign rfl rfl), (fun _ _ => .assign rfl rfl), trivial⟩ (by kernel_rfl) ?_
            refine .next ?_
            refine .ret ?_
            have hcl := hc.trans ((hI2.trans (firstD_at hi1 hi2 he)))
            rw [hcl]
            exact TE.rettc rfl rfl rfl
           ·skip
            have he : l1[i] = l2[i] := by simpa using h13
            refine .skip ?_
            refine TE.blk ?_
            refine .next ?_
            refine .region ?_
            refine .step rfl (.move rfl rfl) ?_
            refine .step rfl (.binv (.int .i64 ((i + 1 : Nat) : Int)) rfl rfl rfl rfl (congrArg _ (by (try dsimp only); rw [IntKind.wrap_i64]; omega))) ?_
            refine .step rfl (.assign rfl rfl) ?_
            refine .nil ?_
            refine TE.setv 11 (.int .i64 ((i + 1 : Nat) : Int)) rfl (congrArg _ (by first | rfl | (dsimp only; first | done | rfl | omega))) ?_
            exact TE.round id (fun _ _ e => e) (i + 1) ⟨⟨by omega, by omega⟩, hI2.trans (firstD_step hi1 hi2 he)⟩ (by omega) ⟨⟨rfl, rfl⟩, ⟨rfl, rfl⟩, ⟨rfl, rfl⟩, trivial⟩ ⟨.inl rfl, .inl rfl, .inl rfl, trivial⟩
          ·skip
           have hi2 : ¬ (i < l2.length) := by have q := of_decide_eq_false h12; (try dsimp only at q); omega
           have hi : ¬ (i < l1.length ∧ i < l2.length) := by omega
           refine .exit ?_
           refine TE.pass ?_
           refine TE.pass ?_
           refine TE.here ?_
           refine .next ?_
           refine .seq ?_
           refine .region ?_
           refine .step rfl (.assign rfl rfl) ?_
           refine .step rfl (.assign rfl rfl) ?_
           refine .step rfl (.assign rfl rfl) ?_
           refine .nil ?_
           refine .next ?_
           refine .ret ?_
           have hcl := hc.trans (hI2.trans (firstD_end hi))
           rw [hcl]
           refine TE.sub 6 (slT bdv 1 []) rfl rfl (nil_sub _ _) ?_
           refine TE.sub 7 (slT bdv 1 []) rfl rfl (nil_sub _ _) ?_
           exact TE.rettc rfl rfl rfl
         ·skip
          have hi1 : ¬ (i < l1.length) := by have q := of_decide_eq_false h11; (try dsimp only at q); omega
          have hi : ¬ (i < l1.length ∧ i < l2.length) := by omega
          refine .no 67 rfl rfl rfl rfl rfl rfl rfl ?_
          refine .no 67 rfl rfl rfl rfl rfl rfl rfl ?_
          refine .no 67 rfl rfl rfl rfl rfl rfl rfl ?_
          refine .no 67 rfl rfl rfl rfl rfl rfl rfl ?_
          refine .step rfl (.pick rfl rfl rfl) ?_
          refine .nil ?_
          refine .next ?_
          refine .cond rfl (fun h14 => absurd h14 (by decide)) (fun h14 => ?_)
          refine .exit ?_
          refine TE.pass ?_
          refine TE.pass ?_
          refine TE.here ?_
          refine .next ?_
          refine .seq ?_
          refine .region ?_
          refine .step rfl (.assign rfl rfl) ?_
          refine .step rfl (.assign rfl rfl) ?_
          refine .step rfl (.assign rfl rfl) ?_
          refine .nil ?_
          refine .next ?_
          refine .ret ?_
          have hcl := hc.trans (hI2.trans (firstD_end hi))
          rw [hcl]
          refine TE.sub 6 (slT bdv 1 []) rfl rfl (nil_sub _ _) ?_
          refine TE.sub 7 (slT bdv 1 []) rfl rfl (nil_sub _ _) ?_
          exact TE.rettc rfl rfl rfl
      ·skip
       have hE : ¬ p.en = q.en := of_decide_eq_false h8
       have hst : Stated ix p q := by unfold Stated; grind
       refine .no 38 rfl rfl rfl rfl rfl rfl rfl ?_
       refine .no 38 rfl rfl rfl rfl rfl rfl rfl ?_
       refine .no 38 rfl rfl rfl rfl rfl rfl rfl ?_
       refine .no 38 rfl rfl rfl rfl rfl rfl rfl ?_
       refine .no 38 rfl rfl rfl rfl rfl rfl rfl ?_
       refine .no 38 rfl rfl rfl rfl rfl rfl rfl ?_
       refine .no 38 rfl rfl rfl rfl rfl rfl rfl ?_
       refine .go 32 rfl rfl rfl rfl (.pick rfl rfl rfl) ?_
       refine .step rfl (.pick rfl rfl rfl) ?_
       refine .nil ?_
       refine .next ?_
       refine .cond rfl (fun h15 => absurd h15 (by decide)) (fun h15 => ?_)
       refine .skip ?_
       refine .next ?_
       refine .seq ?_
       have hs1 := rightF_short hP
       have hs2 := rightF_short hQ
       obtain ⟨h01, hS1, hE1⟩ := txR_head ix p
       obtain ⟨h02, hS2, hE2⟩ := txR_head ix q
       refine .draw mixed [Ro.mk _ (Eff.mk (some (48, _)) []) [], Ro.mk _ (Eff.mk (some (49, _)) []) [], Ro.mk _ (Eff.mk (some (50, _)) []) [], Ro.mk _ (Eff.mk (some (51, _)) []) [], Ro.mk _ (Eff.mk (some (52, _)) []) [], Ro.mk _ (Eff.mk (some (53, _)) []) [], Ro.mk _ (Eff.mk (some (9, _)) []) [], Ro.mk _ (Eff.mk (some (10, _)) []) []] rfl ⟨(fun _ _ => .ldem (ds := hdv ix) rfl rfl rfl rfl rfl tk25), (fun _ _ => .ldem (ds := p.dv) rfl rfl rfl rfl rfl tk30), (fun _ _ => .callc rfl cf43 rfl (rtexts_pc ix p (by omega))), (fun _ _ => .ldem (ds := hdv ix) rfl rfl rfl rfl rfl tk25), (fun _ _ => .ldem (ds := q.dv) rfl rfl rfl rfl rfl tk30), (fun _ _ => .callc rfl cf43 rfl (rtexts_pc ix q (by omega))), (fun _ _ => .assign rfl rfl), (fun _ _ => .assign rfl rfl), trivial⟩ (by kernel_rfl) ?_
       refine TE.set 9 (.d (slT ldv 1 (txR ix p))) rfl rfl ?_
       refine TE.set 10 (.d (slT ldv 1 (txR ix q))) rfl rfl ?_
       refine .next ?_
       refine .seq ?_
       refine .seq ?_
       refine .draw mixed [Ro.mk _ (Eff.mk (some (54, _)) []) [], Ro.mk _ (Eff.mk (some (55, _)) []) [], Ro.mk _ (Eff.mk (some (56, _)) []) [], Ro.mk _ (Eff.mk (some (57, _)) []) [], Ro.mk _ (Eff.mk (some (58, _)) []) [], Ro.mk _ (Eff.mk (some (59, _)) []) [], Ro.mk _ (Eff.mk (some (60, _)) []) [], Ro.mk _ (Eff.mk (some (61, _)) []) [], Ro.mk _ (Eff.mk (some (62, _)) []) []] rfl ⟨(fun _ _ => .move rfl rfl), (fun _ _ => .idx ((txR ix p)[0]'h01) rfl rfl rfl rfl et48 (fun _ => rfl) (by decide) (List.getElem?_eq_getElem h01)), (fun _ _ => .lde rfl rfl rfl rfl tk44), (fun _ _ => .callf rfl cf42 rfl ⟨trivial, trivial⟩ (rsum_pf ((txR ix p)[0]'h01) hE1)), (fun _ _ => .move rfl rfl), (fun _ _ => .idx ((txR ix q)[0]'h02) rfl rfl rfl rfl et48 (fun _ => rfl) (by decide) (List.getElem?_eq_getElem h02)), (fun _ _ => .lde rfl rfl rfl rfl tk44), (fun _ _ => .callf rfl cf42 rfl ⟨trivial, trivial⟩ (rsum_pf ((txR ix q)[0]'h02) hE2)), (fun _ _ => .neh (a := sumH ((txR ix p)[0]'h01)) (b := sumH ((txR ix q)[0]'h02)) rfl rfl rfl qh25), trivial⟩ (by kernel_rfl) ?_
       refine .next ?_
       refine .cond rfl (fun h16 => ?_) (fun h16 => ?_)
       ·skip
        rw [hS1, hS2] at h16
        have hT : ¬ H.l (txH ix p p.path.length) = H.l (txH ix q q.path.length) := of_decide_eq_true h16
        refine .seq ?_
        refine .region ?_
        refine .step rfl (.assign rfl rfl) ?_
        refine .step rfl (.assign rfl rfl) ?_
        refine .step rfl (.assign rfl rfl) ?_
        refine .nil ?_
        refine .next ?_
        refine .ret ?_
        have hcl := clash_root hT
        rw [hcl]
        refine TE.sub 6 (slT bdv 1 []) rfl rfl (nil_sub _ _) ?_
        refine TE.sub 7 (slT bdv 1 []) rfl rfl (nil_sub _ _) ?_
        exact TE.rettc rfl rfl rfl
       ·skip
        rw [hS1, hS2] at h16
        have hT : H.l (txH ix p p.path.length) = H.l (txH ix q q.path.length) := by have z := of_decide_eq_false h16; exact Classical.byContradiction z
        refine .skip ?_
        refine .next ?_
        refine .seq ?_
        refine .seq ?_
        refine .region ?_
        refine .step rfl (.assign rfl rfl) ?_
        refine .nil ?_
        have hc := clash_go hst hT
        have hn1 := txR_len ix p
        have hn2 := txR_len ix q
        have hx1 : ∀ t ∈ txR ix p, t.length ≤ 549755813888 := fun t h => txR_text _ (Nat.le_refl _) t (List.mem_reverse.1 h)
        have hx2 : ∀ t ∈ txR ix q, t.length ≤ 549755813888 := fun t h => txR_text _ (Nat.le_refl _) t (List.mem_reverse.1 h)
        generalize txR ix p = l1 at *
        generalize txR ix q = l2 at *
        refine TE.setv 11 (.int .i64 ((0 : Nat) : Int)) rfl (congrArg _ (by first | rfl | (dsimp only; first | done | rfl | omega))) ?_
        refine .next ?_
        refine .block ?_
        refine TC.loop (S := Nat) (fun i => (i ≤ l1.length ∧ i ≤ l2.length) ∧ firstD l1 l2 = firstD (l1.drop i) (l2.drop i)) (fun i => l1.length - i) (fun i => [(9, .d (slT ldv 1 l1)), (10, .d (slT ldv 1 l2)), (11, .d (.v (.int .i64 ((i : Nat) : Int))))]) (fun i => [(1, .dead), (2, .dead), (3, .dead)]) (0) ⟨⟨Nat.zero_le _, Nat.zero_le _⟩, rfl⟩ ⟨⟨rfl, rfl⟩, ⟨rfl, rfl⟩, ⟨rfl, rfl⟩, trivial⟩ ⟨.inl rfl, .inl rfl, .inl rfl, trivial⟩ (fun i hI => ?_)
        obtain ⟨⟨hI0, hI1⟩, hI2⟩ := hI
        refine .seq ?_
        refine .seq ?_
        refine .region ?_
        refine .step rfl (.move rfl rfl) ?_
        refine .step rfl (.move rfl rfl) ?_
        refine .step rfl (.len rfl rfl ⟨_, _, rfl⟩ is48) ?_
        refine .step rfl (.bin rfl rfl rfl rfl) ?_
        refine .step rfl (.move rfl rfl) ?_
        refine .case 67 rfl (fun h17 => ?_) (fun h17 => ?_)
        ·skip
         have hi1 : i < l1.length := by have q := of_decide_eq_true h17; (try dsimp only at q); omega
         refine .go 67 rfl rfl rfl rfl (.move rfl rfl) ?_
         refine .go 67 rfl rfl rfl rfl (.move rfl rfl) ?_
         refine .go 67 rfl rfl rfl rfl (.len rfl rfl ⟨_, _, rfl⟩ is48) ?_
         refine .go 67 rfl rfl rfl rfl (.bin rfl rfl rfl rfl) ?_
         refine .step rfl (.pick rfl rfl rfl) ?_
         refine .nil ?_
         refine .next ?_
         refine .cond rfl (fun h18 => ?_) (fun h18 => ?_)
         ·skip
          have hi2 : i < l2.length := by have q := of_decide_eq_true h18; (try dsimp only at q); omega
          refine .skip ?_
          refine .next ?_
          refine .seq ?_
          refine .block ?_
          refine .seq ?_
          refine .draw mixed [Ro.mk _ (Eff.mk (some (75, _)) []) [], Ro.mk _ (Eff.mk (some (76, _)) []) [], Ro.mk _ (Eff.mk (some (77, _)) []) [], Ro.mk _ (Eff.mk (some (78, _)) []) [], Ro.mk _ (Eff.mk (some (79, _)) []) [], Ro.mk _ (Eff.mk (some (80, _)) []) [], Ro.mk _ (Eff.mk (some (81, _)) []) [], Ro.mk _ (Eff.mk (some (82, _)) []) [], Ro.mk _ (Eff.mk (some (83, _)) []) [], Ro.mk _ (Eff.mk (some (84, _)) []) [], Ro.mk _ (Eff.mk (some (85, _)) []) []] rfl ⟨(fun _ _ => .move rfl rfl), (fun _ _ => .move rfl rfl), (fun _ _ => .idx (l1[i]) rfl rfl rfl rfl et48 (fun _ => rfl) (Int.natCast_nonneg _) (get_nat hi1)), (fun _ _ => .lde rfl rfl rfl rfl tk44), (fun _ _ => .convbd (l := l1[i]) rfl rfl u844 us9), (fun _ _ => .move rfl rfl), (fun _ _ => .move rfl rfl), (fun _ _ => .idx (l2[i]) rfl rfl rfl rfl et48 (fun _ => rfl) (Int.natCast_nonneg _) (get_nat hi2)), (fun _ _ => .lde rfl rfl rfl rfl tk44), (fun _ _ => .convbd (l := l2[i]) rfl rfl u844 us9), (fun _ _ => .bin rfl rfl rfl rfl), trivial⟩ (by kernel_rfl) ?_
          refine .next ?_
          refine .cond rfl (fun h19 => ?_) (fun h19 => ?_)
          ·skip
           have he : ¬ l1[i] = l2[i] := by simpa using h19
           refine .seq ?_
           refine .draw mixed [Ro.mk _ (Eff.mk (some (86, _)) []) [], Ro.mk _ (Eff.mk (some (87, _)) []) [], Ro.mk _ (Eff.mk (some (88, _)) []) [], Ro.mk _ (Eff.mk (some (89, _)) []) [], Ro.mk _ (Eff.mk (some (90, _)) []) [], Ro.mk _ (Eff.mk (some (91, _)) []) [], Ro.mk _ (Eff.mk (some (92, _)) []) [], Ro.mk _ (Eff.mk (some (93, _)) []) [], Ro.mk _ (Eff.mk (some (6, _)) []) [], Ro.mk _ (Eff.mk (some (7, _)) []) [], Ro.mk _ (Eff.mk (some (8, _)) []) []] rfl ⟨(fun _ _ => .move rfl rfl), (fun _ _ => .move rfl rfl), (fun _ _ => .idx (l1[i]) rfl rfl rfl rfl et48 (fun _ => rfl) (Int.natCast_nonneg _) (get_nat hi1)), (fun _ _ => .lde rfl rfl rfl rfl tk44), (fun _ _ => .move rfl rfl), (fun _ _ => .move rfl rfl), (fun _ _ => .idx (l2[i]) rfl rfl rfl rfl et48 (fun _ => rfl) (Int.natCast_nonneg _) (get_nat hi2)), (fun _ _ => .lde rfl rfl rfl rfl tk44), (fun _ _ => .assign rfl rfl), (fun _ _ => .assign rfl rfl), (fun _ _ => .assign rfl rfl), trivial⟩ (by kernel_rfl) ?_
           refine .next ?_
           refine .ret ?_
           have hcl := hc.trans ((hI2.trans (firstD_at hi1 hi2 he)))
           rw [hcl]
           exact TE.rettc rfl rfl rfl
          ·skip
           have he : l1[i] = l2[i] := by simpa using h19
           refine .skip ?_
           refine TE.blk ?_
           refine .next ?_
           refine .region ?_
           refine .step rfl (.move rfl rfl) ?_
           refine .step rfl (.binv (.int .i64 ((i + 1 : Nat) : Int)) rfl rfl rfl rfl (congrArg _ (by (try dsimp only); rw [IntKind.wrap_i64]; omega))) ?_
           refine .step rfl (.assign rfl rfl) ?_
           refine .nil ?_
           refine TE.setv 11 (.int .i64 ((i + 1 : Nat) : Int)) rfl (congrArg _ (by first | rfl | (dsimp only; first | done | rfl | omega))) ?_
           exact TE.round id (fun _ _ e => e) (i + 1) ⟨⟨by omega, by omega⟩, hI2.trans (firstD_step hi1 hi2 he)⟩ (by omega) ⟨⟨rfl, rfl⟩, ⟨rfl, rfl⟩, ⟨rfl, rfl⟩, trivial⟩ ⟨.inl rfl, .inl rfl, .inl rfl, trivial⟩
         ·skip
          have hi2 : ¬ (i < l2.length) := by have q := of_decide_eq_false h18; (try dsimp only at q); omega
          have hi : ¬ (i < l1.length ∧ i < l2.length) := by omega
          refine .exit ?_
          refine TE.pass ?_
          refine TE.pass ?_
          refine TE.here ?_
          refine .next ?_
          refine .seq ?_
          refine .region ?_
          refine .step rfl (.assign rfl rfl) ?_
          refine .step rfl (.assign rfl rfl) ?_
          refine .step rfl (.assign rfl rfl) ?_
          refine .nil ?_
          refine .next ?_
          refine .ret ?_
          have hcl := hc.trans (hI2.trans (firstD_end hi))
          rw [hcl]
          refine TE.sub 6 (slT bdv 1 []) rfl rfl (nil_sub _ _) ?_
          refine TE.sub 7 (slT bdv 1 []) rfl rfl (nil_sub _ _) ?_
          exact TE.rettc rfl rfl rfl
        ·skip
         have hi1 : ¬ (i < l1.length) := by have q := of_decide_eq_false h17; (try dsimp only at q); omega
         have hi : ¬ (i < l1.length ∧ i < l2.length) := by omega
         refine .no 67 rfl rfl rfl rfl rfl rfl rfl ?_
         refine .no 67 rfl rfl rfl rfl rfl rfl rfl ?_
         refine .no 67 rfl rfl rfl rfl rfl rfl rfl ?_
         refine .no 67 rfl rfl rfl rfl rfl rfl rfl ?_
         refine .step rfl (.pick rfl rfl rfl) ?_
         refine .nil ?_
         refine .next ?_
         refine .cond rfl (fun h20 => absurd h20 (by decide)) (fun h20 => ?_)
         refine .exit ?_
         refine TE.pass ?_
         refine TE.pass ?_
         refine TE.here ?_
         refine .next ?_
         refine .seq ?_
         refine .region ?_
         refine .step rfl (.assign rfl rfl) ?_
         refine .step rfl (.assign rfl rfl) ?_
         refine .step rfl (.assign rfl rfl) ?_
         refine .nil ?_
         refine .next ?_
         refine .ret ?_
         have hcl := hc.trans (hI2.trans (firstD_end hi))
         rw [hcl]
         refine TE.sub 6 (slT bdv 1 []) rfl rfl (nil_sub _ _) ?_
         refine TE.sub 7 (slT bdv 1 []) rfl rfl (nil_sub _ _) ?_
         exact TE.rettc rfl rfl rfl
    ·skip
     have hN : p.en = 0 := by simpa using h5
     refine .no 26 rfl rfl rfl rfl rfl rfl rfl ?_
     refine .no 26 rfl rfl rfl rfl rfl rfl rfl ?_
     refine .no 26 rfl rfl rfl rfl rfl rfl rfl ?_
     refine .go 22 rfl rfl rfl rfl (.pick rfl rfl rfl) ?_
     refine .step rfl (.pick rfl rfl rfl) ?_
     refine .step rfl (.move rfl rfl) ?_
     refine .go 32 rfl rfl rfl rfl (.fielde rfl rfl rfl fo30_1) ?_
     refine .go 32 rfl rfl rfl rfl (.lde rfl rfl rfl rfl tk3) ?_
     refine .go 32 rfl rfl rfl rfl (.fielde rfl rfl rfl fo30_1) ?_
     refine .go 32 rfl rfl rfl rfl (.lde rfl rfl rfl rfl tk3) ?_
     refine .go 32 rfl rfl rfl rfl (.bin rfl rfl rfl rfl) ?_
     refine .go 32 rfl rfl rfl rfl (.move rfl rfl) ?_
     refine .case 38 rfl (fun h21 => ?_) (fun h21 => ?_)
     ·skip
      have hE : p.en = q.en := of_decide_eq_true h21
      refine .go 38 rfl rfl rfl rfl (.fielde rfl rfl rfl fo30_2) ?_
      refine .go 38 rfl rfl rfl rfl (.fielde rfl rfl rfl fo28_1) ?_
      refine .go 38 rfl rfl rfl rfl (.ldem (ds := hdv p.it.vl) rfl rfl rfl rfl rfl tk25) ?_
      refine .go 38 rfl rfl rfl rfl (.fielde rfl rfl rfl fo30_2) ?_
      refine .go 38 rfl rfl rfl rfl (.fielde rfl rfl rfl fo28_1) ?_
      refine .go 38 rfl rfl rfl rfl (.ldem (ds := hdv q.it.vl) rfl rfl rfl rfl rfl tk25) ?_
      refine .go 38 rfl rfl rfl rfl (.eqh (a := p.it.vl) (b := q.it.vl) rfl rfl rfl qh25) ?_
      refine .go 32 rfl rfl rfl rfl (.pick rfl rfl rfl) ?_
      refine .step rfl (.pick rfl rfl rfl) ?_
      refine .nil ?_
      refine .next ?_
      refine .cond rfl (fun h22 => ?_) (fun h22 => ?_)
      ·skip
       have hv : H.l p.it.vl = H.l q.it.vl := of_decide_eq_true h22
       have hst : ¬ Stated ix p q := by unfold Stated; grind
       refine .seq ?_
       refine .region ?_
       refine .step rfl (.assign rfl rfl) ?_
       refine .step rfl (.assign rfl rfl) ?_
       refine .step rfl (.assign rfl rfl) ?_
       refine .nil ?_
       refine .next ?_
       refine .ret ?_
       have hcl := clash_none hst
       rw [hcl]
       refine TE.sub 6 (slT bdv 1 []) rfl rfl (nil_sub _ _) ?_
       refine TE.sub 7 (slT bdv 1 []) rfl rfl (nil_sub _ _) ?_
       exact TE.rettc rfl rfl rfl
      ·skip
       have hv : ¬ H.l p.it.vl = H.l q.it.vl := of_decide_eq_false h22
       have hst : Stated ix p q := by unfold Stated; grind
       refine .skip ?_
       refine .next ?_
       refine .seq ?_
       have hs1 := rightF_short hP
       have hs2 := rightF_short hQ
       obtain ⟨h01, hS1, hE1⟩ := txR_head ix p
       obtain ⟨h02, hS2, hE2⟩ := txR_head ix q
       refine .draw mixed [Ro.mk _ (Eff.mk (some (48, _)) []) [], Ro.mk _ (Eff.mk (some (49, _)) []) [], Ro.mk _ (Eff.mk (some (50, _)) []) [], Ro.mk _ (Eff.mk (some (51, _)) []) [], Ro.mk _ (Eff.mk (some (52, _)) []) [], Ro.mk _ (Eff.mk (some (53, _)) []) [], Ro.mk _ (Eff.mk (some (9, _)) []) [], Ro.mk _ (Eff.mk (some (10, _)) []) []] rfl ⟨(fun _ _ => .ldem (ds := hdv ix) rfl rfl rfl rfl rfl tk25), (fun _ _ => .ldem (ds := p.dv) rfl rfl rfl rfl rfl tk30), (fun _ _ => .callc rfl cf43 rfl (rtexts_pc ix p (by omega))), (fun _ _ => .ldem (ds := hdv ix) rfl rfl rfl rfl rfl tk25), (fun _ _ => .ldem (ds := q.dv) rfl rfl rfl rfl rfl tk30), (fun _ _ => .callc rfl cf43 rfl (rtexts_pc ix q (by omega))), (fun _ _ => .assign rfl rfl), (fun _ _ => .assign rfl rfl), trivial⟩ (by kernel_rfl) ?_
       refine TE.set 9 (.d (slT ldv 1 (txR ix p))) rfl rfl ?_
       refine TE.set 10 (.d (slT ldv 1 (txR ix q))) rfl rfl ?_
       refine .next ?_
       refine .seq ?_
       refine .seq ?_
       refine .draw mixed [Ro.mk _ (Eff.mk (some (54, _)) []) [], Ro.mk _ (Eff.mk (some (55, _)) []) [], Ro.mk _ (Eff.mk (some (56, _)) []) [], Ro.mk _ (Eff.mk (some (57, _)) []) [], Ro.mk _ (Eff.mk (some (58, _)) []) [], Ro.mk _ (Eff.mk (some (59, _)) []) [], Ro.mk _ (Eff.mk (some (60, _)) []) [], Ro.mk _ (Eff.mk (some (61, _)) []) [], Ro.mk _ (Eff.mk (some (62, _)) []) []] rfl ⟨(fun _ _ => .move rfl rfl), (fun _ _ => .idx ((txR ix p)[0]'h01) rfl rfl rfl rfl et48 (fun _ => rfl) (by decide) (List.getElem?_eq_getElem h01)), (fun _ _ => .lde rfl rfl rfl rfl tk44), (fun _ _ => .callf rfl cf42 rfl ⟨trivial, trivial⟩ (rsum_pf ((txR ix p)[0]'h01) hE1)), (fun _ _ => .move rfl rfl), (fun _ _ => .idx ((txR ix q)[0]'h02) rfl rfl rfl rfl et48 (fun _ => rfl) (by decide) (List.getElem?_eq_getElem h02)), (fun _ _ => .lde rfl rfl rfl rfl tk44), (fun _ _ => .callf rfl cf42 rfl ⟨trivial, trivial⟩ (rsum_pf ((txR ix q)[0]'h02) hE2)), (fun _ _ => .neh (a := sumH ((txR ix p)[0]'h01)) (b := sumH ((txR ix q)[0]'h02)) rfl rfl rfl qh25), trivial⟩ (by kernel_rfl) ?_
       refine .next ?_
       refine .cond rfl (fun h23 => ?_) (fun h23 => ?_)
       ·skip
        rw [hS1, hS2] at h23
        have hT : ¬ H.l (txH ix p p.path.length) = H.l (txH ix q q.path.length) := of_decide_eq_true h23
        refine .seq ?_
        refine .region ?_
        refine .step rfl (.assign rfl rfl) ?_
        refine .step rfl (.assign rfl rfl) ?_
        refine .step rfl (.assign rfl rfl) ?_
        refine .nil ?_
        refine .next ?_
        refine .ret ?_
        have hcl := clash_root hT
        rw [hcl]
        refine TE.sub 6 (slT bdv 1 []) rfl rfl (nil_sub _ _) ?_
        refine TE.sub 7 (slT bdv 1 []) rfl rfl (nil_sub _ _) ?_
        exact TE.rettc rfl rfl rfl
       ·skip
        rw [hS1, hS2] at h23
        have hT : H.l (txH ix p p.path.length) = H.l (txH ix q q.path.length) := by have z := of_decide_eq_false h23; exact Classical.byContradiction z
        refine .skip ?_
        refine .next ?_
        refine .seq ?_
        refine .seq ?_
        refine .region ?_
        refine .step rfl (.assign rfl rfl) ?_
        refine .nil ?_
        have hc := clash_go hst hT
        have hn1 := txR_len ix p
        have hn2 := txR_len ix q
        have hx1 : ∀ t ∈ txR ix p, t.length ≤ 549755813888 := fun t h => txR_text _ (Nat.le_refl _) t (List.mem_reverse.1 h)
        have hx2 : ∀ t ∈ txR ix q, t.length ≤ 549755813888 := fun t h => txR_text _ (Nat.le_refl _) t (List.mem_reverse.1 h)
        generalize txR ix p = l1 at *
        generalize txR ix q = l2 at *
        refine TE.setv 11 (.int .i64 ((0 : Nat) : Int)) rfl (congrArg _ (by first | rfl | (dsimp only; first | done | rfl | omega))) ?_
        refine .next ?_
        refine .block ?_
        refine TC.loop (S := Nat) (fun i => (i ≤ l1.length ∧ i ≤ l2.length) ∧ firstD l1 l2 = firstD (l1.drop i) (l2.drop i)) (fun i => l1.length - i) (fun i => [(9, .d (slT ldv 1 l1)), (10, .d (slT ldv 1 l2)), (11, .d (.v (.int .i64 ((i : Nat) : Int))))]) (fun i => [(1, .dead), (2, .dead), (3, .dead)]) (0) ⟨⟨Nat.zero_le _, Nat.zero_le _⟩, rfl⟩ ⟨⟨rfl, rfl⟩, ⟨rfl, rfl⟩, ⟨rfl, rfl⟩, trivial⟩ ⟨.inl rfl, .inl rfl, .inl rfl, trivial⟩ (fun i hI => ?_)
        obtain ⟨⟨hI0, hI1⟩, hI2⟩ := hI
        refine .seq ?_
        refine .seq ?_
        refine .region ?_
        refine .step rfl (.move rfl rfl) ?_
        refine .step rfl (.move rfl rfl) ?_
        refine .step rfl (.len rfl rfl ⟨_, _, rfl⟩ is48) ?_
        refine .step rfl (.bin rfl rfl rfl rfl) ?_
        refine .step rfl (.move rfl rfl) ?_
        refine .case 67 rfl (fun h24 => ?_) (fun h24 => ?_)
        ·skip
         have hi1 : i < l1.length := by have q := of_decide_eq_true h24; (try dsimp only at q); omega
         refine .go 67 rfl rfl rfl rfl (.move rfl rfl) ?_
         refine .go 67 rfl rfl rfl rfl (.move rfl rfl) ?_
         refine .go 67 rfl rfl rfl rfl (.len rfl rfl ⟨_, _, rfl⟩ is48) ?_
         refine .go 67 rfl rfl rfl rfl (.bin rfl rfl rfl rfl) ?_
         refine .step rfl (.pick rfl rfl rfl) ?_
         refine .nil ?_
         refine .next ?_
         refine .cond rfl (fun h25 => ?_) (fun h25 => ?_)
         ·skip
          have hi2 : i < l2.length := by have q := of_decide_eq_true h25; (try dsimp only at q); omega
          refine .skip ?_
          refine .next ?_
          refine .seq ?_
          refine .block ?_
          refine .seq ?_
          refine .draw mixed [Ro.mk _ (Eff.mk (some (75, _)) []) [], Ro.mk _ (Eff.mk (some (76, _)) []) [], Ro.mk _ (Eff.mk (some (77, _)) []) [], Ro.mk _ (Eff.mk (some (78, _)) []) [], Ro.mk _ (Eff.mk (some (79, _)) []) [], Ro.mk _ (Eff.mk (some (80, _)) []) [], Ro.mk _ (Eff.mk (some (81, _)) []) [], Ro.mk _ (Eff.mk (some (82, _)) []) [], Ro.mk _ (Eff.mk (some (83, _)) []) [], Ro.mk _ (Eff.mk (some (84, _)) []) [], Ro.mk _ (Eff.mk (some (85, _)) []) []] rfl ⟨(fun _ _ => .move rfl rfl), (fun _ _ => .move rfl rfl), (fun _ _ => .idx (l1[i]) rfl rfl rfl rfl et48 (fun _ => rfl) (Int.natCast_nonneg _) (get_nat hi1)), (fun _ _ => .lde rfl rfl rfl rfl tk44), (fun _ _ => .convbd (l := l1[i]) rfl rfl u844 us9), (fun _ _ => .move rfl rfl), (fun _ _ => .move rfl rfl), (fun _ _ => .idx (l2[i]) rfl rfl rfl rfl et48 (fun _ => rfl) (Int.natCast_nonneg _) (get_nat hi2)), (fun _ _ => .lde rfl rfl rfl rfl tk44), (fun _ _ => .convbd (l := l2[i]) rfl rfl u844 us9), (fun _ _ => .bin rfl rfl rfl rfl), trivial⟩ (by kernel_rfl) ?_
          refine .next ?_
          refine .cond rfl (fun h26 => ?_) (fun h26 => ?_)
          ·skip
           have he : ¬ l1[i] = l2[i] := by simpa using h26
           refine .seq ?_
           refine .draw mixed [Ro.mk _ (Eff.mk (some (86, _)) []) [], Ro.mk _ (Eff.mk (some (87, _)) []) [], Ro.mk _ (Eff.mk (some (88, _)) []) [], Ro.mk _ (Eff.mk (some (89, _)) []) [], Ro.mk _ (Eff.mk (some (90, _)) []) [], Ro.mk _ (Eff.mk (some (91, _)) []) [], Ro.mk _ (Eff.mk (some (92, _)) []) [], Ro.mk _ (Eff.mk (some (93, _)) []) [], Ro.mk _ (Eff.mk (some (6, _)) []) [], Ro.mk _ (Eff.mk (some (7, _)) []) [], Ro.mk _ (Eff.mk (some (8, _)) []) []] rfl ⟨(fun _ _ => .move rfl rfl), (fun _ _ => .move rfl rfl), (fun _ _ => .idx (l1[i]) rfl rfl rfl rfl et48 (fun _ => rfl) (Int.natCast_nonneg _) (get_nat hi1)), (fun _ _ => .lde rfl rfl rfl rfl tk44), (fun _ _ => .move rfl rfl), (fun _ _ => .move rfl rfl), (fun _ _ => .idx (l2[i]) rfl rfl rfl rfl et48 (fun _ => rfl) (Int.natCast_nonneg _) (get_nat hi2)), (fun _ _ => .lde rfl rfl rfl rfl tk44), (fun _ _ => .assign rfl rfl), (fun _ _ => .assign rfl rfl), (fun _ _ => .assign rfl rfl), trivial⟩ (by kernel_rfl) ?_
           refine .next ?_
           refine .ret ?_
           have hcl := hc.trans ((hI2.trans (firstD_at hi1 hi2 he)))
           rw [hcl]
           exact TE.rettc rfl rfl rfl
          ·skip
           have he : l1[i] = l2[i] := by simpa using h26
           refine .skip ?_
           refine TE.blk ?_
           refine .next ?_
           refine .region ?_
           refine .step rfl (.move rfl rfl) ?_
           refine .step rfl (.binv (.int .i64 ((i + 1 : Nat) : Int)) rfl rfl rfl rfl (congrArg _ (by (try dsimp only); rw [IntKind.wrap_i64]; omega))) ?_
           refine .step rfl (.assign rfl rfl) ?_
           refine .nil ?_
           refine TE.setv 11 (.int .i64 ((i + 1 : Nat) : Int)) rfl (congrArg _ (by first | rfl | (dsimp only; first | done | rfl | omega))) ?_
           exact TE.round id (fun _ _ e => e) (i + 1) ⟨⟨by omega, by omega⟩, hI2.trans (firstD_step hi1 hi2 he)⟩ (by omega) ⟨⟨rfl, rfl⟩, ⟨rfl, rfl⟩, ⟨rfl, rfl⟩, trivial⟩ ⟨.inl rfl, .inl rfl, .inl rfl, trivial⟩
         ·skip
          have hi2 : ¬ (i < l2.length) := by have q := of_decide_eq_false h25; (try dsimp only at q); omega
          have hi : ¬ (i < l1.length ∧ i < l2.length) := by omega
          refine .exit ?_
          refine TE.pass ?_
          refine TE.pass ?_
          refine TE.here ?_
          refine .next ?_
          refine .seq ?_
          refine .region ?_
          refine .step rfl (.assign rfl rfl) ?_
          refine .step rfl (.assign rfl rfl) ?_
          refine .step rfl (.assign rfl rfl) ?_
          refine .nil ?_
          refine .next ?_
          refine .ret ?_
          have hcl := hc.trans (hI2.trans (firstD_end hi))
          rw [hcl]
          refine TE.sub 6 (slT bdv 1 []) rfl rfl (nil_sub _ _) ?_
          refine TE.sub 7 (slT bdv 1 []) rfl rfl (nil_sub _ _) ?_
          exact TE.rettc rfl rfl rfl
        ·skip
         have hi1 : ¬ (i < l1.length) := by have q := of_decide_eq_false h24; (try dsimp only at q); omega
         have hi : ¬ (i < l1.length ∧ i < l2.length) := by omega
         refine .no 67 rfl rfl rfl rfl rfl rfl rfl ?_
         refine .no 67 rfl rfl rfl rfl rfl rfl rfl ?_
         refine .no 67 rfl rfl rfl rfl rfl rfl rfl ?_
         refine .no 67 rfl rfl rfl rfl rfl rfl rfl ?_
         refine .step rfl (.pick rfl rfl rfl) ?_
         refine .nil ?_
         refine .next ?_
         refine .cond rfl (fun h27 => absurd h27 (by decide)) (fun h27 => ?_)
         refine .exit ?_
         refine TE.pass ?_
         refine TE.pass ?_
         refine TE.here ?_
         refine .next ?_
         refine .seq ?_
         refine .region ?_
         refine .step rfl (.assign rfl rfl) ?_
         refine .step rfl (.assign rfl rfl) ?_
         refine .step rfl (.assign rfl rfl) ?_
         refine .nil ?_
         refine .next ?_
         refine .ret ?_
         have hcl := hc.trans (hI2.trans (firstD_end hi))
         rw [hcl]
         refine TE.sub 6 (slT bdv 1 []) rfl rfl (nil_sub _ _) ?_
         refine TE.sub 7 (slT bdv 1 []) rfl rfl (nil_sub _ _) ?_
         exact TE.rettc rfl rfl rfl
     ·skip
      have hE : ¬ p.en = q.en := of_decide_eq_false h21
      have hst : Stated ix p q := by unfold Stated; grind
      refine .no 38 rfl rfl rfl rfl rfl rfl rfl ?_
      refine .no 38 rfl rfl rfl rfl rfl rfl rfl ?_
      refine .no 38 rfl rfl rfl rfl rfl rfl rfl ?_
      refine .no 38 rfl rfl rfl rfl rfl rfl rfl ?_
      refine .no 38 rfl rfl rfl rfl rfl rfl rfl ?_
      refine .no 38 rfl rfl rfl rfl rfl rfl rfl ?_
      refine .no 38 rfl rfl rfl rfl rfl rfl rfl ?_
      refine .go 32 rfl rfl rfl rfl (.pick rfl rfl rfl) ?_
      refine .step rfl (.pick rfl rfl rfl) ?_
      refine .nil ?_
      refine .next ?_
      refine .cond rfl (fun h28 => absurd h28 (by decide)) (fun h28 => ?_)
      refine .skip ?_
      refine .next ?_
      refine .seq ?_
      have hs1 := rightF_short hP
      have hs2 := rightF_short hQ
      obtain ⟨h01, hS1, hE1⟩ := txR_head ix p
      obtain ⟨h02, hS2, hE2⟩ := txR_head ix q
      refine .draw mixed [Ro.mk _ (Eff.mk (some (48, _)) []) [], Ro.mk _ (Eff.mk (some (49, _)) []) [], Ro.mk _ (Eff.mk (some (50, _)) []) [], Ro.mk _ (Eff.mk (some (51, _)) []) [], Ro.mk _ (Eff.mk (some (52, _)) []) [], Ro.mk _ (Eff.mk (some (53, _)) []) [], Ro.mk _ (Eff.mk (some (9, _)) []) [], Ro.mk _ (Eff.mk (some (10, _)) []) []] rfl ⟨(fun _ _ => .ldem (ds := hdv ix) rfl rfl rfl rfl rfl tk25), (fun _ _ => .ldem (ds := p.dv) rfl rfl rfl rfl rfl tk30), (fun _ _ => .callc rfl cf43 rfl (rtexts_pc ix p (by omega))), (fun _ _ => .ldem (ds := hdv ix) rfl rfl rfl rfl rfl tk25), (fun _ _ => .ldem (ds := q.dv) rfl rfl rfl rfl rfl tk30), (fun _ _ => .callc rfl cf43 rfl (rtexts_pc ix q (by omega))), (fun _ _ => .assign rfl rfl), (fun _ _ => .assign rfl rfl), trivial⟩ (by kernel_rfl) ?_
      refine TE.set 9 (.d (slT ldv 1 (txR ix p))) rfl rfl ?_
      refine TE.set 10 (.d (slT ldv 1 (txR ix q))) rfl rfl ?_
      refine .next ?_
      refine .seq ?_
      refine .seq ?_
      refine .draw mixed [Ro.mk _ (Eff.mk (some (54, _)) []) [], Ro.mk _ (Eff.mk (some (55, _)) []) [], Ro.mk _ (Eff.mk (some (56, _)) []) [], Ro.mk _ (Eff.mk (some (57, _)) []) [], Ro.mk _ (Eff.mk (some (58, _)) []) [], Ro.mk _ (Eff.mk (some (59, _)) []) [], Ro.mk _ (Eff.mk (some (60, _)) []) [], Ro.mk _ (Eff.mk (some (61, _)) []) [], Ro.mk _ (Eff.mk (some (62, _)) []) []] rfl ⟨(fun _ _ => .move rfl rfl), (fun _ _ => .idx ((txR ix p)[0]'h01) rfl rfl rfl rfl et48 (fun _ => rfl) (by decide) (List.getElem?_eq_getElem h01)), (fun _ _ => .lde rfl rfl rfl rfl tk44), (fun _ _ => .callf rfl cf42 rfl ⟨trivial, trivial⟩ (rsum_pf ((txR ix p)[0]'h01) hE1)), (fun _ _ => .move rfl rfl), (fun _ _ => .idx ((txR ix q)[0]'h02) rfl rfl rfl rfl et48 (fun _ => rfl) (by decide) (List.getElem?_eq_getElem h02)), (fun _ _ => .lde rfl rfl rfl rfl tk44), (fun _ _ => .callf rfl cf42 rfl ⟨trivial, trivial⟩ (rsum_pf ((txR ix q)[0]'h02) hE2)), (fun _ _ => .neh (a := sumH ((txR ix p)[0]'h01)) (b := sumH ((txR ix q)[0]'h02)) rfl rfl rfl qh25), trivial⟩ (by kernel_rfl) ?_
      refine .next ?_
      refine .cond rfl (fun h29 => ?_) (fun h29 => ?_)
      ·skip
       rw [hS1, hS2] at h29
       have hT : ¬ H.l (txH ix p p.path.length) = H.l (txH ix q q.path.length) := of_decide_eq_true h29
       refine .seq ?_
       refine .region ?_
       refine .step rfl (.assign rfl rfl) ?_
       refine .step rfl (.assign rfl rfl) ?_
       refine .step rfl (.assign rfl rfl) ?_
       refine .nil ?_
       refine .next ?_
       refine .ret ?_
       have hcl := clash_root hT
       rw [hcl]
       refine TE.sub 6 (slT bdv 1 []) rfl rfl (nil_sub _ _) ?_
       refine TE.sub 7 (slT bdv 1 []) rfl rfl (nil_sub _ _) ?_
       exact TE.rettc rfl rfl rfl
      ·skip
       rw [hS1, hS2] at h29
       have hT : H.l (txH ix p p.path.length) = H.l (txH ix q q.path.length) := by have z := of_decide_eq_false h29; exact Classical.byContradiction z
       refine .skip ?_
       refine .next ?_
       refine .seq ?_
       refine .seq ?_
       refine .region ?_
       refine .step rfl (.assign rfl rfl) ?_
       refine .nil ?_
       have hc := clash_go hst hT
       have hn1 := txR_len ix p
       have hn2 := txR_len ix q
       have hx1 : ∀ t ∈ txR ix p, t.length ≤ 549755813888 := fun t h => txR_text _ (Nat.le_refl _) t (List.mem_reverse.1 h)
       have hx2 : ∀ t ∈ txR ix q, t.length ≤ 549755813888 := fun t h => txR_text _ (Nat.le_refl _) t (List.mem_reverse.1 h)
       generalize txR ix p = l1 at *
       generalize txR ix q = l2 at *
       refine TE.setv 11 (.int .i64 ((0 : Nat) : Int)) rfl (congrArg _ (by first | rfl | (dsimp only; first | done | rfl | omega))) ?_
       refine .next ?_
       refine .block ?_
       refine TC.loop (S := Nat) (fun i => (i ≤ l1.length ∧ i ≤ l2.length) ∧ firstD l1 l2 = firstD (l1.drop i) (l2.drop i)) (fun i => l1.length - i) (fun i => [(9, .d (slT ldv 1 l1)), (10, .d (slT ldv 1 l2)), (11, .d (.v (.int .i64 ((i : Nat) : Int))))]) (fun i => [(1, .dead), (2, .dead), (3, .dead)]) (0) ⟨⟨Nat.zero_le _, Nat.zero_le _⟩, rfl⟩ ⟨⟨rfl, rfl⟩, ⟨rfl, rfl⟩, ⟨rfl, rfl⟩, trivial⟩ ⟨.inl rfl, .inl rfl, .inl rfl, trivial⟩ (fun i hI => ?_)
       obtain ⟨⟨hI0, hI1⟩, hI2⟩ := hI
       refine .seq ?_
       refine .seq ?_
       refine .region ?_
       refine .step rfl (.move rfl rfl) ?_
       refine .step rfl (.move rfl rfl) ?_
       refine .step rfl (.len rfl rfl ⟨_, _, rfl⟩ is48) ?_
       refine .step rfl (.bin rfl rfl rfl rfl) ?_
       refine .step rfl (.move rfl rfl) ?_
       refine .case 67 rfl (fun h30 => ?_) (fun h30 => ?_)
       ·skip
        have hi1 : i < l1.length := by have q := of_decide_eq_true h30; (try dsimp only at q); omega
        refine .go 67 rfl rfl rfl rfl (.move rfl rfl) ?_
        refine .go 67 rfl rfl rfl rfl (.move rfl rfl) ?_
        refine .go 67 rfl rfl rfl rfl (.len rfl rfl ⟨_, _, rfl⟩ is48) ?_
        refine .go 67 rfl rfl rfl rfl (.bin rfl rfl rfl rfl) ?_
        refine .step rfl (.pick rfl rfl rfl) ?_
        refine .nil ?_
        refine .next ?_
        refine .cond rfl (fun h31 => ?_) (fun h31 => ?_)
        ·skip
         have hi2 : i < l2.length := by have q := of_decide_eq_true h31; (try dsimp only at q); omega
         refine .skip ?_
         refine .next ?_
         refine .seq ?_
         refine .block ?_
         refine .seq ?_
         refine .draw mixed [Ro.mk _ (Eff.mk (some (75, _)) []) [], Ro.mk _ (Eff.mk (some (76, _)) []) [], Ro.mk _ (Eff.mk (some (77, _)) []) [], Ro.mk _ (Eff.mk (some (78, _)) []) [], Ro.mk _ (Eff.mk (some (79, _)) []) [], Ro.mk _ (Eff.mk (some (80, _)) []) [], Ro.mk _ (Eff.mk (some (81, _)) []) [], Ro.mk _ (Eff.mk (some (82, _)) []) [], Ro.mk _ (Eff.mk (some (83, _)) []) [], Ro.mk _ (Eff.mk (some (84, _)) []) [], Ro.mk _ (Eff.mk (some (85, _)) []) []] rfl ⟨(fun _ _ => .move rfl rfl), (fun _ _ => .move rfl rfl), (fun _ _ => .idx (l1[i]) rfl rfl rfl rfl et48 (fun _ => rfl) (Int.natCast_nonneg _) (get_nat hi1)), (fun _ _ => .lde rfl rfl rfl rfl tk44), (fun _ _ => .convbd (l := l1[i]) rfl rfl u844 us9), (fun _ _ => .move rfl rfl), (fun _ _ => .move rfl rfl), (fun _ _ => .idx (l2[i]) rfl rfl rfl rfl et48 (fun _ => rfl) (Int.natCast_nonneg _) (get_nat hi2)), (fun _ _ => .lde rfl rfl rfl rfl tk44), (fun _ _ => .convbd (l := l2[i]) rfl rfl u844 us9), (fun _ _ => .bin rfl rfl rfl rfl), trivial⟩ (by kernel_rfl) ?_
         refine .next ?_
         refine .cond rfl (fun h32 => ?_) (fun h32 => ?_)
         ·skip
          have he : ¬ l1[i] = l2[i] := by simpa using h32
          refine .seq ?_
          refine .draw mixed [Ro.mk _ (Eff.mk (some (86, _)) []) [], Ro.mk _ (Eff.mk (some (87, _)) []) [], Ro.mk _ (Eff.mk (some (88, _)) []) [], Ro.mk _ (Eff.mk (some (89, _)) []) [], Ro.mk _ (Eff.mk (some (90, _)) []) [], Ro.mk _ (Eff.mk (some (91, _)) []) [], Ro.mk _ (Eff.mk (some (92, _)) []) [], Ro.mk _ (Eff.mk (some (93, _)) []) [], Ro.mk _ (Eff.mk (some (6, _)) []) [], Ro.mk _ (Eff.mk (some (7, _)) []) [], Ro.mk _ (Eff.mk (some (8, _)) []) []] rfl ⟨(fun _ _ => .move rfl rfl), (fun _ _ => .move rfl rfl), (fun _ _ => .idx (l1[i]) rfl rfl rfl rfl et48 (fun _ => rfl) (Int.natCast_nonneg _) (get_nat hi1)), (fun _ _ => .lde rfl rfl rfl rfl tk44), (fun _ _ => .move rfl rfl), (fun _ _ => .move rfl rfl), (fun _ _ => .idx (l2[i]) rfl rfl rfl rfl et48 (fun _ => rfl) (Int.natCast_nonneg _) (get_nat hi2)), (fun _ _ => .lde rfl rfl rfl rfl tk44), (fun _ _ => .assign rfl rfl), (fun _ _ => .assign rfl rfl), (fun _ _ => .assign rfl rfl), trivial⟩ (by kernel_rfl) ?_
          refine .next ?_
          refine .ret ?_
          have hcl := hc.trans ((hI2.trans (firstD_at hi1 hi2 he)))
          rw [hcl]
          exact TE.rettc rfl rfl rfl
         ·skip
          have he : l1[i] = l2[i] := by simpa using h32
          refine .skip ?_
          refine TE.blk ?_
          refine .next ?_
          refine .region ?_
          refine .step rfl (.move rfl rfl) ?_
          refine .step rfl (.binv (.int .i64 ((i + 1 : Nat) : Int)) rfl rfl rfl rfl (congrArg _ (by (try dsimp only); rw [IntKind.wrap_i64]; omega))) ?_
          refine .step rfl (.assign rfl rfl) ?_
          refine .nil ?_
          refine TE.setv 11 (.int .i64 ((i + 1 : Nat) : Int)) rfl (congrArg _ (by first | rfl | (dsimp only; first | done | rfl | omega))) ?_
          exact TE.round id (fun _ _ e => e) (i + 1) ⟨⟨by omega, by omega⟩, hI2.trans (firstD_step hi1 hi2 he)⟩ (by omega) ⟨⟨rfl, rfl⟩, ⟨rfl, rfl⟩, ⟨rfl, rfl⟩, trivial⟩ ⟨.inl rfl, .inl rfl, .inl rfl, trivial⟩
        ·skip
         have hi2 : ¬ (i < l2.length) := by have q := of_decide_eq_false h31; (try dsimp only at q); omega
         have hi : ¬ (i < l1.length ∧ i < l2.length) := by omega
         refine .exit ?_
         refine TE.pass ?_
         refine TE.pass ?_
         refine TE.here ?_
         refine .next ?_
         refine .seq ?_
         refine .region ?_
         refine .step rfl (.assign rfl rfl) ?_
         refine .step rfl (.assign rfl rfl) ?_
         refine .step rfl (.assign rfl rfl) ?_
         refine .nil ?_
         refine .next ?_
         refine .ret ?_
         have hcl := hc.trans (hI2.trans (firstD_end hi))
         rw [hcl]
         refine TE.sub 6 (slT bdv 1 []) rfl rfl (nil_sub _ _) ?_
         refine TE.sub 7 (slT bdv 1 []) rfl rfl (nil_sub _ _) ?_
         exact TE.rettc rfl rfl rfl
       ·skip
        have hi1 : ¬ (i < l1.length) := by have q := of_decide_eq_false h30; (try dsimp only at q); omega
        have hi : ¬ (i < l1.length ∧ i < l2.length) := by omega
        refine .no 67 rfl rfl rfl rfl rfl rfl rfl ?_
        refine .no 67 rfl rfl rfl rfl rfl rfl rfl ?_
        refine .no 67 rfl rfl rfl rfl rfl rfl rfl ?_
        refine .no 67 rfl rfl rfl rfl rfl rfl rfl ?_
        refine .step rfl (.pick rfl rfl rfl) ?_
        refine .nil ?_
        refine .next ?_
        refine .cond rfl (fun h33 => absurd h33 (by decide)) (fun h33 => ?_)
        refine .exit ?_
        refine TE.pass ?_
        refine TE.pass ?_
        refine TE.here ?_
        refine .next ?_
        refine .seq ?_
        refine .region ?_
        refine .step rfl (.assign rfl rfl) ?_
        refine .step rfl (.assign rfl rfl) ?_
        refine .step rfl (.assign rfl rfl) ?_
        refine .nil ?_
        refine .next ?_
        refine .ret ?_
        have hcl := hc.trans (hI2.trans (firstD_end hi))
        rw [hcl]
        refine TE.sub 6 (slT bdv 1 []) rfl rfl (nil_sub _ _) ?_
        refine TE.sub 7 (slT bdv 1 []) rfl rfl (nil_sub _ _) ?_
        exact TE.rettc rfl rfl rfl
end Go.Proofs.Ytejhgijjegnmnaa

