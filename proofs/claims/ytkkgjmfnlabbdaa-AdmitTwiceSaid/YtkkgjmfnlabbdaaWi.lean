/-
  Stories.
-/
import Derived.Test.YtkkgjmfnlabbdaaWh
namespace Go.Proofs.Ytkkgjmfnlabbdaa
set_option linter.unusedVariables false
set_option linter.unusedSimpArgs false
open Go.RowKit Pl

theorem ap30 : apt Try.prog 30 = some (52, 9, 80) := by kernel_rfl
theorem ap60 : apt Try.prog 60 = some (48, 3, 32) := by kernel_rfl
theorem cf10 : cfn Try.prog 10 = true := by kernel_rfl
theorem cf12 : cfn Try.prog 12 = true := by kernel_rfl
theorem cf18 : cfn Try.prog 18 = true := by kernel_rfl
theorem et22 : elt Try.prog 22 = some (5, 1) := by kernel_rfl
theorem is22 : isSl Try.prog 22 = some true := by kernel_rfl
theorem sp52 : stp Try.prog 52 = some ([.string ⟨#[]⟩, .int .i64 0, .int .u64 0, .int .i64 0, .int .u64 0, .int .u64 0, .int .i64 0, .int .i64 0, .bool false], [(0, 6), (6, 1), (7, 1), (8, 1)]) := by kernel_rfl
theorem tk5 : tyk Try.prog 5 = some none := by kernel_rfl

set_option maxRecDepth 100000 in
set_option maxHeartbeats 1600000 in
theorem story_pc (l w : List UInt8) (hl : l.length ≤ 100) (hw : w.length ≤ 100) : PC Try.prog 9 [slT bdv 1 l, slT bdv 1 w] (.tp [slT Kn.dv 4 (storyK 0 [] l), slT Pe.dv 9 (storyW (storyK 0 [] l) 0 [] w)]) := by
  refine PC.enter (fn := Try.f9) Try.func9 rfl Try.ntmps9 rfl (fun w0 K0 => ?_)
  refine .seq ?_
  refine .region ?_
  refine .step rfl (.assign rfl rfl) ?_
  refine .step rfl (.assign rfl rfl) ?_
  refine .nil ?_
  refine .next ?_
  refine .seq ?_
  refine .region ?_
  refine .step rfl (.assign rfl rfl) ?_
  refine .nil ?_
  refine TE.own0 6 1 50 4 rfl rfl ?_
  refine TE.frz 6 (slT Kn.dv 4 []) rfl rfl rfl rfl ?_
  refine .next ?_
  refine .seq ?_
  refine .seq ?_
  refine .region ?_
  refine .step rfl (.assign rfl rfl) ?_
  refine .nil ?_
  refine .next ?_
  refine .block ?_
  refine TC.loop (S := Nat × List Kn) (fun x => x.1 ≤ l.length ∧ x.2.length ≤ x.1 ∧ storyK x.1 x.2 (l.drop x.1) = storyK 0 [] l) (fun x => l.length - x.1) (fun x => [(0, .d (slT bdv 1 l)), (1, .d (slT bdv 1 w)), (6, .d (slT Kn.dv 4 x.2)), (7, .f (.v (.int .i64 x.1)))]) (fun x => [(1, .dead)]) ((0, [])) ⟨Nat.zero_le _, Nat.le_refl _, rfl⟩ ⟨⟨rfl, rfl⟩, ⟨rfl, rfl⟩, ⟨rfl, rfl⟩, ⟨rfl, rfl⟩, trivial⟩ ⟨.inl rfl, trivial⟩ (fun x hI => ?_)
  obtain ⟨k, kn⟩ := x
  obtain ⟨hx1, hx2, hx3⟩ := hI
  have hx1 : k ≤ l.length := hx1
  have hx2 : kn.length ≤ k := hx2
  have hx3 : storyK k kn (l.drop k) = storyK 0 [] l := hx3
  refine .seq ?_
  refine .seq ?_
  refine .region ?_
  refine .step rfl (.move rfl rfl) ?_
  refine .step rfl (.move rfl rfl) ?_
  refine .step rfl (.len rfl rfl ⟨_, _, rfl⟩ is22) ?_
  refine .step rfl (.bin rfl rfl rfl rfl) ?_
  refine .nil ?_
  refine .next ?_
  refine .cond rfl (fun h1 => ?_) (fun h1 => ?_)
  · skip
    have hlt : k < l.length := by have q : (k : Int) < (l.length : Int) := of_decide_eq_true h1; omega
    refine .skip ?_
    refine .next ?_
    refine .seq ?_
    refine .block ?_
    refine .seq ?_
    refine .region ?_
    refine .step rfl (.move rfl rfl) ?_
    refine .step rfl (.move rfl rfl) ?_
    refine .step rfl (.idx (l[k]) rfl rfl rfl rfl et22 (fun _ => rfl) (Int.natCast_nonneg _) (get_nat hlt)) ?_
    refine .step rfl (.lde rfl rfl rfl rfl tk5) ?_
    refine .step rfl (.callf rfl cf10 rfl ⟨trivial, trivial⟩ (name_pf (l[k].toNat) (Int.natCast_nonneg _) (by have := UInt8.toNat_lt l[k]; omega))) ?_
    refine .step rfl (.assign rfl rfl) ?_
    refine .nil ?_
    refine .next ?_
    refine .seq ?_
    refine .region ?_
    refine .step rfl (.move rfl rfl) ?_
    refine .step rfl (.move rfl rfl) ?_
    refine .step rfl (.callf rfl cf17 rfl ⟨trivial, trivial, trivial⟩ (rlatest_any kn (nameL l[k].toNat) (by omega))) ?_
    refine .step rfl (.move rfl rfl) ?_
    refine .step rfl (.extract rfl rfl rfl rfl) ?_
    refine .step rfl (.extract rfl rfl rfl rfl) ?_
    refine .step rfl (.alloc 2 rfl rfl zc50 rfl) ?_
    refine .step rfl (.store rfl rfl rfl sz50 rfl rfl) ?_
    refine .step rfl (.assign rfl rfl) ?_
    refine .nil ?_
    refine .next ?_
    refine .seq ?_
    refine .region ?_
    refine .step rfl (.fieldp rfl rfl rfl rfl fo50_0) ?_
    refine .step rfl (.fieldp rfl rfl rfl rfl fo48_1) ?_
    refine .step rfl (.ldp rfl rfl rfl rfl rfl tk3) ?_
    refine .step rfl (.binv (.int .i64 (i64w ((latR kn (nameL l[k].toNat)).1.ver + 1))) rfl rfl rfl rfl (rfl)) ?_
    refine .step rfl (.assign rfl rfl) ?_
    refine .nil ?_
    refine .next ?_
    refine .region ?_
    refine .step rfl (.move rfl rfl) ?_
    refine .step rfl (.move rfl rfl) ?_
    refine .step rfl (.binv (.int .i64 ((k + 1 : Nat) : Int)) rfl rfl rfl rfl (congrArg _ (wrap_succ hlt (by omega)))) ?_
    refine .step rfl (.move rfl rfl) ?_
    refine .step rfl (.move rfl rfl) ?_
    refine .step rfl (.move rfl rfl) ?_
    refine .step rfl (.move rfl rfl) ?_
    refine .step rfl (.callf rfl cf16 rfl ⟨trivial, trivial, trivial, trivial⟩ (key_pf (nameL l[k].toNat) _ false (by have := (nameL_len (l[k].toNat)).2; omega))) ?_
    refine .step rfl (.build rfl rfl sp48 rfl rfl) ?_
    refine .step rfl (.buildsl (ds := (storyE kn l[k]).dv) 3 rfl rfl rfl ap60 zc48 rfl rfl rfl) ?_
    refine .frz 48 (slT En.dv 3 [storyE kn l[k]]) rfl rfl rfl rfl ?_
    refine .step rfl (.callc rfl cf18 rfl (add_pc kn ((k + 1 : Nat) : Int) [storyE kn l[k]] (by omega) (by simp))) ?_
    refine .step rfl (.move rfl rfl) ?_
    refine .step rfl (.extract rfl rfl rfl rfl) ?_
    refine .step rfl (.extract rfl rfl rfl rfl) ?_
    refine .step rfl (.assign rfl rfl) ?_
    refine .nil ?_
    refine TE.blk ?_
    refine .next ?_
    refine .region ?_
    refine .step rfl (.move rfl rfl) ?_
    refine .step rfl (.binv (.int .i64 ((k + 1 : Nat) : Int)) rfl rfl rfl rfl (congrArg _ (wrap_succ hlt (by omega)))) ?_
    refine .step rfl (.assign rfl rfl) ?_
    refine .nil ?_
    exact TE.round id (fun _ _ e => e) ((k + 1, (addR kn ((k + 1 : Nat) : Int) [storyE kn l[k]]).1)) ⟨hlt, by have := addR_len kn ((k + 1 : Nat) : Int) [storyE kn l[k]]; simp at this; show (addR kn ((k + 1 : Nat) : Int) [storyE kn l[k]]).1.length ≤ k + 1; simp; omega, by rw [← hx3, ← List.getElem_cons_drop hlt]; rfl⟩ (by show l.length - (k + 1) < l.length - k; omega) ⟨⟨rfl, rfl⟩, ⟨rfl, rfl⟩, ⟨rfl, rfl⟩, ⟨rfl, rfl⟩, trivial⟩ ⟨.inl rfl, trivial⟩
  · skip
    have hge : k = l.length := by have q : ¬ ((k : Int) < (l.length : Int)) := of_decide_eq_false h1; omega
    have hkn : kn = storyK 0 [] l := by rw [← hx3, hge, List.drop_length]; rfl
    subst hkn
    have hkno : knOk l.length (storyK 0 [] l) := by have := storyK_ok l 0 0 [] (fun _ h => by cases h) (by omega); rwa [Nat.zero_add] at this
    refine .exit ?_
    refine TE.pass ?_
    refine TE.pass ?_
    refine TE.here ?_
    refine .next ?_
    refine .seq ?_
    refine .region ?_
    refine .step rfl (.assign rfl rfl) ?_
    refine .nil ?_
    refine TE.own0 12 4 52 9 rfl rfl ?_
    refine .next ?_
    refine .seq ?_
    refine .seq ?_
    refine .region ?_
    refine .step rfl (.assign rfl rfl) ?_
    refine .nil ?_
    refine .next ?_
    refine .block ?_
    refine TC.loop (S := Nat × List Pe) (fun x => x.1 ≤ w.length ∧ x.2.length = x.1 ∧ waitOk l.length x.2 ∧ storyW (storyK 0 [] l) x.1 x.2 (w.drop x.1) = storyW (storyK 0 [] l) 0 [] w) (fun x => w.length - x.1) (fun x => [(0, .d (slT bdv 1 l)), (1, .d (slT bdv 1 w)), (6, .d (slT Kn.dv 4 (storyK 0 [] l))), (12, .ow 4 x.2.length 9), (13, .f (.v (.int .i64 x.1)))]) (fun x => [(1, .dead), (4, .row 52 9 (x.2.flatMap Pe.dv))]) ((0, [])) ⟨Nat.zero_le _, rfl, fun _ h => (by cases h), rfl⟩ ⟨⟨rfl, rfl⟩, ⟨rfl, rfl⟩, ⟨rfl, rfl⟩, ⟨rfl, rfl⟩, ⟨rfl, rfl⟩, trivial⟩ ⟨.inl rfl, .inr rfl, trivial⟩ (fun x hI => ?_)
    obtain ⟨k, ww⟩ := x
    obtain ⟨hx1, hx2, hx3, hx4⟩ := hI
    have hx1 : k ≤ w.length := hx1
    have hx2 : ww.length = k := hx2
    have hx3 : waitOk l.length ww := hx3
    have hx4 : storyW (storyK 0 [] l) k ww (w.drop k) = storyW (storyK 0 [] l) 0 [] w := hx4
    refine .seq ?_
    refine .seq ?_
    refine .region ?_
    refine .step rfl (.move rfl rfl) ?_
    refine .step rfl (.move rfl rfl) ?_
    refine .step rfl (.len rfl rfl ⟨_, _, rfl⟩ is22) ?_
    refine .step rfl (.bin rfl rfl rfl rfl) ?_
    refine .nil ?_
    refine .next ?_
    refine .cond rfl (fun h2 => ?_) (fun h2 => ?_)
    · skip
      have hlt : k < w.length := by have q : (k : Int) < (w.length : Int) := of_decide_eq_true h2; omega
      refine .skip ?_
      refine .next ?_
      refine .seq ?_
      refine .block ?_
      refine .seq ?_
      refine .region ?_
      refine .step rfl (.move rfl rfl) ?_
      refine .step rfl (.move rfl rfl) ?_
      refine .step rfl (.idx (w[k]) rfl rfl rfl rfl et22 (fun _ => rfl) (Int.natCast_nonneg _) (get_nat hlt)) ?_
      refine .step rfl (.lde rfl rfl rfl rfl tk5) ?_
      refine .step rfl (.callf rfl cf10 rfl ⟨trivial, trivial⟩ (name_pf (w[k].toNat) (Int.natCast_nonneg _) (by have := UInt8.toNat_lt w[k]; omega))) ?_
      refine .step rfl (.assign rfl rfl) ?_
      refine .nil ?_
      refine .next ?_
      refine .seq ?_
      refine .region ?_
      refine .step rfl (.move rfl rfl) ?_
      refine .step rfl (.move rfl rfl) ?_
      refine .step rfl (.move rfl rfl) ?_
      refine .step rfl (.callf rfl cf11 rfl ⟨trivial, okA_len rfl (flat_length (enc := Pe.dv) (fun _ => rfl) ww), trivial, trivial⟩ (rnext_any (storyK 0 [] l) ww (nameL w[k].toNat) (by omega) (by omega))) ?_
      refine .step rfl (.move rfl rfl) ?_
      refine .step rfl (.extract rfl rfl rfl rfl) ?_
      refine .step rfl (.extract rfl rfl rfl rfl) ?_
      refine .step rfl (.assign rfl rfl) ?_
      refine .step rfl (.assign rfl rfl) ?_
      refine .nil ?_
      refine .next ?_
      have hver := storyP_ver hkno hx3 (by omega) k w[k]
      have hv1 : 1 ≤ i64w ((nextR (storyK 0 [] l) ww (nameL w[k].toNat)).1 + 1) := by have := hver.1; simpa [storyP, seatU_ver] using this
      have hv2 : i64w ((nextR (storyK 0 [] l) ww (nameL w[k].toNat)).1 + 1) ≤ 1073741824 := by have := hver.2; simp only [storyP, seatU_ver] at this; omega
      refine .region ?_
      refine .step rfl (.move rfl rfl) ?_
      refine .step rfl (.move rfl rfl) ?_
      refine .step rfl (.move rfl rfl) ?_
      refine .step rfl (.move rfl rfl) ?_
      refine .step rfl (.move rfl rfl) ?_
      refine .step rfl (.idx (w[k]) rfl rfl rfl rfl et22 (fun _ => rfl) (Int.natCast_nonneg _) (get_nat hlt)) ?_
      refine .step rfl (.lde rfl rfl rfl rfl tk5) ?_
      refine .step rfl (.callf rfl cf12 rfl ⟨trivial, trivial, trivial, trivial, trivial⟩ (seatUpd_pf (nameL w[k].toNat) (i64w ((nextR (storyK 0 [] l) ww (nameL w[k].toNat)).1 + 1)) (w[k].toNat) 0 (by have := (nameL_len (w[k].toNat)).2; omega) hv1 hv2 (Int.natCast_nonneg _) (by have := UInt8.toNat_lt w[k]; omega) (by decide))) ?_
      refine .step rfl (.move rfl rfl) ?_
      refine .step rfl (.build rfl rfl sp52 rfl rfl) ?_
      refine .step rfl (.buildsl (ds := (storyP (storyK 0 [] l) k ww w[k]).dv) 5 rfl rfl rfl ap30 zc52 rfl rfl rfl) ?_
      refine .step rfl (.append 6 rfl rfl rfl (flat_length (enc := Pe.dv) (fun _ => rfl) ww) rfl ap30 rfl rfl (okA_len rfl rfl) rfl (by omega) (by omega)) ?_
      refine .step rfl (.assign rfl rfl) ?_
      refine .nil ?_
      refine TE.blk ?_
      refine .next ?_
      refine .region ?_
      refine .step rfl (.move rfl rfl) ?_
      refine .step rfl (.binv (.int .i64 ((k + 1 : Nat) : Int)) rfl rfl rfl rfl (congrArg _ (wrap_succ hlt (by omega)))) ?_
      refine .step rfl (.assign rfl rfl) ?_
      refine .nil ?_
      exact TE.round (swp 4 6) (swp_inj 4 6) ((k + 1, ww ++ [storyP (storyK 0 [] l) k ww w[k]])) ⟨hlt, by simp [hx2], storyP_waitOk hkno hx3 (by omega) k w[k], by rw [← hx4, ← List.getElem_cons_drop hlt]; rfl⟩ (by show w.length - (k + 1) < w.length - k; omega) ⟨⟨rfl, rfl⟩, ⟨rfl, rfl⟩, ⟨rfl, rfl⟩, ⟨(by simp [AV.ren, swp]; rfl), rfl⟩, ⟨rfl, rfl⟩, trivial⟩ ⟨.inl rfl, .inr (by simp [swp]; rfl), trivial⟩
    · skip
      have hge : k = w.length := by have q : ¬ ((k : Int) < (w.length : Int)) := of_decide_eq_false h2; omega
      have hww : ww = storyW (storyK 0 [] l) 0 [] w := by rw [← hx4, hge, List.drop_length]; rfl
      subst hww
      refine .exit ?_
      refine TE.pass ?_
      refine TE.pass ?_
      refine TE.here ?_
      refine .next ?_
      refine .seq ?_
      refine .region ?_
      refine .step rfl (.move rfl rfl) ?_
      refine .step rfl (.move rfl rfl) ?_
      refine .step rfl (.assign rfl rfl) ?_
      refine .step rfl (.assign rfl rfl) ?_
      refine .nil ?_
      refine .next ?_
      refine .ret ?_
      refine TE.frz 5 (slT Pe.dv 9 (storyW (storyK 0 [] l) 0 [] w)) rfl rfl (flat_length (enc := Pe.dv) (fun _ => rfl) _) rfl ?_
      exact TE.rettc rfl rfl rfl

end Go.Proofs.Ytkkgjmfnlabbdaa
