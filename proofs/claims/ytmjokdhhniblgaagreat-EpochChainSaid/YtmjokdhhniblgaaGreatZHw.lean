import Derived.Test.YtmjokdhhniblgaaGreatZHu
import Derived.Test.YtmjokdhhniblgaaGreatZEv
/-
  EpochChain.
-/
namespace Go.Proofs.YtmjokdhhniblgaaGreat
set_option linter.unusedVariables false
set_option linter.unusedSimpArgs false
open Go.RowKit Pl
set_option maxRecDepth 100000
set_option maxHeartbeats 3200000
theorem ap34 : apt Tryz.prog 34 = some (30, 69, 104) := by kernel_rfl
theorem epochChain_pf (l : List UInt8) : PF Tryz.prog 4 [slT bdv 1 l] (.v (.bool true)) := by
 refine PF.enter (fn := Tryz.f4) Tryz.func4 rfl Tryz.ntmps4 rfl (fun w0 => .w ?_)
 refine .t 1 1 rfl rfl (.cf (eknown_pf) rfl) ?_
 refine .q 5 1 rfl rfl (fun h2 => ?_) (fun h2 => ?_)
 ·skip
  have hl : 8 < l.length := by have q := of_decide_eq_true h2; (try dsimp only at q); omega
  exact .z 1 1 rfl (TE.retf rfl rfl rfl (okv rfl))
 ·skip
  have hl : ¬ (8 < l.length) := by have q := of_decide_eq_false h2; (try dsimp only at q); omega
  refine .t 1 1 rfl rfl (.cc (epochs_pc 5 ⟨by decide, by decide⟩ l (by omega)) rfl) ?_
  refine .g 8 1 rfl ?_
  refine TE.own0 6 1 40 4 rfl rfl ?_
  refine TE.frz 6 (slT Kn.dv 4 ([])) rfl rfl rfl rfl ?_
  refine .g 1 2 rfl ?_
  refine TE.own0 7 2 30 69 rfl rfl ?_
  refine .g 1 3 rfl ?_
  obtain ⟨ps, hps⟩ : ∃ ps, ps = (epsR 5 l).ps := ⟨_, rfl⟩
  have hG : epsGood 5 ps := by rw [hps]; exact (epsR_well 5 l (by omega)).good
  have hpl : ps.length ≤ 1000 := by rw [hps]; have q1 := (epsR_ok 5 l).ps; have q2 := (epsR_ok 5 l).hs; omega
  refine TE.set 3 (.d (slT Pub.dv 70 (ps))) rfl (by rw [hps]) ?_
  refine TE.setv 8 (.int .i64 ((0 : Nat) : Int)) rfl (congrArg _ (by first | rfl | (dsimp only; first | done | rfl | omega))) ?_
  refine TE.set 6 (.d (slT Kn.dv 4 (knPs (ps.take (0))))) rfl rfl ?_
  refine TE.set 7 (.ow 2 ((ps.take (0)).map Pub.hd).length 69) rfl rfl ?_
  refine TE.obj 2 (.row 30 69 (((ps.take (0)).map Pub.hd).flatMap Hd.dv)) rfl rfl ?_
  refine .lo (T := Nat) 0 3 rfl (fun i => i ≤ ps.length) (fun i => ps.length - i) [0] [] (fun i => [(3, .d (slT Pub.dv 70 (ps))), (6, .d (slT Kn.dv 4 (knPs (ps.take (i))))), (7, .ow 2 ((ps.take (i)).map Pub.hd).length 69), (8, .d (.v (.int .i64 ((i : Nat) : Int))))]) (fun i => [(2, .row 30 69 (((ps.take (i)).map Pub.hd).flatMap Hd.dv))]) (0) rfl rfl (Nat.zero_le _) rfl rfl rfl (fun i hI => ?_)
  refine .q 4 3 rfl rfl (fun h3 => ?_) (fun h3 => ?_)
  ·skip
   have hi : i < ps.length := by have q := of_decide_eq_true h3; (try dsimp only at q); omega
   have hst := step_in hG hpl hi
   obtain ⟨kn, hkn⟩ : ∃ kn, kn = knPs (ps.take (i)) := ⟨_, rfl⟩
   obtain ⟨hs, hhs⟩ : ∃ hs, hs = (ps.take (i)).map Pub.hd := ⟨_, rfl⟩
   rw [← hkn, ← hhs] at hst
   rw [← hkn, ← hhs]
   have hsl := hst.len
   have hkl := hst.knl
   have hKl := hst.Kl
   have hel := hst.esl
   have cB : PM Tryz.prog 12 [.d (.v (.int .u64 5)), .d (slT Kn.dv 4 (kn)), .ow 0 hs.length 69, .d (slT En.dv 3 (ps[i].es)), .d (.v (.int .i64 ps[i].hd.tk))] (.mrow 0 30 69 ((hs).flatMap Hd.dv)) (.mrow 0 30 69 ((hs).flatMap Hd.dv)) (.d (.tp [.ag ps[i].dv, slT Kn.dv 4 (knPs (ps.take (i + 1))), .v (.int .i64 0)])) := by have q := build_pm 5 ⟨by decide, by decide⟩ kn hs ps[i].es ps[i].hd.tk (by omega) (by omega) (by omega) hst.chain hst.ok; rw [hst.build] at q; exact q
   have p5 : u64I (pubF 5) := ⟨(pubF_bd 5).1, Int.lt_trans (pubF_bd 5).2 (by decide)⟩
   have cC : PM Tryz.prog 17 [.d (.v (.int .u64 (pubF 5))), .d (slT Kn.dv 4 (kn)), .ow 0 hs.length 69, .d (.ag ps[i].dv)] (.mrow 0 30 69 ((hs).flatMap Hd.dv)) (.mrow 0 30 69 ((hs).flatMap Hd.dv)) (.d (.tp [slT Kn.dv 4 (knPs (ps.take (i + 1))), .v (.bool true)])) := by have q := check_pm (pubF 5) p5 kn hs ps[i] (by omega) (by omega) (by omega) hst.chain hst.ok hst.hf; rw [hst.check] at q; exact q
   have cD : PM Tryz.prog 17 [.d (.v (.int .u64 (pubF 5))), .d (slT Kn.dv 4 (knPs (ps.take (i + 1)))), .ow 0 (hs.length + 1) 69, .d (.ag ps[i].dv)] (.mrow 0 30 69 (hs.flatMap Hd.dv ++ [ps[i].hd].flatMap Hd.dv)) (.mrow 0 30 69 (hs.flatMap Hd.dv ++ [ps[i].hd].flatMap Hd.dv)) (.d (.tp [slT Kn.dv 4 ([]), .v (.bool false)])) := by have q := check_pm (pubF 5) p5 (knPs (ps.take (i + 1))) (hs ++ [ps[i].hd]) ps[i] (by omega) (by rw [List.length_append]; show _ + 1 ≤ _; omega) (by omega) hst.chainK' (fun h hh => (List.mem_append.1 hh).elim (hst.ok h) (fun e => by rw [List.mem_singleton] at e; rw [e]; exact hst.ok2)) hst.hf; rw [hst.again, List.length_append, List.flatMap_append] at q; exact q
   refine .d 0 3 rfl ?_
   refine .v 4 3 [] rfl rfl (fun _ _ => .idx (ps[i]) rfl rfl rfl rfl et32 (fun _ => rfl) (Int.natCast_nonneg _) (get_nat hi)) ?_
   refine .v 4 3 [] rfl rfl (fun _ _ => .idx (ps[i]) rfl rfl rfl rfl et32 (fun _ => rfl) (Int.natCast_nonneg _) (get_nat hi)) ?_
   refine .t 3 3 (E := ⟨some (47, _), [(2, _)]⟩) [2] rfl rfl (fun _ _ => .cm 2 (.row 30 69 ((hs).flatMap Hd.dv)) rfl (cB) rfl) ?_
   refine .y 8 3 rfl (by kernel_rfl) ?_
   refine .d 0 4 rfl ?_
   refine .v 0 4 [] rfl rfl (fun _ _ => .cf (rpub_pf 5 ⟨by decide, by decide⟩) rfl) ?_
   refine .v 4 4 [] rfl rfl (fun _ _ => .idx (ps[i]) rfl rfl rfl rfl et32 (fun _ => rfl) (Int.natCast_nonneg _) (get_nat hi)) ?_
   refine .v 0 4 [] rfl rfl (fun _ _ => .lm ((ps[i]).dv) rfl) ?_
   refine .t 0 4 (E := ⟨some (59, _), [(2, _)]⟩) [2] rfl rfl (fun _ _ => .cm 2 (.row 30 69 ((hs).flatMap Hd.dv)) rfl (cC) rfl) ?_
   refine .y 5 4 rfl (by kernel_rfl) ?_
   refine .d 0 4 rfl ?_
   refine .v 1 4 [] rfl rfl (fun _ _ => .bv (.bool false) rfl (rfl)) ?_
   refine .v 5 4 [3] rfl rfl (fun _ _ => .lp ((ps[i]).dv) rfl) ?_
   refine .v 2 4 [] rfl rfl (fun _ _ => .idx (ps[i]) rfl rfl rfl rfl et32 (fun _ => rfl) (Int.natCast_nonneg _) (get_nat hi)) ?_
   refine .v 0 4 [] rfl rfl (fun _ _ => .lm ((ps[i]).dv) rfl) ?_
   refine .v 0 4 [] rfl rfl (fun _ _ => .cf (samep_pf ps[i] hst.hf (by omega) hst.esf) rfl) ?_
   refine .v 5 4 [] rfl rfl (fun _ _ => .cf (samek_pf (knPs (ps.take (i + 1))) (by omega) (kn_fit hst.chainK' hst.fit)) rfl) ?_
   refine .y 2 4 rfl (by kernel_rfl) ?_
   refine .d 1 4 rfl ?_
   refine .v 0 4 [] rfl rfl (fun _ _ => .cf (rpub_pf 5 ⟨by decide, by decide⟩) rfl) ?_
   refine .t 2 4 (E := ⟨some (87, _), [(4, _)]⟩) [2, 4] rfl rfl (fun _ _ => .append0 4 rfl rfl rfl ap34 rfl rfl (okA_c rfl (flat_length (sz := 69) (enc := Hd.dv) (fun _ => rfl) _)) (flat_one (fun _ => rfl) _) (by omega) (by omega)) ?_
   refine .v 1 5 [3] rfl rfl (fun _ _ => .lp (ps[i].hd.dv) rfl) ?_
   refine .t 0 5 (E := ⟨some (90, _), [(5, _)]⟩) [5] rfl rfl (fun _ _ => .bb ([ps[i].hd].flatMap Hd.dv) 5 rfl) ?_
   refine .t 0 6 (E := ⟨some (91, _), [(4, .dead), (6, _)]⟩) [4, 5, 6] rfl rfl (fun _ _ => .ap 6 rfl (flat_length (sz := 69) (enc := Hd.dv) (fun _ => rfl) _) rfl (by omega) (by omega)) ?_
   refine .v 2 7 [] rfl rfl (fun _ _ => .idx (ps[i]) rfl rfl rfl rfl et32 (fun _ => rfl) (Int.natCast_nonneg _) (get_nat hi)) ?_
   refine .v 0 7 [] rfl rfl (fun _ _ => .lm ((ps[i]).dv) rfl) ?_
   refine .t 0 7 (E := ⟨some (96, _), [(6, _)]⟩) [6] rfl rfl (fun _ _ => .cm 6 (.row 30 69 (hs.flatMap Hd.dv ++ [ps[i].hd].flatMap Hd.dv)) rfl (cD) rfl) ?_
   refine .y 5 7 rfl (by kernel_rfl) ?_
   refine .t 5 7 rfl rfl (.lp (ps[i].hd.dv) rfl) ?_
   refine .t 0 7 rfl rfl (.bb ([ps[i].hd].flatMap Hd.dv) 7 rfl) ?_
   refine .t 0 8 rfl rfl (.ap 8 rfl (flat_length (sz := 69) (enc := Hd.dv) (fun _ => rfl) _) rfl (by omega) (by omega)) ?_
   refine .t 3 9 rfl rfl (.bv (.int .i64 ((i + 1 : Nat) : Int)) rfl (congrArg _ (by (try dsimp only); rw [IntKind.wrap_i64]; omega))) ?_
   refine .g 1 9 rfl ?_
   have e1 : (ps.take (i + 1)).map Pub.hd = hs ++ [ps[i].hd] := by rw [take_snoc' hi, List.map_append, ← hhs]; rfl
   refine TE.set 7 (.ow 8 ((ps.take (i + 1)).map Pub.hd).length 69) rfl (by rw [e1]; simp) ?_
   refine TE.obj 8 (.row 30 69 (((ps.take (i + 1)).map Pub.hd).flatMap Hd.dv)) rfl (by rw [e1, List.flatMap_append]) ?_
   refine TE.setv 8 (.int .i64 ((i + 1 : Nat) : Int)) rfl (congrArg _ (by first | rfl | (dsimp only; first | done | rfl | omega))) ?_
   exact .rd 0 9 (swp 2 8) (swp_inj 2 8) rfl (i + 1) hi (by omega) rfl rfl rfl
  ·skip
   have hi : ¬ (i < ps.length) := by have q := of_decide_eq_false h3; (try dsimp only at q); omega
   exact .z 1 9 rfl (TE.retf rfl rfl rfl (okv rfl))
end Go.Proofs.YtmjokdhhniblgaaGreat

