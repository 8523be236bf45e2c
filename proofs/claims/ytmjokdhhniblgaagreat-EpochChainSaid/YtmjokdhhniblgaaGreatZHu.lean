import Derived.Test.YtmjokdhhniblgaaGreatZHt
import Derived.Test.YtmjokdhhniblgaaGreatZGh
import Derived.Test.YtmjokdhhniblgaaGreatZEv
/-
  EpochRoots.
-/
namespace Go.Proofs.YtmjokdhhniblgaaGreat
set_option linter.unusedVariables false
set_option linter.unusedSimpArgs false
open Go.RowKit Pl
set_option maxRecDepth 100000
set_option maxHeartbeats 3200000
theorem et32 : elt Tryz.prog 32 = some (48, 70) := by kernel_rfl
theorem eknown_pf : PF Tryz.prog 7 [] (.v (.bool true)) := by
 obtain ⟨sg, hsg⟩ : ∃ sg, sg = signH 5 (headN [] [] [e0] 4) := ⟨_, rfl⟩
 have so : sg.ok := by rw [hsg]; exact signH_ok _ _
 have sf : hdFit sg := by rw [hsg]; exact fit_sign 5 (headN_fit e0_good (by decide))
 have se : sg.ep = 1 := by rw [hsg]; rfl
 have sc : sg.ct = 1 := by rw [hsg]; rfl
 have c1 : PC Tryz.prog 12 [.v (.int .u64 5), .v (.slice none 0 0), .v (.slice none 0 0), slT En.dv 3 ([e0]), .v (.int .i64 4)] (.tp [.ag (Pub.dv ⟨sg, [e0]⟩), slT Kn.dv 4 ([⟨[97], 1, 2, 1⟩]), .v (.int .i64 0)]) := by have q := build_pc 5 ⟨by decide, by decide⟩ [] [] [e0] 4 (by decide) (by decide) (by decide) trivial (fun h hh => by cases hh); rw [e0_build, ← hsg] at q; exact .subl (subL_cons (fun _ _ _ h => h) (subL_cons (nil_sub _ _) (subL_cons (nil_sub _ _) (fun _ _ _ h => h)))) q
 have c2 : PC Tryz.prog 17 [.v (.int .u64 (pubF 5)), .v (.slice none 0 0), .v (.slice none 0 0), .ag (Pub.dv ⟨sg, [e0]⟩)] (.tp [slT Kn.dv 4 ([⟨[97], 1, 2, 1⟩]), .v (.bool true)]) := by have q := check_pc (pubF 5) ⟨(pubF_bd 5).1, Int.lt_trans (pubF_bd 5).2 (by decide)⟩ [] [] ⟨sg, [e0]⟩ (by decide) (by decide) (show 1 ≤ 1000 by decide) trivial (fun h hh => by cases hh) sf; rw [hsg, e0_check, ← hsg] at q; exact .subl (subL_cons (fun _ _ _ h => h) (subL_cons (nil_sub _ _) (subL_cons (nil_sub _ _) (fun _ _ _ h => h)))) q
 have c3 : PC Tryz.prog 12 [.v (.int .u64 5), .v (.slice none 0 0), .v (.slice none 0 0), .v (.slice none 0 0), .v (.int .i64 4)] (.tp [.ag zeroPub.dv, slT Kn.dv 4 ([]), .v (.int .i64 23)]) := by have q := build_pc 5 ⟨by decide, by decide⟩ [] [] [] 4 (by decide) (by decide) (by decide) trivial (fun h hh => by cases hh); rw [build_bad (bad_nil _ _ _)] at q; exact .subl (subL_cons (fun _ _ _ h => h) (subL_cons (nil_sub _ _) (subL_cons (nil_sub _ _) (subL_cons (nil_sub _ _) (fun _ _ _ h => h))))) q
 have c4 := leaves_po [sg] (show 1 ≤ 1048576 by decide) (fun h hh => by rw [List.mem_singleton] at hh; subst hh; exact so)
 clear hsg
 refine PF.enter (fn := Tryz.f7) Tryz.func7 rfl Tryz.ntmps7 rfl (fun w0 => .w ?_)
 refine .t 1 1 rfl rfl (.bd (e0.dv) rfl) ?_
 refine .t 0 1 rfl rfl (.ba 1 rfl) ?_
 refine TE.frz 11 (slT En.dv 3 ([e0])) rfl rfl rfl rfl ?_
 refine .t 0 2 rfl rfl (.cc (c1) rfl) ?_
 refine .d 8 2 rfl ?_
 refine .v 0 3 [] rfl rfl (fun _ _ => .cf (rpub_pf 5 ⟨by decide, by decide⟩) rfl) ?_
 refine .v 0 3 [2] rfl rfl (fun _ _ => .lp (Pub.dv ⟨sg, [e0]⟩) rfl) ?_
 refine .v 0 3 [] rfl rfl (fun _ _ => .cc (c2) rfl) ?_
 refine .y 5 3 rfl (by kernel_rfl) ?_
 refine .t 0 3 rfl rfl (.cc (c3) rfl) ?_
 refine .t 9 3 rfl rfl (.bv (.bool true) rfl (rfl)) ?_
 refine .t 3 4 rfl rfl (.bv (.bool true) rfl (rfl)) ?_
 refine .t 5 4 rfl rfl (.bv (.bool true) rfl (congrArg Value.bool (decide_eq_true (se)))) ?_
 refine .t 5 4 rfl rfl (.bv (.bool true) rfl (congrArg Value.bool (decide_eq_true (sc)))) ?_
 refine .t 7 4 rfl rfl (.bv (.bool true) rfl (rfl)) ?_
 refine .t 3 4 rfl rfl (.bv (.bool true) rfl (rfl)) ?_
 refine .t 3 4 rfl rfl (.lp (sg.dv) rfl) ?_
 refine .t 0 4 rfl rfl (.bb ([sg].flatMap Hd.dv) 4 rfl) ?_
 refine .t 0 5 rfl rfl (.callo 5 rfl rfl cf20 rfl ⟨okA_c rfl rfl, trivial⟩ (c4)) ?_
 refine .t 1 6 rfl rfl (.bv (.bool true) rfl (rfl)) ?_
 exact .z 2 6 rfl (TE.retf rfl rfl rfl (okv rfl))
theorem epochRoots_pf (l : List UInt8) : PF Tryz.prog 5 [slT bdv 1 l] (.v (.bool true)) := by
 refine PF.enter (fn := Tryz.f5) Tryz.func5 rfl Tryz.ntmps5 rfl (fun w0 => .w ?_)
 refine .t 1 1 rfl rfl (.cf (eknown_pf) rfl) ?_
 refine .q 5 1 rfl rfl (fun h2 => ?_) (fun h2 => ?_)
 ·skip
  have hl : 6 < l.length := by have q := of_decide_eq_true h2; (try dsimp only at q); omega
  exact .z 1 1 rfl (TE.retf rfl rfl rfl (okv rfl))
 ·skip
  have hl : ¬ (6 < l.length) := by have q := of_decide_eq_false h2; (try dsimp only at q); omega
  refine .t 1 1 rfl rfl (.cc (epochs_pc 5 ⟨by decide, by decide⟩ l (by omega)) rfl) ?_
  refine .g 8 1 rfl ?_
  refine TE.own0 6 1 40 4 rfl rfl ?_
  refine TE.frz 6 (slT Kn.dv 4 ([])) rfl rfl rfl rfl ?_
  refine .g 1 2 rfl ?_
  refine TE.own0 7 2 30 69 rfl rfl ?_
  refine .g 1 3 rfl ?_
  obtain ⟨ps, hps⟩ : ∃ ps, ps = (epsR 5 l).ps := ⟨_, rfl⟩
  have hG : epsGood 5 ps := by rw [hps]; exact (epsR_well 5 l (by omega)).good
  have hpl : ps.length ≤ 1000 := by rw [hps]; have q1 := (epsR_ok 5 l).ps; have q2 := (epsR_ok 5 l).hs; omega
  refine TE.set 3 (.d (slT Pub.dv 70 (ps))) rfl (by rw [hps]) ?_
  refine TE.setv 8 (.int .i64 ((0 : Nat) : Int)) rfl (congrArg _ (by first | rfl | (dsimp only; first | done | rfl | omega))) ?_
  refine TE.set 6 (.d (slT Kn.dv 4 (knPs (ps.take (0))))) rfl rfl ?_
  refine TE.set 7 (.ow 2 ((ps.take (0)).map Pub.hd).length 69) rfl rfl ?_
  refine TE.obj 2 (.row 30 69 (((ps.take (0)).map Pub.hd).flatMap Hd.dv)) rfl rfl ?_
  refine .lo (T := Nat) 0 3 rfl (fun i => i ≤ ps.length) (fun i => ps.length - i) [0] [] (fun i => [(3, .d (slT Pub.dv 70 (ps))), (6, .d (slT Kn.dv 4 (knPs (ps.take (i))))), (7, .ow 2 ((ps.take (i)).map Pub.hd).length 69), (8, .d (.v (.int .i64 ((i : Nat) : Int))))]) (fun i => [(2, .row 30 69 (((ps.take (i)).map Pub.hd).flatMap Hd.dv))]) (0) rfl rfl (Nat.zero_le _) rfl rfl rfl (fun i hI => ?_)
  refine .q 4 3 rfl rfl (fun h3 => ?_) (fun h3 => ?_)
  ·skip
   have hi : i < ps.length := by have q := of_decide_eq_true h3; (try dsimp only at q); omega
   have hst := step_in hG hpl hi
   obtain ⟨kn, hkn⟩ : ∃ kn, kn = knPs (ps.take (i)) := ⟨_, rfl⟩
   obtain ⟨hs, hhs⟩ : ∃ hs, hs = (ps.take (i)).map Pub.hd := ⟨_, rfl⟩
   rw [← hkn, ← hhs] at hst
   rw [← hkn, ← hhs]
   have hsl := hst.len
   have hkl := hst.knl
   have hKl := hst.Kl
   have hel := hst.esl
   have cB : PM Tryz.prog 12 [.d (.v (.int .u64 5)), .d (slT Kn.dv 4 (kn)), .ow 0 hs.length 69, .d (slT En.dv 3 (ps[i].es)), .d (.v (.int .i64 ps[i].hd.tk))] (.mrow 0 30 69 ((hs).flatMap Hd.dv)) (.mrow 0 30 69 ((hs).flatMap Hd.dv)) (.d (.tp [.ag ps[i].dv, slT Kn.dv 4 (knPs (ps.take (i + 1))), .v (.int .i64 0)])) := by have q := build_pm 5 ⟨by decide, by decide⟩ kn hs ps[i].es ps[i].hd.tk (by omega) (by omega) (by omega) hst.chain hst.ok; rw [hst.build] at q; exact q
   refine .d 0 3 rfl ?_
   refine .v 4 3 [] rfl rfl (fun _ _ => .idx (ps[i]) rfl rfl rfl rfl et32 (fun _ => rfl) (Int.natCast_nonneg _) (get_nat hi)) ?_
   refine .v 4 3 [] rfl rfl (fun _ _ => .idx (ps[i]) rfl rfl rfl rfl et32 (fun _ => rfl) (Int.natCast_nonneg _) (get_nat hi)) ?_
   refine .t 3 3 (E := ⟨some (44, _), [(2, _)]⟩) [2] rfl rfl (fun _ _ => .cm 2 (.row 30 69 ((hs).flatMap Hd.dv)) rfl (cB) rfl) ?_
   refine .y 8 3 rfl (by kernel_rfl) ?_
   obtain ⟨rt, hrt⟩ : ∃ rt, rt = rootH (setR (itsK ((i + 1 : Nat) : Int) (knPs (ps.take (i + 1)))) []) := ⟨_, rfl⟩
   obtain ⟨lg, hlg⟩ : ∃ lg, lg = lroot (hs.map hleaf) := ⟨_, rfl⟩
   have hI2 : (setR (itsK ((i + 1 : Nat) : Int) (knPs (ps.take (i + 1)))) []).length ≤ 1048576 := by have q2 := itsK_le ((i + 1 : Nat) : Int) (knPs (ps.take (i + 1))); exact Nat.le_trans (setR_len _ []) (by rw [List.length_nil]; omega)
   have cR := rroot_all _ hI2
   rw [← hrt] at cR
   have hrt2 : rootH (setR (itsK ((hs.length + 1 : Nat) : Int) (knPs (ps.take (i + 1)))) []) = rt := by rw [hsl]; exact hrt.symm
   have cL := rlog_pf (hs.map hleaf) (by simp; omega)
   rw [← hlg] at cL
   have cH := rchk_pf (pubF 5) ps[i].hd ⟨(pubF_bd 5).1, Int.lt_trans (pubF_bd 5).2 (by decide)⟩ hst.ok2
   rw [hst.sigd] at cH
   refine .d 0 4 rfl ?_
   refine .v 1 4 [] rfl rfl (fun _ _ => .bv (.bool false) rfl (rfl)) ?_
   refine .v 3 4 [3] rfl rfl (fun _ _ => .lp (hdv ps[i].hd.root) rfl) ?_
   refine .v 2 4 [] rfl rfl (fun _ _ => .bv (.int .i64 ((i + 1 : Nat) : Int)) rfl (congrArg _ (by (try dsimp only); rw [IntKind.wrap_i64]; omega))) ?_
   refine .v 0 4 [] rfl rfl (fun _ _ => .cf (ritems_pf (knPs (ps.take (i + 1))) ((i + 1 : Nat) : Int) (by omega) (kn_in hst.chainK')) rfl) ?_
   refine .v 0 4 [] rfl rfl (fun _ _ => .cf (cR) rfl) ?_
   refine .v 0 4 [] rfl rfl (fun _ _ => .nehf (a := ps[i].hd.root) (b := rt) (hst.rt.trans hrt2) rfl rfl rfl qh26) ?_
   refine .v 4 4 [3] rfl rfl (fun _ _ => .lp (hdv ps[i].hd.log) rfl) ?_
   refine .t 1 4 (E := ⟨some (66, _), [(4, _)]⟩) [2, 4] rfl rfl (fun _ _ => .callo 4 rfl rfl cf20 rfl ⟨okA_c rfl (flat_length (sz := 69) (enc := Hd.dv) (fun _ => rfl) _), trivial⟩ (leaves_po hs (by omega) hst.ok)) ?_
   refine .v 0 5 [4] rfl rfl (fun _ _ => .callf rfl cf24 rfl ⟨okA_len rfl (flat_length (sz := 32) (enc := hdv) (fun _ => rfl) _), trivial⟩ (cL)) ?_
   refine .v 0 5 [] rfl rfl (fun _ _ => .nehf (a := ps[i].hd.log) (b := lg) (hst.lg.trans hlg.symm) rfl rfl rfl qh26) ?_
   refine .v 8 5 [] rfl rfl (fun _ _ => .bv (.bool false) rfl (congrArg Value.bool (by rw [hst.ct]; simp))) ?_
   refine .v 2 5 [] rfl rfl (fun _ _ => .cf (rpub_pf 5 ⟨by decide, by decide⟩) rfl) ?_
   refine .v 1 5 [3] rfl rfl (fun _ _ => .lp (ps[i].hd.dv) rfl) ?_
   refine .v 0 5 [] rfl rfl (fun _ _ => .cf (cH) rfl) ?_
   refine .y 2 5 rfl (by kernel_rfl) ?_
   refine TE.frzb 9 rfl rfl rfl rfl ?_
   refine .g 2 5 rfl ?_
   refine TE.setv 12 (.int .i64 ((1 : Nat) : Int)) rfl (congrArg _ (by first | rfl | (dsimp only; first | done | rfl | omega))) ?_
   refine .lo (T := Nat) 0 5 rfl (fun j => 1 ≤ j) (fun j => ps[i].es.length - j) [0] [] (fun j => [(3, .d (slT Pub.dv 70 (ps))), (7, .ow 2 hs.length 69), (8, .d (.v (.int .i64 ((i : Nat) : Int)))), (9, .d (.el (Pub.dv ps[i]))), (10, .d (slT Kn.dv 4 (knPs (ps.take (i + 1))))), (12, .d (.v (.int .i64 ((j : Nat) : Int))))]) (fun j => [(2, .row 30 69 ((hs).flatMap Hd.dv))]) (1) rfl rfl (Nat.le_refl _) rfl rfl rfl (fun j hI => ?_)
   have h1j := hI
   refine .q 5 5 rfl rfl (fun h5 => ?_) (fun h5 => ?_)
   ·skip
    have hj : j < ps[i].es.length := by have q := of_decide_eq_true h5; (try dsimp only at q); omega
    have hst2 := hst.strict h1j hj
    refine .d 0 5 rfl ?_
    refine .v 3 5 [] rfl rfl (fun _ _ => .bv (.int .i64 ((j - 1 : Nat) : Int)) rfl (congrArg _ (by (try dsimp only); rw [IntKind.wrap_i64]; omega))) ?_
    refine .v 0 5 [] rfl rfl (fun _ _ => .idx (ps[i].es[j - 1]) rfl rfl rfl rfl et23 (fun _ => rfl) (Int.natCast_nonneg _) (get_nat (by omega))) ?_
    refine .v 5 5 [] rfl rfl (fun _ _ => .idx (ps[i].es[j]) rfl rfl rfl rfl et23 (fun _ => rfl) (Int.natCast_nonneg _) (get_nat hj)) ?_
    refine .v 2 5 [] rfl rfl (fun _ _ => .bv (.bool false) rfl (congrArg Value.bool (by simp [hst2]))) ?_
    refine .y 0 5 rfl (by kernel_rfl) ?_
    refine .t 2 5 rfl rfl (.bv (.int .i64 ((j + 1 : Nat) : Int)) rfl (congrArg _ (by (try dsimp only); rw [IntKind.wrap_i64]; omega))) ?_
    refine .g 1 5 rfl ?_
    refine TE.setv 12 (.int .i64 ((j + 1 : Nat) : Int)) rfl (congrArg _ (by first | rfl | (dsimp only; first | done | rfl | omega))) ?_
    exact .rd 0 5 id (fun _ _ e => e) rfl (j + 1) (by omega) (by omega) rfl rfl rfl
   ·skip
    have hj : ¬ (j < ps[i].es.length) := by have q := of_decide_eq_false h5; (try dsimp only at q); omega
    refine .t 3 5 rfl rfl (.lm (ps[i].hd.dv) rfl) ?_
    refine .t 0 5 rfl rfl (.bb ([ps[i].hd].flatMap Hd.dv) 5 rfl) ?_
    refine .t 0 6 rfl rfl (.ap 6 rfl (flat_length (sz := 69) (enc := Hd.dv) (fun _ => rfl) _) rfl (by omega) (by omega)) ?_
    refine .t 3 7 rfl rfl (.bv (.int .i64 ((i + 1 : Nat) : Int)) rfl (congrArg _ (by (try dsimp only); rw [IntKind.wrap_i64]; omega))) ?_
    refine .g 1 7 rfl ?_
    have e1 : (ps.take (i + 1)).map Pub.hd = hs ++ [ps[i].hd] := by rw [take_snoc' hi, List.map_append, ← hhs]; rfl
    refine TE.set 7 (.ow 6 ((ps.take (i + 1)).map Pub.hd).length 69) rfl (by rw [e1]; simp) ?_
    refine TE.obj 6 (.row 30 69 (((ps.take (i + 1)).map Pub.hd).flatMap Hd.dv)) rfl (by rw [e1, List.flatMap_append]) ?_
    refine TE.setv 8 (.int .i64 ((i + 1 : Nat) : Int)) rfl (congrArg _ (by first | rfl | (dsimp only; first | done | rfl | omega))) ?_
    exact .rd 0 7 (swp 2 6) (swp_inj 2 6) rfl (i + 1) hi (by omega) rfl rfl rfl
  ·skip
   have hi : ¬ (i < ps.length) := by have q := of_decide_eq_false h3; (try dsimp only at q); omega
   exact .z 1 7 rfl (TE.retf rfl rfl rfl (okv rfl))
end Go.Proofs.YtmjokdhhniblgaaGreat

