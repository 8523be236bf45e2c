import Derived.Test.YtmjokdhhniblgaaGreatYHs
import Derived.Test.YtmjokdhhniblgaaGreatYEv
import Derived.Test.YtmjokdhhniblgaaGreatYGg
/-
  Both Checks.
-/
namespace Go.Proofs.YtmjokdhhniblgaaGreat
set_option linter.unusedVariables false
set_option linter.unusedSimpArgs false
open Go.RowKit Pl
set_option maxRecDepth 100000
set_option maxHeartbeats 3200000
theorem check_pc (y : Int) (hy : u64I y) (kn : List Kn) (hs : List Hd) (p : Pub) (hk : kn.length ≤ 1000000) (hh : hs.length ≤ 1000000) (hb : p.es.length ≤ 1000) (hc : chainK none kn) (hho : ∀ h ∈ hs, h.ok) (hpf : hdFit p.hd) : PC Tryz.prog 17 [.v (.int .u64 y), slT Kn.dv 4 (kn), slT Hd.dv 69 (hs), .ag p.dv] (.tp [slT Kn.dv 4 ((checkV y kn hs p).1), .v (.bool (checkV y kn hs p).2)]) := by
 have cN := make_pc kn hs p.es p.hd.tk hk hh hb hc hho
 have cH := chk_pf y p.hd hy hpf.2.2.2
 refine PC.enter (fn := Tryz.f17) Tryz.func17 rfl Tryz.ntmps17 rfl (fun w0 K0 => .w ?_)
 refine .g 3 1 rfl ?_
 refine TE.frzb 7 rfl rfl rfl rfl ?_
 by_cases hbad : badN kn hs p.es p.hd.tk = true
 ·skip
  rw [makeV_bad hbad] at cN
  refine .t 7 2 rfl rfl (.cc (cN) rfl) ?_
  refine .g 28 2 rfl ?_
  rw [checkV_no (by rintro ⟨q1, q2, q3, q4⟩; rw [hbad] at q1; cases q1)]
  refine TE.sub 8 (slT Kn.dv 4 ([])) rfl rfl (nil_sub _ _) ?_
  exact .z 0 3 rfl (TE.rettc rfl rfl rfl)
 ·skip
  have hgood : badN kn hs p.es p.hd.tk = false := by rw [Bool.not_eq_true] at hbad; exact hbad
  have hfe := bad_fit hgood
  have hsf := headN_fit hgood hh
  rw [makeV_good hgood] at cN
  obtain ⟨hd, hhd⟩ : ∃ hd, hd = headN kn hs p.es p.hd.tk := ⟨_, rfl⟩
  rw [← hhd] at cN hsf
  have hsf : hdFit { hd with r := p.hd.r, s := p.hd.s } := ⟨hsf.1, hsf.2.1, hsf.2.2.1, hpf.2.2.2⟩
  refine .t 7 3 rfl rfl (.cc (cN) rfl) ?_
  by_cases hck : checkH y p.hd = true
  ·skip
   rw [hck] at cH
   by_cases hes : p.es = byN p.es
   ·skip
    refine .t 13 3 rfl rfl (.lm (p.hd.dv) rfl) ?_
    refine .t 0 4 rfl rfl (.cf (cH) rfl) ?_
    refine .t 7 4 rfl rfl (.cf (eqe_pf p.es (byN p.es) true (by simp; exact hes) (by omega) (by rw [byN_len]; omega) hfe (byN_fit hfe)) rfl) ?_
    refine .t 5 4 rfl rfl (.lm (sgdv p.hd.r p.hd.s) rfl) ?_
    refine .g 3 4 rfl ?_
    refine TE.obj 3 (.box 48 (Pub.dv ⟨{ hd with r := p.hd.r, s := p.hd.s }, byN p.es⟩)) rfl rfl ?_
    by_cases hhq : { hd with r := p.hd.r, s := p.hd.s } = p.hd
    ·skip
     refine .t 1 4 rfl rfl (.lp (Hd.dv { hd with r := p.hd.r, s := p.hd.s }) rfl) ?_
     refine .t 1 4 rfl rfl (.lm (p.hd.dv) rfl) ?_
     refine .t 0 4 rfl rfl (.nes false (by rw [hhq]; simp) (fit_hd hsf) (fit_hd hpf) rfl rfl rfl qt30) ?_
     rw [checkV_yes ⟨hgood, hes, hck, by rw [← hhd]; exact hhq⟩]
     exact .z 4 4 rfl (TE.rettc rfl rfl rfl)
    ·skip
     refine .t 1 4 rfl rfl (.lp (Hd.dv { hd with r := p.hd.r, s := p.hd.s }) rfl) ?_
     refine .t 1 4 rfl rfl (.lm (p.hd.dv) rfl) ?_
     refine .t 0 4 rfl rfl (.nes true (⟨fun _ q => hhq (hd_dv.1 q), fun _ => rfl⟩) (fit_hd hsf) (fit_hd hpf) rfl rfl rfl qt30) ?_
     refine .g 3 4 rfl ?_
     rw [checkV_no (by rintro ⟨q1, q2, q3, q4⟩; exact hhq (by rw [hhd]; exact q4))]
     refine TE.sub 8 (slT Kn.dv 4 ([])) rfl rfl (nil_sub _ _) ?_
     exact .z 0 4 rfl (TE.rettc rfl rfl rfl)
   ·skip
    refine .t 13 3 rfl rfl (.lm (p.hd.dv) rfl) ?_
    refine .t 0 4 rfl rfl (.cf (cH) rfl) ?_
    refine .t 7 4 rfl rfl (.cf (eqe_pf p.es (byN p.es) false (by simp; exact hes) (by omega) (by rw [byN_len]; omega) hfe (byN_fit hfe)) rfl) ?_
    refine .g 5 4 rfl ?_
    rw [checkV_no (by rintro ⟨q1, q2, q3, q4⟩; exact hes q2)]
    refine TE.sub 8 (slT Kn.dv 4 ([])) rfl rfl (nil_sub _ _) ?_
    exact .z 0 4 rfl (TE.rettc rfl rfl rfl)
  ·skip
   rw [(Bool.not_eq_true _).mp hck] at cH
   refine .t 13 3 rfl rfl (.lm (p.hd.dv) rfl) ?_
   refine .t 0 4 rfl rfl (.cf (cH) rfl) ?_
   refine .g 13 4 rfl ?_
   rw [checkV_no (by rintro ⟨q1, q2, q3, q4⟩; exact absurd q3 hck)]
   refine TE.sub 8 (slT Kn.dv 4 ([])) rfl rfl (nil_sub _ _) ?_
   exact .z 0 4 rfl (TE.rettc rfl rfl rfl)
end Go.Proofs.YtmjokdhhniblgaaGreat
/-
  Laws of epochs: what known tells; the state that the laws' loops go through; which batches may not be an epoch.
-/
namespace Go.Proofs.YtmjokdhhniblgaaGreat
set_option linter.unusedVariables false
set_option linter.unusedSimpArgs false
open Go.RowKit Pl
set_option maxRecDepth 100000
theorem Pl.PC.subl {P : Program} {f : FuncId} {Xs Zs : List DV} {Y : DV} (s : SubL Zs Xs) (h : PC P f Xs Y) : PC P f Zs Y := fun w K us hK hr => h w K us hK (s K w us hr)
def e0 : En := ⟨[97], 1, 2⟩
theorem e0_good : badN [] [] [e0] 4 = false := by decide +kernel
theorem e0_kn : knN [] [] [e0] = [⟨[97], 1, 2, 1⟩] := by kernel_rfl
theorem bad_nil (kn : List Kn) (hs : List Hd) (tk : Int) : badN kn hs [] tk = true := by
  unfold badN; simp
theorem build_bad {x : Int} {kn : List Kn} {hs : List Hd} {b : List En} {tk : Int} (h : badN kn hs b tk = true) : buildB x kn hs b tk = (zeroPub, [], 23) := if_pos h
theorem build_good {x : Int} {kn : List Kn} {hs : List Hd} {b : List En} {tk : Int} (h : badN kn hs b tk = false) : buildB x kn hs b tk = (⟨signH x (headN kn hs b tk), byN b⟩, knN kn hs b, 0) := if_neg (by rw [h]; simp)
theorem e0_build : buildB 5 [] [] [e0] 4 = (⟨signH 5 (headN [] [] [e0] 4), [e0]⟩, [⟨[97], 1, 2, 1⟩], 0) := by
  rw [build_good e0_good, e0_kn]; rfl
theorem e0_check : checkV (pubF 5) [] [] ⟨signH 5 (headN [] [] [e0] 4), [e0]⟩ = ([⟨[97], 1, 2, 1⟩], true) := by
  have hr := headN_right e0_good (by decide)
  have hc : okC (pubF 5) [] [] ⟨signH 5 (headN [] [] [e0] 4), [e0]⟩ := by
    obtain ⟨g, hg⟩ : ∃ g, g = headN [] [] [e0] 4 := ⟨_, rfl⟩
    have ht : g.tk = 4 := by rw [hg]; rfl
    rw [← hg] at hr ⊢
    refine ⟨?_, rfl, check_own' ⟨by decide, by decide⟩ hr, ?_⟩
    · show badN [] [] [e0] (signH 5 g).tk = false
      rw [sign_tk, ht]; exact e0_good
    · show ({ headN [] [] [e0] (signH 5 g).tk with r := _, s := _ } : Hd) = _
      rw [sign_tk, ht, ← hg]; rfl
  rw [checkV_yes hc]
  show (knN [] [] [e0], true) = _
  rw [e0_kn]
end Go.Proofs.YtmjokdhhniblgaaGreat
/-
  EpochRoots.
-/
namespace Go.Proofs.YtmjokdhhniblgaaGreat
set_option linter.unusedVariables false
set_option linter.unusedSimpArgs false
open Go.RowKit Pl
set_option maxRecDepth 100000
set_option maxHeartbeats 3200000
theorem eknown_pf : PF Tryz.prog 7 [] (.v (.bool true)) := by
 obtain ⟨sg, hsg⟩ : ∃ sg, sg = signH 5 (headN [] [] [e0] 4) := ⟨_, rfl⟩
 have so : sg.ok := by rw [hsg]; exact signH_ok _ _
 have sf : hdFit sg := by rw [hsg]; exact fit_sign 5 (headN_fit e0_good (by decide))
 have se : sg.ep = 1 := by rw [hsg]; rfl
 have sc : sg.ct = 1 := by rw [hsg]; rfl
 have c1 : PC Tryz.prog 12 [.v (.int .u64 5), .v (.slice none 0 0), .v (.slice none 0 0), slT En.dv 3 ([e0]), .v (.int .i64 4)] (.tp [.ag (Pub.dv ⟨sg, [e0]⟩), slT Kn.dv 4 ([⟨[97], 1, 2, 1⟩]), .v (.int .i64 0)]) := by have q := build_pc 5 ⟨by decide, by decide⟩ [] [] [e0] 4 (by decide) (by decide) (by decide) trivial (fun h hh => by cases hh); rw [e0_build, ← hsg] at q; exact .subl (subL_cons (fun _ _ _ h => h) (subL_cons (nil_sub _ _) (subL_cons (nil_sub _ _) (fun _ _ _ h => h)))) q
 have c2 : PC Tryz.prog 17 [.v (.int .u64 (pubF 5)), .v (.slice none 0 0), .v (.slice none 0 0), .ag (Pub.dv ⟨sg, [e0]⟩)] (.tp [slT Kn.dv 4 ([⟨[97], 1, 2, 1⟩]), .v (.bool true)]) := by have q := check_pc (pubF 5) ⟨(pubF_bd 5).1, Int.lt_trans (pubF_bd 5).2 (by decide)⟩ [] [] ⟨sg, [e0]⟩ (by decide) (by decide) (show 1 ≤ 1000 by decide) trivial (fun h hh => by cases hh) sf; rw [hsg, e0_check, ← hsg] at q; exact .subl (subL_cons (fun _ _ _ h => h) (subL_cons (nil_sub _ _) (subL_cons (nil_sub _ _) (fun _ _ _ h => h)))) q
 have c3 : PC Tryz.prog 12 [.v (.int .u64 5), .v (.slice none 0 0), .v (.slice none 0 0), .v (.slice none 0 0), .v (.int .i64 4)] (.tp [.ag zeroPub.dv, slT Kn.dv 4 ([]), .v (.int .i64 23)]) := by have q := build_pc 5 ⟨by decide, by decide⟩ [] [] [] 4 (by decide) (by decide) (by decide) trivial (fun h hh => by cases hh); rw [build_bad (bad_nil _ _ _)] at q; exact .subl (subL_cons (fun _ _ _ h => h) (subL_cons (nil_sub _ _) (subL_cons (nil_sub _ _) (subL_cons (nil_sub _ _) (fun _ _ _ h => h))))) q
 have c4 := leaves_po [sg] (show 1 ≤ 1048576 by decide) (fun h hh => by rw [List.mem_singleton] at hh; subst hh; exact so)
 clear hsg
 refine PF.enter (fn := Tryz.f7) Tryz.func7 rfl Tryz.ntmps7 rfl (fun w0 => .w ?_)
 refine .t 1 1 rfl rfl (.bd (e0.dv) rfl) ?_
 refine .t 0 1 rfl rfl (.ba 1 rfl) ?_
 refine TE.frz 11 (slT En.dv 3 ([e0])) rfl rfl rfl rfl ?_
 refine .t 0 2 rfl rfl (.cc (c1) rfl) ?_
 refine .d 8 2 rfl ?_
 refine .v 0 3 [] rfl rfl (fun _ _ => .cf (rpub_pf 5 ⟨by decide, by decide⟩) rfl) ?_
 refine .v 0 3 [2] rfl rfl (fun _ _ => .lp (Pub.dv ⟨sg, [e0]⟩) rfl) ?_
 refine .v 0 3 [] rfl rfl (fun _ _ => .cc (c2) rfl) ?_
 refine .y 5 3 rfl (by kernel_rfl) ?_
 refine .t 0 3 rfl rfl (.cc (c3) rfl) ?_
 refine .t 9 3 rfl rfl (.bv (.bool true) rfl (rfl)) ?_
 refine .t 3 4 rfl rfl (.bv (.bool true) rfl (rfl)) ?_
 refine .t 5 4 rfl rfl (.bv (.bool true) rfl (congrArg Value.bool (decide_eq_true (se)))) ?_
 refine .t 5 4 rfl rfl (.bv (.bool true) rfl (congrArg Value.bool (decide_eq_true (sc)))) ?_
 refine .t 7 4 rfl rfl (.bv (.bool true) rfl (rfl)) ?_
 refine .t 3 4 rfl rfl (.bv (.bool true) rfl (rfl)) ?_
 refine .t 3 4 rfl rfl (.lp (sg.dv) rfl) ?_
 refine .t 0 4 rfl rfl (.bb ([sg].flatMap Hd.dv) 4 rfl) ?_
 refine .t 0 5 rfl rfl (.callo 5 rfl rfl cf20 rfl ⟨okA_c rfl rfl, trivial⟩ (c4)) ?_
 refine .t 1 6 rfl rfl (.bv (.bool true) rfl (rfl)) ?_
 exact .z 2 6 rfl (TE.retf rfl rfl rfl (okv rfl))
end Go.Proofs.YtmjokdhhniblgaaGreat

