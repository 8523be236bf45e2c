import Derived.Test.YtmjokdhhniblgaaGreatYHs
import Derived.Test.YtmjokdhhniblgaaGreatYEv
/-
  Both Checks.
-/
namespace Go.Proofs.YtmjokdhhniblgaaGreat
set_option linter.unusedVariables false
set_option linter.unusedSimpArgs false
open Go.RowKit Pl
set_option maxRecDepth 100000
set_option maxHeartbeats 3200000
theorem check_pc (y : Int) (hy : u64I y) (kn : List Kn) (hs : List Hd) (p : Pub) (hk : kn.length ≤ 1000000) (hh : hs.length ≤ 1000000) (hb : p.es.length ≤ 1000) (hc : chainK none kn) (hho : ∀ h ∈ hs, h.ok) (hpf : hdFit p.hd) : PC Tryz.prog 17 [.v (.int .u64 y), slT Kn.dv 4 (kn), slT Hd.dv 69 (hs), .ag p.dv] (.tp [slT Kn.dv 4 ((checkV y kn hs p).1), .v (.bool (checkV y kn hs p).2)]) := by
 have cN := make_pc kn hs p.es p.hd.tk hk hh hb hc hho
 have cH := chk_pf y p.hd hy hpf.2.2.2
 refine PC.enter (fn := Tryz.f17) Tryz.func17 rfl Tryz.ntmps17 rfl (fun w0 K0 => .w ?_)
 refine .g 3 1 rfl ?_
 refine TE.frzb 7 rfl rfl rfl rfl ?_
 by_cases hbad : badN kn hs p.es p.hd.tk = true
 ·skip
  rw [makeV_bad hbad] at cN
  refine .t 7 2 rfl rfl (.cc (cN) rfl) ?_
  refine .g 28 2 rfl ?_
  rw [checkV_no (by rintro ⟨q1, q2, q3, q4⟩; rw [hbad] at q1; cases q1)]
  refine TE.sub 8 (slT Kn.dv 4 ([])) rfl rfl (nil_sub _ _) ?_
  exact .z 0 3 rfl (TE.rettc rfl rfl rfl)
 ·skip
  have hgood : badN kn hs p.es p.hd.tk = false := by rw [Bool.not_eq_true] at hbad; exact hbad
  have hfe := bad_fit hgood
  have hsf := headN_fit hgood hh
  rw [makeV_good hgood] at cN
  obtain ⟨hd, hhd⟩ : ∃ hd, hd = headN kn hs p.es p.hd.tk := ⟨_, rfl⟩
  rw [← hhd] at cN hsf
  have hsf : hdFit { hd with r := p.hd.r, s := p.hd.s } := ⟨hsf.1, hsf.2.1, hsf.2.2.1, hpf.2.2.2⟩
  refine .t 7 3 rfl rfl (.cc (cN) rfl) ?_
  by_cases hck : checkH y p.hd = true
  ·skip
   rw [hck] at cH
   by_cases hes : p.es = byN p.es
   ·skip
    refine .t 13 3 rfl rfl (.lm (p.hd.dv) rfl) ?_
    refine .t 0 4 rfl rfl (.cf (cH) rfl) ?_
    refine .t 7 4 rfl rfl (.cf (eqe_pf p.es (byN p.es) true (by simp; exact hes) (by omega) (by rw [byN_len]; omega) hfe (byN_fit hfe)) rfl) ?_
    refine .t 5 4 rfl rfl (.lm (sgdv p.hd.r p.hd.s) rfl) ?_
    refine .g 3 4 rfl ?_
    refine TE.obj 3 (.box 48 (Pub.dv ⟨{ hd with r := p.hd.r, s := p.hd.s }, byN p.es⟩)) rfl rfl ?_
    by_cases hhq : { hd with r := p.hd.r, s := p.hd.s } = p.hd
    ·skip
     refine .t 1 4 rfl rfl (.lp (Hd.dv { hd with r := p.hd.r, s := p.hd.s }) rfl) ?_
     refine .t 1 4 rfl rfl (.lm (p.hd.dv) rfl) ?_
     refine .t 0 4 rfl rfl (.nes false (by rw [hhq]; simp) (fit_hd hsf) (fit_hd hpf) rfl rfl rfl qt30) ?_
     rw [checkV_yes ⟨hgood, hes, hck, by rw [← hhd]; exact hhq⟩]
     exact .z 4 4 rfl (TE.rettc rfl rfl rfl)
    ·skip
     refine .t 1 4 rfl rfl (.lp (Hd.dv { hd with r := p.hd.r, s := p.hd.s }) rfl) ?_
     refine .t 1 4 rfl rfl (.lm (p.hd.dv) rfl) ?_
     refine .t 0 4 rfl rfl (.nes true (⟨fun _ q => hhq (hd_dv.1 q), fun _ => rfl⟩) (fit_hd hsf) (fit_hd hpf) rfl rfl rfl qt30) ?_
     refine .g 3 4 rfl ?_
     rw [checkV_no (by rintro ⟨q1, q2, q3, q4⟩; exact hhq (by rw [hhd]; exact q4))]
     refine TE.sub 8 (slT Kn.dv 4 ([])) rfl rfl (nil_sub _ _) ?_
     exact .z 0 4 rfl (TE.rettc rfl rfl rfl)
   ·skip
    refine .t 13 3 rfl rfl (.lm (p.hd.dv) rfl) ?_
    refine .t 0 4 rfl rfl (.cf (cH) rfl) ?_
    refine .t 7 4 rfl rfl (.cf (eqe_pf p.es (byN p.es) false (by simp; exact hes) (by omega) (by rw [byN_len]; omega) hfe (byN_fit hfe)) rfl) ?_
    refine .g 5 4 rfl ?_
    rw [checkV_no (by rintro ⟨q1, q2, q3, q4⟩; exact hes q2)]
    refine TE.sub 8 (slT Kn.dv 4 ([])) rfl rfl (nil_sub _ _) ?_
    exact .z 0 4 rfl (TE.rettc rfl rfl rfl)
  ·skip
   rw [(Bool.not_eq_true _).mp hck] at cH
   refine .t 13 3 rfl rfl (.lm (p.hd.dv) rfl) ?_
   refine .t 0 4 rfl rfl (.cf (cH) rfl) ?_
   refine .g 13 4 rfl ?_
   rw [checkV_no (by rintro ⟨q1, q2, q3, q4⟩; exact absurd q3 hck)]
   refine TE.sub 8 (slT Kn.dv 4 ([])) rfl rfl (nil_sub _ _) ?_
   exact .z 0 4 rfl (TE.rettc rfl rfl rfl)
theorem rcheck_pc (y : Int) (hy : u64I y) (kn : List Kn) (hs : List Hd) (p : Pub) (hk : kn.length ≤ 1000000) (hh : hs.length ≤ 1000000) (hb : p.es.length ≤ 1000) (hc : chainK none kn) (hho : ∀ h ∈ hs, h.ok) (hpf : hdFit p.hd) : PC Tryz.prog 18 [.v (.int .u64 y), slT Kn.dv 4 (kn), slT Hd.dv 69 (hs), .ag p.dv] (.tp [slT Kn.dv 4 ((checkV y kn hs p).1), .v (.bool (checkV y kn hs p).2)]) := by
 have cN := rnext_pc kn hs p.es p.hd.tk hk hh hb (kn_in hc) hho
 have cH := rchk_pf y p.hd hy hpf.2.2.2
 refine PC.enter (fn := Tryz.f18) Tryz.func18 rfl Tryz.ntmps18 rfl (fun w0 K0 => .w ?_)
 refine .g 3 1 rfl ?_
 refine TE.frzb 7 rfl rfl rfl rfl ?_
 by_cases hbad : badN kn hs p.es p.hd.tk = true
 ·skip
  rw [nextV_bad hbad] at cN
  refine .t 7 2 rfl rfl (.cc (cN) rfl) ?_
  refine .d 8 2 rfl ?_
  refine .y 18 3 rfl (by kernel_rfl) ?_
  refine .g 3 3 rfl ?_
  rw [checkV_no (by rintro ⟨q1, q2, q3, q4⟩; rw [hbad] at q1; cases q1)]
  refine TE.sub 8 (slT Kn.dv 4 ([])) rfl rfl (nil_sub _ _) ?_
  exact .z 0 3 rfl (TE.rettc rfl rfl rfl)
 ·skip
  have hgood : badN kn hs p.es p.hd.tk = false := by rw [Bool.not_eq_true] at hbad; exact hbad
  have hfe := bad_fit hgood
  have hsf := headN_fit hgood hh
  rw [nextV_good hgood] at cN
  obtain ⟨hd, hhd⟩ : ∃ hd, hd = headN kn hs p.es p.hd.tk := ⟨_, rfl⟩
  rw [← hhd] at cN hsf
  have hsf : hdFit { hd with r := p.hd.r, s := p.hd.s } := ⟨hsf.1, hsf.2.1, hsf.2.2.1, hpf.2.2.2⟩
  refine .t 7 3 rfl rfl (.cc (cN) rfl) ?_
  by_cases hes : p.es = byN p.es
  ·skip
   by_cases hck : checkH y p.hd = true
   ·skip
    rw [hck] at cH
    refine .d 8 3 rfl ?_
    refine .v 7 4 [] rfl rfl (fun _ _ => .cc (rbyn_pc p.es (by omega)) rfl) ?_
    refine .v 0 4 [] rfl rfl (fun _ _ => .cf (same_pf p.es (byN p.es) true (by simp; exact hes) (by omega) (by rw [byN_len]; omega) hfe (byN_fit hfe)) rfl) ?_
    refine .v 5 4 [] rfl rfl (fun _ _ => .lm (p.hd.dv) rfl) ?_
    refine .v 0 4 [] rfl rfl (fun _ _ => .cf (cH) rfl) ?_
    refine .y 2 4 rfl (by kernel_rfl) ?_
    refine .t 3 4 rfl rfl (.lm (sgdv p.hd.r p.hd.s) rfl) ?_
    refine .g 2 4 rfl ?_
    refine TE.obj 3 (.box 30 (Hd.dv { hd with r := p.hd.r, s := p.hd.s })) rfl rfl ?_
    by_cases hhq : { hd with r := p.hd.r, s := p.hd.s } = p.hd
    ·skip
     refine .t 0 4 rfl rfl (.lp (Hd.dv { hd with r := p.hd.r, s := p.hd.s }) rfl) ?_
     refine .t 1 4 rfl rfl (.lm (p.hd.dv) rfl) ?_
     refine .t 0 4 rfl rfl (.nes false (by rw [hhq]; simp) (fit_hd hsf) (fit_hd hpf) rfl rfl rfl qt30) ?_
     rw [checkV_yes ⟨hgood, hes, hck, by rw [← hhd]; exact hhq⟩]
     exact .z 4 4 rfl (TE.rettc rfl rfl rfl)
    ·skip
     refine .t 0 4 rfl rfl (.lp (Hd.dv { hd with r := p.hd.r, s := p.hd.s }) rfl) ?_
     refine .t 1 4 rfl rfl (.lm (p.hd.dv) rfl) ?_
     refine .t 0 4 rfl rfl (.nes true (⟨fun _ q => hhq (hd_dv.1 q), fun _ => rfl⟩) (fit_hd hsf) (fit_hd hpf) rfl rfl rfl qt30) ?_
     refine .g 3 4 rfl ?_
     rw [checkV_no (by rintro ⟨q1, q2, q3, q4⟩; exact hhq (by rw [hhd]; exact q4))]
     refine TE.sub 8 (slT Kn.dv 4 ([])) rfl rfl (nil_sub _ _) ?_
     exact .z 0 4 rfl (TE.rettc rfl rfl rfl)
   ·skip
    rw [(Bool.not_eq_true _).mp hck] at cH
    refine .d 8 3 rfl ?_
    refine .v 7 4 [] rfl rfl (fun _ _ => .cc (rbyn_pc p.es (by omega)) rfl) ?_
    refine .v 0 4 [] rfl rfl (fun _ _ => .cf (same_pf p.es (byN p.es) true (by simp; exact hes) (by omega) (by rw [byN_len]; omega) hfe (byN_fit hfe)) rfl) ?_
    refine .v 5 4 [] rfl rfl (fun _ _ => .lm (p.hd.dv) rfl) ?_
    refine .v 0 4 [] rfl rfl (fun _ _ => .cf (cH) rfl) ?_
    refine .y 2 4 rfl (by kernel_rfl) ?_
    refine .g 3 4 rfl ?_
    rw [checkV_no (by rintro ⟨q1, q2, q3, q4⟩; exact absurd q3 hck)]
    refine TE.sub 8 (slT Kn.dv 4 ([])) rfl rfl (nil_sub _ _) ?_
    exact .z 0 4 rfl (TE.rettc rfl rfl rfl)
  ·skip
   refine .d 8 3 rfl ?_
   refine .v 7 4 [] rfl rfl (fun _ _ => .cc (rbyn_pc p.es (by omega)) rfl) ?_
   refine .v 0 4 [] rfl rfl (fun _ _ => .cf (same_pf p.es (byN p.es) false (by simp; exact hes) (by omega) (by rw [byN_len]; omega) hfe (byN_fit hfe)) rfl) ?_
   refine .y 9 4 rfl (by kernel_rfl) ?_
   refine .g 3 4 rfl ?_
   rw [checkV_no (by rintro ⟨q1, q2, q3, q4⟩; exact hes q2)]
   refine TE.sub 8 (slT Kn.dv 4 ([])) rfl rfl (nil_sub _ _) ?_
   exact .z 0 4 rfl (TE.rettc rfl rfl rfl)
end Go.Proofs.YtmjokdhhniblgaaGreat

