import Derived.Test.YtdjcclcejmeheaaGreatZHn
import Derived.Test.YtdjcclcejmeheaaGreatZJa
import Derived.Test.YtdjcclcejmeheaaGreatZEv
/-
  The reference's next epoch.
-/
namespace Go.Proofs.YtdjcclcejmeheaaGreat
set_option linter.unusedVariables false
set_option linter.unusedSimpArgs false
open Go.RowKit Pl
set_option maxRecDepth 100000
set_option maxHeartbeats 3200000
theorem cf13 : cfn Tryz.prog 13 = true := by kernel_rfl
theorem cf52 : cfn Tryz.prog 52 = true := by kernel_rfl
theorem tk2 : tyk Tryz.prog 2 = some none := by kernel_rfl
theorem rnext_pm (kn : List Kn) (hs : List Hd) (b : List En) (tk : Int) (hk : kn.length ≤ 1000000) (hh : hs.length ≤ 1000000) (hb : b.length ≤ 1000) (hki : knIn kn) (hho : ∀ h ∈ hs, h.ok) : PM Tryz.prog 60 [.d (slT Kn.dv 4 (kn)), .ow 0 hs.length 69, .d (slT En.dv 3 (b)), .d (.v (.int .i64 tk))] (.mrow 0 45 69 (hs.flatMap Hd.dv)) (.mrow 0 45 69 (hs.flatMap Hd.dv)) (.d (.tp [.ag (nextV kn hs b tk).1.dv, slT Kn.dv 4 ((nextV kn hs b tk).2.1), .v (.bool (nextV kn hs b tk).2.2)])) := by
 obtain ⟨ok, hok⟩ : ∃ ok, (addR kn ((hs.length + 1 : Nat) : Int) b).2 = ok := ⟨_, rfl⟩
 have cA : PC Tryz.prog 109 [slT Kn.dv 4 (kn), .v (.int .i64 ((hs.length + 1 : Nat) : Int)), slT En.dv 3 (b)] (.tp [slT Kn.dv 4 (knN kn hs b), .v (.bool ok)]) := by have q := add_pc kn ((hs.length + 1 : Nat) : Int) b (by omega) (by omega); rw [hok] at q; exact q
 have hKl : (knN kn hs b).length ≤ 1048576 := by have q := addR_len kn ((hs.length + 1 : Nat) : Int) b; show (addR _ _ _).1.length ≤ _; omega
 have hKi : knIn (knN kn hs b) := addR_in hki
 have hI : (setR (itsK ((hs.length + 1 : Nat) : Int) (knN kn hs b)) []).length ≤ 1048576 := by have q2 := itsK_le ((hs.length + 1 : Nat) : Int) (knN kn hs b); exact Nat.le_trans (setR_len _ []) (by rw [List.length_nil]; omega)
 refine PM.enter (fn := Tryz.f60) Tryz.func60 rfl Tryz.ntmps60 rfl rfl rfl (fun w0 K0 ob => .w ?_)
 refine .t 5 1 rfl rfl (.bv (.int .i64 ((hs.length + 1 : Nat) : Int)) rfl (congrArg _ (by (try dsimp only); rw [IntKind.wrap_i64]; omega))) ?_
 refine .t 4 2 rfl rfl (.cc (cA) rfl) ?_
 cases ok with
 | true =>
  by_cases c2 : b.length < 1
  ·skip
   have hbad : badN kn hs b tk = true := by unfold badN; rw [hok]; simp [c2]
   refine .t 10 2 rfl rfl (.bv (.bool true) rfl (congrArg Value.bool (decide_eq_true (by omega)))) ?_
   refine .t 29 2 rfl rfl (.bd (zeroHd.dv) rfl) ?_
   refine .g 3 2 rfl ?_
   rw [nextV_bad hbad]
   refine TE.sub 9 (slT Kn.dv 4 ([])) rfl rfl (nil_sub _ _) ?_
   exact .z 0 2 rfl (TE.rettm 0 rfl rfl rfl rfl rfl)
  ·skip
   by_cases c3 : 8 < b.length
   ·skip
    have hbad : badN kn hs b tk = true := by unfold badN; rw [hok]; simp [c3]
    refine .t 10 2 rfl rfl (.bv (.bool false) rfl (congrArg Value.bool (decide_eq_false (by omega)))) ?_
    refine .t 4 2 rfl rfl (.bv (.bool true) rfl (congrArg Value.bool (decide_eq_true (by omega)))) ?_
    refine .t 24 2 rfl rfl (.bd (zeroHd.dv) rfl) ?_
    refine .g 3 2 rfl ?_
    rw [nextV_bad hbad]
    refine TE.sub 9 (slT Kn.dv 4 ([])) rfl rfl (nil_sub _ _) ?_
    exact .z 0 2 rfl (TE.rettm 0 rfl rfl rfl rfl rfl)
   ·skip
    by_cases c4 : tk < 0
    ·skip
     have hbad : badN kn hs b tk = true := by unfold badN; rw [hok]; simp [c4]
     refine .t 10 2 rfl rfl (.bv (.bool false) rfl (congrArg Value.bool (decide_eq_false (by omega)))) ?_
     refine .t 4 2 rfl rfl (.bv (.bool false) rfl (congrArg Value.bool (decide_eq_false (by omega)))) ?_
     refine .t 3 2 rfl rfl (.bv (.bool true) rfl (congrArg Value.bool (decide_eq_true (by omega)))) ?_
     refine .t 20 2 rfl rfl (.bd (zeroHd.dv) rfl) ?_
     refine .g 3 2 rfl ?_
     rw [nextV_bad hbad]
     refine TE.sub 9 (slT Kn.dv 4 ([])) rfl rfl (nil_sub _ _) ?_
     exact .z 0 2 rfl (TE.rettm 0 rfl rfl rfl rfl rfl)
    ·skip
     by_cases c5 : 1152921504606846976 < tk
     ·skip
      have hbad : badN kn hs b tk = true := by unfold badN; rw [hok]; simp [c5]
      refine .t 10 2 rfl rfl (.bv (.bool false) rfl (congrArg Value.bool (decide_eq_false (by omega)))) ?_
      refine .t 4 2 rfl rfl (.bv (.bool false) rfl (congrArg Value.bool (decide_eq_false (by omega)))) ?_
      refine .t 3 2 rfl rfl (.bv (.bool false) rfl (congrArg Value.bool (decide_eq_false (by omega)))) ?_
      refine .t 3 2 rfl rfl (.bv (.bool true) rfl (congrArg Value.bool (decide_eq_true (by omega)))) ?_
      refine .t 16 2 rfl rfl (.bd (zeroHd.dv) rfl) ?_
      refine .g 3 2 rfl ?_
      rw [nextV_bad hbad]
      refine TE.sub 9 (slT Kn.dv 4 ([])) rfl rfl (nil_sub _ _) ?_
      exact .z 0 2 rfl (TE.rettm 0 rfl rfl rfl rfl rfl)
     ·skip
      by_cases hp : 0 < hs.length
      ·skip
       have hp1 : hs.length - 1 < hs.length := by omega
       by_cases c7 : tk < (hs[hs.length - 1]'hp1).tk
       ·skip
        have hbad : badN kn hs b tk = true := by unfold badN; rw [hok, last_at hp]; simp [c7, hp]
        refine .t 10 2 rfl rfl (.bv (.bool false) rfl (congrArg Value.bool (decide_eq_false (by omega)))) ?_
        refine .t 4 2 rfl rfl (.bv (.bool false) rfl (congrArg Value.bool (decide_eq_false (by omega)))) ?_
        refine .t 3 2 rfl rfl (.bv (.bool false) rfl (congrArg Value.bool (decide_eq_false (by omega)))) ?_
        refine .t 3 2 rfl rfl (.bv (.bool false) rfl (congrArg Value.bool (decide_eq_false (by omega)))) ?_
        refine .t 3 2 rfl rfl (.bv (.bool true) rfl (congrArg Value.bool (decide_eq_true (by omega)))) ?_
        refine .t 4 2 rfl rfl (.bv (.int .i64 ((hs.length - 1 : Nat) : Int)) rfl (congrArg _ (by (try dsimp only); rw [IntKind.wrap_i64]; omega))) ?_
        refine .t 0 2 rfl rfl (.ixo rfl (Int.natCast_nonneg _) (by omega)) ?_
        refine .t 1 2 rfl rfl (.ldp rfl rfl rfl rfl (by rw [Int.toNat_natCast]; exact flat_cell hd_len hs (hs.length - 1) 1 hp1 (by decide)) tk2) ?_
        refine .t 0 2 rfl rfl (.bv (.bool true) rfl (congrArg Value.bool (decide_eq_true c7))) ?_
        refine .t 3 2 rfl rfl (.bd (zeroHd.dv) rfl) ?_
        refine .g 3 2 rfl ?_
        rw [nextV_bad hbad]
        refine TE.sub 9 (slT Kn.dv 4 ([])) rfl rfl (nil_sub _ _) ?_
        exact .z 0 2 rfl (TE.rettm 0 rfl rfl rfl rfl rfl)
       ·skip
        have hgood : badN kn hs b tk = false := by unfold badN; rw [hok, last_at hp]; simp [c2, c3, c4, c5, c7]
        refine .t 10 2 rfl rfl (.bv (.bool false) rfl (congrArg Value.bool (decide_eq_false (by omega)))) ?_
        refine .t 4 2 rfl rfl (.bv (.bool false) rfl (congrArg Value.bool (decide_eq_false (by omega)))) ?_
        refine .t 3 2 rfl rfl (.bv (.bool false) rfl (congrArg Value.bool (decide_eq_false (by omega)))) ?_
        refine .t 3 2 rfl rfl (.bv (.bool false) rfl (congrArg Value.bool (decide_eq_false (by omega)))) ?_
        refine .t 3 2 rfl rfl (.bv (.bool true) rfl (congrArg Value.bool (decide_eq_true (by omega)))) ?_
        refine .t 4 2 rfl rfl (.bv (.int .i64 ((hs.length - 1 : Nat) : Int)) rfl (congrArg _ (by (try dsimp only); rw [IntKind.wrap_i64]; omega))) ?_
        refine .t 0 2 rfl rfl (.ixo rfl (Int.natCast_nonneg _) (by omega)) ?_
        refine .t 1 2 rfl rfl (.ldp rfl rfl rfl rfl (by rw [Int.toNat_natCast]; exact flat_cell hd_len hs (hs.length - 1) 1 hp1 (by decide)) tk2) ?_
        refine .t 0 2 rfl rfl (.bv (.bool false) rfl (congrArg Value.bool (decide_eq_false c7))) ?_
        obtain ⟨rt, hrt⟩ : ∃ rt, rt = rootH (setR (itsK ((hs.length + 1 : Nat) : Int) (knN kn hs b)) []) := ⟨_, rfl⟩
        obtain ⟨lg, hlg⟩ : ∃ lg, lg = lroot (hs.map hleaf) := ⟨_, rfl⟩
        have cR := rroot_all _ hI
        rw [← hrt] at cR
        have cL := rlog_pf (hs.map hleaf) (by simp; omega)
        rw [← hlg] at cL
        rw [nextV_good hgood, show headN kn hs b tk = ⟨((hs.length + 1 : Nat) : Int), tk, ((b.length : Nat) : Int), rt, lg, 0, 0⟩ by unfold headN; rw [← hrt, ← hlg]]
        clear hrt hlg hgood
        refine .t 9 2 rfl rfl (.cf (ritems_pf (knN kn hs b) ((hs.length + 1 : Nat) : Int) hKl hKi) rfl) ?_
        refine .t 0 2 rfl rfl (.cf (cR) rfl) ?_
        refine .t 1 2 rfl rfl (.callo 2 rfl rfl cf13 rfl ⟨okA_c rfl (flat_length (sz := 69) (enc := Hd.dv) (fun _ => rfl) _), trivial⟩ (rleaves_po hs (by omega) hho)) ?_
        refine .t 0 3 rfl rfl (.callf rfl cf52 rfl ⟨okA_len rfl (flat_length (sz := 32) (enc := hdv) (fun _ => rfl) _), trivial⟩ (cL)) ?_
        refine .t 0 3 rfl rfl (.bd (Hd.dv ⟨((hs.length + 1 : Nat) : Int), tk, ((b.length : Nat) : Int), rt, lg, 0, 0⟩) rfl) ?_
        exact .z 4 3 rfl (TE.rettm 0 rfl rfl rfl rfl rfl)
      ·skip
       have hz : hs.length = 0 := by omega
       have hgood : badN kn hs b tk = false := by unfold badN; rw [hok]; simp [c2, c3, c4, c5, hz]
       refine .t 10 2 rfl rfl (.bv (.bool false) rfl (congrArg Value.bool (decide_eq_false (by omega)))) ?_
       refine .t 4 3 rfl rfl (.bv (.bool false) rfl (congrArg Value.bool (decide_eq_false (by omega)))) ?_
       refine .t 3 3 rfl rfl (.bv (.bool false) rfl (congrArg Value.bool (decide_eq_false (by omega)))) ?_
       refine .t 3 3 rfl rfl (.bv (.bool false) rfl (congrArg Value.bool (decide_eq_false (by omega)))) ?_
       refine .t 3 3 rfl rfl (.bv (.bool false) rfl (congrArg Value.bool (decide_eq_false (by omega)))) ?_
       obtain ⟨rt, hrt⟩ : ∃ rt, rt = rootH (setR (itsK ((hs.length + 1 : Nat) : Int) (knN kn hs b)) []) := ⟨_, rfl⟩
       obtain ⟨lg, hlg⟩ : ∃ lg, lg = lroot (hs.map hleaf) := ⟨_, rfl⟩
       have cR := rroot_all _ hI
       rw [← hrt] at cR
       have cL := rlog_pf (hs.map hleaf) (by simp; omega)
       rw [← hlg] at cL
       rw [nextV_good hgood, show headN kn hs b tk = ⟨((hs.length + 1 : Nat) : Int), tk, ((b.length : Nat) : Int), rt, lg, 0, 0⟩ by unfold headN; rw [← hrt, ← hlg]]
       clear hrt hlg hgood
       refine .t 18 3 rfl rfl (.cf (ritems_pf (knN kn hs b) ((hs.length + 1 : Nat) : Int) hKl hKi) rfl) ?_
       refine .t 0 3 rfl rfl (.cf (cR) rfl) ?_
       refine .t 1 3 rfl rfl (.callo 3 rfl rfl cf13 rfl ⟨okA_c rfl (flat_length (sz := 69) (enc := Hd.dv) (fun _ => rfl) _), trivial⟩ (rleaves_po hs (by omega) hho)) ?_
       refine .t 0 4 rfl rfl (.callf rfl cf52 rfl ⟨okA_len rfl (flat_length (sz := 32) (enc := hdv) (fun _ => rfl) _), trivial⟩ (cL)) ?_
       refine .t 0 4 rfl rfl (.bd (Hd.dv ⟨((hs.length + 1 : Nat) : Int), tk, ((b.length : Nat) : Int), rt, lg, 0, 0⟩) rfl) ?_
       exact .z 4 4 rfl (TE.rettm 0 rfl rfl rfl rfl rfl)
 | false =>
  have hbad : badN kn hs b tk = true := by unfold badN; rw [hok]; simp
  refine .t 40 2 rfl rfl (.bd (zeroHd.dv) rfl) ?_
  refine .g 3 4 rfl ?_
  rw [nextV_bad hbad]
  refine TE.sub 9 (slT Kn.dv 4 ([])) rfl rfl (nil_sub _ _) ?_
  exact .z 0 4 rfl (TE.rettm 0 rfl rfl rfl rfl rfl)
theorem rbuild_pm (x : Int) (hx : u64I x) (kn : List Kn) (hs : List Hd) (b : List En) (tk : Int) (hk : kn.length ≤ 1000000) (hh : hs.length ≤ 1000000) (hb : b.length ≤ 1000) (hki : knIn kn) (hho : ∀ h ∈ hs, h.ok) : PM Tryz.prog 22 [.d (.v (.int .u64 x)), .d (slT Kn.dv 4 (kn)), .ow 0 hs.length 69, .d (slT En.dv 3 (b)), .d (.v (.int .i64 tk))] (.mrow 0 45 69 (hs.flatMap Hd.dv)) (.mrow 0 45 69 (hs.flatMap Hd.dv)) (.d (.tp [.ag (buildB x kn hs b tk).1.dv, slT Kn.dv 4 ((buildB x kn hs b tk).2.1), .v (.int .i64 (buildB x kn hs b tk).2.2)])) := by
 have cN := rnext_pm kn hs b tk hk hh hb hki hho
 refine PM.enter (fn := Tryz.f22) Tryz.func22 rfl Tryz.ntmps22 rfl rfl rfl (fun w0 K0 ob => .w ?_)
 by_cases hbad : badN kn hs b tk = true
 ·skip
  rw [nextV_bad hbad] at cN
  refine .t 7 1 rfl rfl (.cm 0 (.mrow 0 45 69 (hs.flatMap Hd.dv)) rfl (cN) rfl) ?_
  refine .g 12 2 rfl ?_
  refine TE.sub 27 (.ag zeroPub.dv) rfl rfl (pub_nil zeroHd) ?_
  refine .g 3 3 rfl ?_
  rw [show buildB x kn hs b tk = (zeroPub, [], 23) from if_pos hbad]
  refine TE.sub 11 (slT Kn.dv 4 ([])) rfl rfl (nil_sub _ _) ?_
  exact .z 0 3 rfl (TE.rettm 0 rfl rfl rfl rfl rfl)
 ·skip
  have hgood : badN kn hs b tk = false := by rw [Bool.not_eq_true] at hbad; exact hbad
  rw [nextV_good hgood] at cN
  refine .t 7 1 rfl rfl (.cm 0 (.mrow 0 45 69 (hs.flatMap Hd.dv)) rfl (cN) rfl) ?_
  refine .t 12 3 rfl rfl (.lp ((headN kn hs b tk).dv) rfl) ?_
  refine .t 0 4 rfl rfl (.cf (rsign_pf x (headN kn hs b tk) hx) rfl) ?_
  refine .t 1 4 rfl rfl (.cc (rbyn_pc b (by omega)) rfl) ?_
  refine .t 0 4 rfl rfl (.bd (Pub.dv ⟨signH x (headN kn hs b tk), byN b⟩) rfl) ?_
  rw [show buildB x kn hs b tk = (⟨signH x (headN kn hs b tk), byN b⟩, knN kn hs b, 0) from if_neg (by rw [hgood]; simp)]
  exact .z 4 4 rfl (TE.rettm 0 rfl rfl rfl rfl rfl)
end Go.Proofs.YtdjcclcejmeheaaGreat

