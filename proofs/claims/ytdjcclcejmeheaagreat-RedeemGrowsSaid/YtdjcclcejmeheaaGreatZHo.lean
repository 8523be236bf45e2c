import Derived.Test.YtdjcclcejmeheaaGreatZJa
import Derived.Test.YtdjcclcejmeheaaGreatZGd
import Derived.Test.YtdjcclcejmeheaaGreatZJi
import Derived.Test.YtdjcclcejmeheaaGreatZEv
import Derived.Test.YtdjcclcejmeheaaGreatZHn
/-
  What keeps a promise, of both sides.
-/
namespace Go.Proofs.YtdjcclcejmeheaaGreat
set_option linter.unusedVariables false
set_option linter.unusedSimpArgs false
open Go.RowKit Pl
set_option maxRecDepth 100000
set_option maxHeartbeats 3200000
theorem redeem_pf (y : Int) (hy : u64I y) (a b c : List UInt8) (ha : a.length ≤ 1099511627776) (hb : b.length ≤ 1099511627776) (hc : c.length ≤ 1099511627776) : PF Tryz.prog 9 [.v (.int .u64 y), slT bdv 1 (a), slT bdv 1 (b), slT bdv 1 (c)] (.v (.int .i64 (redeemF y a b c))) := by
 obtain ⟨p, qp⟩ : ∃ z, z = (readQ intI a).1 := ⟨_, rfl⟩
 obtain ⟨ea, qea⟩ : ∃ z, z = (readQ intI a).2 := ⟨_, rfl⟩
 have gp : PC Tryz.prog 25 [slT bdv 1 (a)] (.tp [.ag p.dv, .v (.int .i64 ea)]) := by rw [qp, qea]; exact pread_pc a ha
 obtain ⟨h, qh⟩ : ∃ z, z = (readH intI b).1 := ⟨_, rfl⟩
 obtain ⟨eb, qeb⟩ : ∃ z, z = (readH intI b).2 := ⟨_, rfl⟩
 have gh : PC Tryz.prog 26 [slT bdv 1 (b)] (.tp [.ag h.dv, .v (.int .i64 eb)]) := by rw [qh, qeb]; exact hread_pc b hb
 obtain ⟨x, qx⟩ : ∃ z, z = (readP c).1 := ⟨_, rfl⟩
 obtain ⟨ec, qec⟩ : ∃ z, z = (readP c).2 := ⟨_, rfl⟩
 have gx : PC Tryz.prog 27 [slT bdv 1 (c)] (.tp [.ag x.dv, .v (.int .i64 ec)]) := by rw [qx, qec]; exact read_pc c hc
 have hpo : p.ok := qp ▸ readQ_isok intI a
 have hho : h.ok := qh ▸ readH_zero intI b
 rw [show redeemF y a b c = redeemG y p ea h eb x ec by rw [qp, qea, qh, qeb, qx, qec]; rfl]
 clear qp qea qh qeb qx qec
 obtain ⟨k1, hk1⟩ : ∃ k, checkQ y p = k := ⟨_, rfl⟩
 obtain ⟨k2, hk2⟩ : ∃ k, checkH y h = k := ⟨_, rfl⟩
 have cQ : PF Tryz.prog 28 [.v (.int .u64 y), .ag p.dv] (.v (.bool k1)) := hk1 ▸ pck_pf y p hy hpo
 have cH : PF Tryz.prog 29 [.v (.int .u64 y), .ag h.dv] (.v (.bool k2)) := hk2 ▸ chk_pf y h hy hho
 obtain ⟨v, here, okk, hv⟩ : ∃ v here okk, checkV h.root (indexH p.e.nm) x = (v, here, okk) := ⟨_, _, _, rfl⟩
 have cV : PC Tryz.prog 30 [.ag (hdv h.root), .ag (hdv (indexH p.e.nm)), .ag x.dv] (.tp [.ag (hdv v), .v (.bool here), .v (.bool okk)]) := by have q := check_pc h.root (indexH p.e.nm) x; rw [hv] at q; exact q
 refine PF.enter (fn := Tryz.f9) Tryz.func9 rfl Tryz.ntmps9 rfl (fun w0 => .w ?_)
 refine .t 2 1 rfl rfl (.cc (gp) rfl) ?_
 refine .g 6 1 rfl ?_
 refine TE.obj 1 (.box 73 (p.dv)) rfl rfl ?_
 refine .t 1 2 rfl rfl (.cc (gh) rfl) ?_
 refine .g 6 2 rfl ?_
 refine TE.obj 2 (.box 45 (h.dv)) rfl rfl ?_
 refine .t 1 3 rfl rfl (.cc (gx) rfl) ?_
 refine .g 6 3 rfl ?_
 refine TE.obj 3 (.box 81 (x.dv)) rfl rfl ?_
 by_cases c1 : ea = 0
 ·skip
  by_cases c2 : eb = 0
  ·skip
   by_cases c3 : ec = 0
   ·skip
    refine .t 1 4 rfl rfl (.bv (.bool false) rfl (congrArg Value.bool (by simp [c1]))) ?_
    refine .t 2 4 rfl rfl (.bv (.bool false) rfl (congrArg Value.bool (by simp [c2]))) ?_
    refine .t 3 4 rfl rfl (.bv (.bool false) rfl (congrArg Value.bool (by simp [c3]))) ?_
    cases k1 with
    | true =>
     cases k2 with
     | true =>
      have hu0 := rightE_u (rightQ_parts (checkQ_right hk1)).1
      refine .t 4 4 rfl rfl (.lp (p.dv) rfl) ?_
      refine .t 0 4 rfl rfl (.cf (cQ) rfl) ?_
      refine .t 3 4 rfl rfl (.lp (h.dv) rfl) ?_
      refine .t 0 4 rfl rfl (.cf (cH) rfl) ?_
      refine .q 10 4 rfl rfl (fun h8 => ?_) (fun h8 => ?_)
      ·skip
       have q8 : p.dl < h.tk := of_decide_eq_true h8
       rw [redeemG_late c1 c2 c3 hk1 hk2 q8]
       exact .z 1 4 rfl (TE.retf rfl rfl rfl (okv rfl))
      ·skip
       have q8 : ¬ p.dl < h.tk := of_decide_eq_false h8
       refine .d 0 4 rfl ?_
       refine .v 1 4 [2] rfl rfl (fun _ _ => .lp (hdv h.root) rfl) ?_
       refine .v 3 4 [] rfl rfl (fun _ _ => .cf (index_pf p.e.nm (by omega)) rfl) ?_
       refine .v 0 4 [3] rfl rfl (fun _ _ => .lp (x.dv) rfl) ?_
       refine .v 0 4 [] rfl rfl (fun _ _ => .cc (cV) rfl) ?_
       refine .y 8 4 rfl (by kernel_rfl) ?_
       refine TE.obj 4 (.box 41 (hdv v)) rfl rfl ?_
       cases okk with
       | true =>
        cases here with
        | true =>
         by_cases hve : v = (valueH p.e.ver p.e.key)
         ·skip
          refine .d 0 5 rfl ?_
          refine .v 7 5 [4] rfl rfl (fun _ _ => .lp (hdv v) rfl) ?_
          refine .v 6 5 [] rfl rfl (fun _ _ => .cf (value_pf p.e.ver p.e.key hu0.2.1 hu0.2.2) rfl) ?_
          refine .v 0 5 [] rfl rfl (fun _ _ => .nehf (a := v) (b := (valueH p.e.ver p.e.key)) (hve) rfl rfl rfl qh41) ?_
          refine .y 1 5 rfl (by kernel_rfl) ?_
          rw [redeemG_ok c1 c2 c3 hk1 hk2 q8 hv (congrArg H.l hve)]
          exact .z 2 5 rfl (TE.retf rfl rfl rfl (okv rfl))
         ·skip
          have hne : ¬ H.l v = H.l (valueH p.e.ver p.e.key) := fun q => hve (H.l_inj q)
          have hpr : true = false ∨ true = false ∨ ¬ H.l v = H.l (valueH p.e.ver p.e.key) := .inr (.inr hne)
          refine .d 0 5 rfl ?_
          refine .v 7 5 [4] rfl rfl (fun _ _ => .lp (hdv v) rfl) ?_
          refine .v 6 5 [] rfl rfl (fun _ _ => .cf (value_pf p.e.ver p.e.key hu0.2.1 hu0.2.2) rfl) ?_
          refine .v 0 5 [] rfl rfl (fun _ _ => .neht (a := v) (b := (valueH p.e.ver p.e.key)) (hne) rfl rfl rfl qh41) ?_
          refine .y 1 5 rfl (by kernel_rfl) ?_
          rw [redeemG_proof c1 c2 c3 hk1 hk2 q8 hv hpr]
          exact .z 2 5 rfl (TE.retf rfl rfl rfl (okv rfl))
        | false =>
         have hpr : true = false ∨ false = false ∨ ¬ H.l v = H.l (valueH p.e.ver p.e.key) := .inr (.inl rfl)
         refine .d 0 5 rfl ?_
         refine .y 17 5 rfl (by kernel_rfl) ?_
         rw [redeemG_proof c1 c2 c3 hk1 hk2 q8 hv hpr]
         exact .z 2 5 rfl (TE.retf rfl rfl rfl (okv rfl))
       | false =>
        have hpr : false = false ∨ here = false ∨ ¬ H.l v = H.l (valueH p.e.ver p.e.key) := .inl rfl
        refine .d 0 5 rfl ?_
        refine .y 17 5 rfl (by kernel_rfl) ?_
        rw [redeemG_proof c1 c2 c3 hk1 hk2 q8 hv hpr]
        exact .z 2 5 rfl (TE.retf rfl rfl rfl (okv rfl))
     | false =>
      have hsg : checkQ y p = false ∨ checkH y h = false := .inr hk2
      refine .t 4 4 rfl rfl (.lp (p.dv) rfl) ?_
      refine .t 0 5 rfl rfl (.cf (cQ) rfl) ?_
      refine .t 3 5 rfl rfl (.lp (h.dv) rfl) ?_
      refine .t 0 5 rfl rfl (.cf (cH) rfl) ?_
      rw [redeemG_sig c1 c2 c3 hsg]
      exact .z 5 5 rfl (TE.retf rfl rfl rfl (okv rfl))
    | false =>
     have hsg : checkQ y p = false ∨ checkH y h = false := .inl hk1
     refine .t 4 4 rfl rfl (.lp (p.dv) rfl) ?_
     refine .t 0 5 rfl rfl (.cf (cQ) rfl) ?_
     rw [redeemG_sig c1 c2 c3 hsg]
     exact .z 10 5 rfl (TE.retf rfl rfl rfl (okv rfl))
   ·skip
    have hbad : ¬ ea = 0 ∨ ¬ eb = 0 ∨ ¬ ec = 0 := .inr (.inr c3)
    refine .t 1 5 rfl rfl (.bv (.bool false) rfl (congrArg Value.bool (by simp [c1]))) ?_
    refine .t 2 5 rfl rfl (.bv (.bool false) rfl (congrArg Value.bool (by simp [c2]))) ?_
    refine .t 3 5 rfl rfl (.bv (.bool true) rfl (congrArg Value.bool (by simp [c3]))) ?_
    rw [redeemG_bytes hbad]
    exact .z 4 5 rfl (TE.retf rfl rfl rfl (okv rfl))
  ·skip
   have hbad : ¬ ea = 0 ∨ ¬ eb = 0 ∨ ¬ ec = 0 := .inr (.inl c2)
   refine .t 1 5 rfl rfl (.bv (.bool false) rfl (congrArg Value.bool (by simp [c1]))) ?_
   refine .t 2 5 rfl rfl (.bv (.bool true) rfl (congrArg Value.bool (by simp [c2]))) ?_
   rw [redeemG_bytes hbad]
   exact .z 8 5 rfl (TE.retf rfl rfl rfl (okv rfl))
 ·skip
  have hbad : ¬ ea = 0 ∨ ¬ eb = 0 ∨ ¬ ec = 0 := .inl c1
  refine .t 1 5 rfl rfl (.bv (.bool true) rfl (congrArg Value.bool (by simp [c1]))) ?_
  rw [redeemG_bytes hbad]
  exact .z 11 5 rfl (TE.retf rfl rfl rfl (okv rfl))
end Go.Proofs.YtdjcclcejmeheaaGreat
/-
  The reference's next epoch.
-/
namespace Go.Proofs.YtdjcclcejmeheaaGreat
set_option linter.unusedVariables false
set_option linter.unusedSimpArgs false
open Go.RowKit Pl
set_option maxRecDepth 100000
set_option maxHeartbeats 3200000
theorem cf13 : cfn Tryz.prog 13 = true := by kernel_rfl
theorem cf52 : cfn Tryz.prog 52 = true := by kernel_rfl
theorem tk2 : tyk Tryz.prog 2 = some none := by kernel_rfl
theorem rnext_pm (kn : List Kn) (hs : List Hd) (b : List En) (tk : Int) (hk : kn.length ≤ 1000000) (hh : hs.length ≤ 1000000) (hb : b.length ≤ 1000) (hki : knIn kn) (hho : ∀ h ∈ hs, h.ok) : PM Tryz.prog 60 [.d (slT Kn.dv 4 (kn)), .ow 0 hs.length 69, .d (slT En.dv 3 (b)), .d (.v (.int .i64 tk))] (.mrow 0 45 69 (hs.flatMap Hd.dv)) (.mrow 0 45 69 (hs.flatMap Hd.dv)) (.d (.tp [.ag (nextV kn hs b tk).1.dv, slT Kn.dv 4 ((nextV kn hs b tk).2.1), .v (.bool (nextV kn hs b tk).2.2)])) := by
 obtain ⟨ok, hok⟩ : ∃ ok, (addR kn ((hs.length + 1 : Nat) : Int) b).2 = ok := ⟨_, rfl⟩
 have cA : PC Tryz.prog 109 [slT Kn.dv 4 (kn), .v (.int .i64 ((hs.length + 1 : Nat) : Int)), slT En.dv 3 (b)] (.tp [slT Kn.dv 4 (knN kn hs b), .v (.bool ok)]) := by have q := add_pc kn ((hs.length + 1 : Nat) : Int) b (by omega) (by omega); rw [hok] at q; exact q
 have hKl : (knN kn hs b).length ≤ 1048576 := by have q := addR_len kn ((hs.length + 1 : Nat) : Int) b; show (addR _ _ _).1.length ≤ _; omega
 have hKi : knIn (knN kn hs b) := addR_in hki
 have hI : (setR (itsK ((hs.length + 1 : Nat) : Int) (knN kn hs b)) []).length ≤ 1048576 := by have q2 := itsK_le ((hs.length + 1 : Nat) : Int) (knN kn hs b); exact Nat.le_trans (setR_len _ []) (by rw [List.length_nil]; omega)
 refine PM.enter (fn := Tryz.f60) Tryz.func60 rfl Tryz.ntmps60 rfl rfl rfl (fun w0 K0 ob => .w ?_)
 refine .t 5 1 rfl rfl (.bv (.int .i64 ((hs.length + 1 : Nat) : Int)) rfl (congrArg _ (by (try dsimp only); rw [IntKind.wrap_i64]; omega))) ?_
 refine .t 4 2 rfl rfl (.cc (cA) rfl) ?_
 cases ok with
 | true =>
  by_cases c2 : b.length < 1
  ·skip
   have hbad : badN kn hs b tk = true := by unfold badN; rw [hok]; simp [c2]
   refine .t 10 2 rfl rfl (.bv (.bool true) rfl (congrArg Value.bool (decide_eq_true (by omega)))) ?_
   refine .t 29 2 rfl rfl (.bd (zeroHd.dv) rfl) ?_
   refine .g 3 2 rfl ?_
   rw [nextV_bad hbad]
   refine TE.sub 9 (slT Kn.dv 4 ([])) rfl rfl (nil_sub _ _) ?_
   exact .z 0 2 rfl (TE.rettm 0 rfl rfl rfl rfl rfl)
  ·skip
   by_cases c3 : 8 < b.length
   ·skip
    have hbad : badN kn hs b tk = true := by unfold badN; rw [hok]; simp [c3]
    refine .t 10 2 rfl rfl (.bv (.bool false) rfl (congrArg Value.bool (decide_eq_false (by omega)))) ?_
    refine .t 4 2 rfl rfl (.bv (.bool true) rfl (congrArg Value.bool (decide_eq_true (by omega)))) ?_
    refine .t 24 2 rfl rfl (.bd (zeroHd.dv) rfl) ?_
    refine .g 3 2 rfl ?_
    rw [nextV_bad hbad]
    refine TE.sub 9 (slT Kn.dv 4 ([])) rfl rfl (nil_sub _ _) ?_
    exact .z 0 2 rfl (TE.rettm 0 rfl rfl rfl rfl rfl)
   ·skip
    by_cases c4 : tk < 0
    ·skip
     have hbad : badN kn hs b tk = true := by unfold badN; rw [hok]; simp [c4]
     refine .t 10 2 rfl rfl (.bv (.bool false) rfl (congrArg Value.bool (decide_eq_false (by omega)))) ?_
     refine .t 4 2 rfl rfl (.bv (.bool false) rfl (congrArg Value.bool (decide_eq_false (by omega)))) ?_
     refine .t 3 2 rfl rfl (.bv (.bool true) rfl (congrArg Value.bool (decide_eq_true (by omega)))) ?_
     refine .t 20 2 rfl rfl (.bd (zeroHd.dv) rfl) ?_
     refine .g 3 2 rfl ?_
     rw [nextV_bad hbad]
     refine TE.sub 9 (slT Kn.dv 4 ([])) rfl rfl (nil_sub _ _) ?_
     exact .z 0 2 rfl (TE.rettm 0 rfl rfl rfl rfl rfl)
    ·skip
     by_cases c5 : 1152921504606846976 < tk
     ·skip
      have hbad : badN kn hs b tk = true := by unfold badN; rw [hok]; simp [c5]
      refine .t 10 2 rfl rfl (.bv (.bool false) rfl (congrArg Value.bool (decide_eq_false (by omega)))) ?_
      refine .t 4 2 rfl rfl (.bv (.bool false) rfl (congrArg Value.bool (decide_eq_false (by omega)))) ?_
      refine .t 3 2 rfl rfl (.bv (.bool false) rfl (congrArg Value.bool (decide_eq_false (by omega)))) ?_
      refine .t 3 2 rfl rfl (.bv (.bool true) rfl (congrArg Value.bool (decide_eq_true (by omega)))) ?_
      refine .t 16 2 rfl rfl (.bd (zeroHd.dv) rfl) ?_
      refine .g 3 2 rfl ?_
      rw [nextV_bad hbad]
      refine TE.sub 9 (slT Kn.dv 4 ([])) rfl rfl (nil_sub _ _) ?_
      exact .z 0 2 rfl (TE.rettm 0 rfl rfl rfl rfl rfl)
     ·skip
      by_cases hp : 0 < hs.length
      ·skip
       have hp1 : hs.length - 1 < hs.length := by omega
       by_cases c7 : tk < (hs[hs.length - 1]'hp1).tk
       ·skip
        have hbad : badN kn hs b tk = true := by unfold badN; rw [hok, last_at hp]; simp [c7, hp]
        refine .t 10 2 rfl rfl (.bv (.bool false) rfl (congrArg Value.bool (decide_eq_false (by omega)))) ?_
        refine .t 4 2 rfl rfl (.bv (.bool false) rfl (congrArg Value.bool (decide_eq_false (by omega)))) ?_
        refine .t 3 2 rfl rfl (.bv (.bool false) rfl (congrArg Value.bool (decide_eq_false (by omega)))) ?_
        refine .t 3 2 rfl rfl (.bv (.bool false) rfl (congrArg Value.bool (decide_eq_false (by omega)))) ?_
        refine .t 3 2 rfl rfl (.bv (.bool true) rfl (congrArg Value.bool (decide_eq_true (by omega)))) ?_
        refine .t 4 2 rfl rfl (.bv (.int .i64 ((hs.length - 1 : Nat) : Int)) rfl (congrArg _ (by (try dsimp only); rw [IntKind.wrap_i64]; omega))) ?_
        refine .t 0 2 rfl rfl (.ixo rfl (Int.natCast_nonneg _) (by omega)) ?_
        refine .t 1 2 rfl rfl (.ldp rfl rfl rfl rfl (by rw [Int.toNat_natCast]; exact flat_cell hd_len hs (hs.length - 1) 1 hp1 (by decide)) tk2) ?_
        refine .t 0 2 rfl rfl (.bv (.bool true) rfl (congrArg Value.bool (decide_eq_true c7))) ?_
        refine .t 3 2 rfl rfl (.bd (zeroHd.dv) rfl) ?_
        refine .g 3 2 rfl ?_
        rw [nextV_bad hbad]
        refine TE.sub 9 (slT Kn.dv 4 ([])) rfl rfl (nil_sub _ _) ?_
        exact .z 0 2 rfl (TE.rettm 0 rfl rfl rfl rfl rfl)
       ·skip
        have hgood : badN kn hs b tk = false := by unfold badN; rw [hok, last_at hp]; simp [c2, c3, c4, c5, c7]
        refine .t 10 2 rfl rfl (.bv (.bool false) rfl (congrArg Value.bool (decide_eq_false (by omega)))) ?_
        refine .t 4 2 rfl rfl (.bv (.bool false) rfl (congrArg Value.bool (decide_eq_false (by omega)))) ?_
        refine .t 3 2 rfl rfl (.bv (.bool false) rfl (congrArg Value.bool (decide_eq_false (by omega)))) ?_
        refine .t 3 2 rfl rfl (.bv (.bool false) rfl (congrArg Value.bool (decide_eq_false (by omega)))) ?_
        refine .t 3 2 rfl rfl (.bv (.bool true) rfl (congrArg Value.bool (decide_eq_true (by omega)))) ?_
        refine .t 4 2 rfl rfl (.bv (.int .i64 ((hs.length - 1 : Nat) : Int)) rfl (congrArg _ (by (try dsimp only); rw [IntKind.wrap_i64]; omega))) ?_
        refine .t 0 2 rfl rfl (.ixo rfl (Int.natCast_nonneg _) (by omega)) ?_
        refine .t 1 2 rfl rfl (.ldp rfl rfl rfl rfl (by rw [Int.toNat_natCast]; exact flat_cell hd_len hs (hs.length - 1) 1 hp1 (by decide)) tk2) ?_
        refine .t 0 2 rfl rfl (.bv (.bool false) rfl (congrArg Value.bool (decide_eq_false c7))) ?_
        obtain ⟨rt, hrt⟩ : ∃ rt, rt = rootH (setR (itsK ((hs.length + 1 : Nat) : Int) (knN kn hs b)) []) := ⟨_, rfl⟩
        obtain ⟨lg, hlg⟩ : ∃ lg, lg = lroot (hs.map hleaf) := ⟨_, rfl⟩
        have cR := rroot_all _ hI
        rw [← hrt] at cR
        have cL := rlog_pf (hs.map hleaf) (by simp; omega)
        rw [← hlg] at cL
        rw [nextV_good hgood, show headN kn hs b tk = ⟨((hs.length + 1 : Nat) : Int), tk, ((b.length : Nat) : Int), rt, lg, 0, 0⟩ by unfold headN; rw [← hrt, ← hlg]]
        clear hrt hlg hgood
        refine .t 9 2 rfl rfl (.cf (ritems_pf (knN kn hs b) ((hs.length + 1 : Nat) : Int) hKl hKi) rfl) ?_
        refine .t 0 2 rfl rfl (.cf (cR) rfl) ?_
        refine .t 1 2 rfl rfl (.callo 2 rfl rfl cf13 rfl ⟨okA_c rfl (flat_length (sz := 69) (enc := Hd.dv) (fun _ => rfl) _), trivial⟩ (rleaves_po hs (by omega) hho)) ?_
        refine .t 0 3 rfl rfl (.callf rfl cf52 rfl ⟨okA_len rfl (flat_length (sz := 32) (enc := hdv) (fun _ => rfl) _), trivial⟩ (cL)) ?_
        refine .t 0 3 rfl rfl (.bd (Hd.dv ⟨((hs.length + 1 : Nat) : Int), tk, ((b.length : Nat) : Int), rt, lg, 0, 0⟩) rfl) ?_
        exact .z 4 3 rfl (TE.rettm 0 rfl rfl rfl rfl rfl)
      ·skip
       have hz : hs.length = 0 := by omega
       have hgood : badN kn hs b tk = false := by unfold badN; rw [hok]; simp [c2, c3, c4, c5, hz]
       refine .t 10 2 rfl rfl (.bv (.bool false) rfl (congrArg Value.bool (decide_eq_false (by omega)))) ?_
       refine .t 4 3 rfl rfl (.bv (.bool false) rfl (congrArg Value.bool (decide_eq_false (by omega)))) ?_
       refine .t 3 3 rfl rfl (.bv (.bool false) rfl (congrArg Value.bool (decide_eq_false (by omega)))) ?_
       refine .t 3 3 rfl rfl (.bv (.bool false) rfl (congrArg Value.bool (decide_eq_false (by omega)))) ?_
       refine .t 3 3 rfl rfl (.bv (.bool false) rfl (congrArg Value.bool (decide_eq_false (by omega)))) ?_
       obtain ⟨rt, hrt⟩ : ∃ rt, rt = rootH (setR (itsK ((hs.length + 1 : Nat) : Int) (knN kn hs b)) []) := ⟨_, rfl⟩
       obtain ⟨lg, hlg⟩ : ∃ lg, lg = lroot (hs.map hleaf) := ⟨_, rfl⟩
       have cR := rroot_all _ hI
       rw [← hrt] at cR
       have cL := rlog_pf (hs.map hleaf) (by simp; omega)
       rw [← hlg] at cL
       rw [nextV_good hgood, show headN kn hs b tk = ⟨((hs.length + 1 : Nat) : Int), tk, ((b.length : Nat) : Int), rt, lg, 0, 0⟩ by unfold headN; rw [← hrt, ← hlg]]
       clear hrt hlg hgood
       refine .t 18 3 rfl rfl (.cf (ritems_pf (knN kn hs b) ((hs.length + 1 : Nat) : Int) hKl hKi) rfl) ?_
       refine .t 0 3 rfl rfl (.cf (cR) rfl) ?_
       refine .t 1 3 rfl rfl (.callo 3 rfl rfl cf13 rfl ⟨okA_c rfl (flat_length (sz := 69) (enc := Hd.dv) (fun _ => rfl) _), trivial⟩ (rleaves_po hs (by omega) hho)) ?_
       refine .t 0 4 rfl rfl (.callf rfl cf52 rfl ⟨okA_len rfl (flat_length (sz := 32) (enc := hdv) (fun _ => rfl) _), trivial⟩ (cL)) ?_
       refine .t 0 4 rfl rfl (.bd (Hd.dv ⟨((hs.length + 1 : Nat) : Int), tk, ((b.length : Nat) : Int), rt, lg, 0, 0⟩) rfl) ?_
       exact .z 4 4 rfl (TE.rettm 0 rfl rfl rfl rfl rfl)
 | false =>
  have hbad : badN kn hs b tk = true := by unfold badN; rw [hok]; simp
  refine .t 40 2 rfl rfl (.bd (zeroHd.dv) rfl) ?_
  refine .g 3 4 rfl ?_
  rw [nextV_bad hbad]
  refine TE.sub 9 (slT Kn.dv 4 ([])) rfl rfl (nil_sub _ _) ?_
  exact .z 0 4 rfl (TE.rettm 0 rfl rfl rfl rfl rfl)
theorem rbuild_pm (x : Int) (hx : u64I x) (kn : List Kn) (hs : List Hd) (b : List En) (tk : Int) (hk : kn.length ≤ 1000000) (hh : hs.length ≤ 1000000) (hb : b.length ≤ 1000) (hki : knIn kn) (hho : ∀ h ∈ hs, h.ok) : PM Tryz.prog 22 [.d (.v (.int .u64 x)), .d (slT Kn.dv 4 (kn)), .ow 0 hs.length 69, .d (slT En.dv 3 (b)), .d (.v (.int .i64 tk))] (.mrow 0 45 69 (hs.flatMap Hd.dv)) (.mrow 0 45 69 (hs.flatMap Hd.dv)) (.d (.tp [.ag (buildB x kn hs b tk).1.dv, slT Kn.dv 4 ((buildB x kn hs b tk).2.1), .v (.int .i64 (buildB x kn hs b tk).2.2)])) := by
 have cN := rnext_pm kn hs b tk hk hh hb hki hho
 refine PM.enter (fn := Tryz.f22) Tryz.func22 rfl Tryz.ntmps22 rfl rfl rfl (fun w0 K0 ob => .w ?_)
 by_cases hbad : badN kn hs b tk = true
 ·skip
  rw [nextV_bad hbad] at cN
  refine .t 7 1 rfl rfl (.cm 0 (.mrow 0 45 69 (hs.flatMap Hd.dv)) rfl (cN) rfl) ?_
  refine .g 12 2 rfl ?_
  refine TE.sub 27 (.ag zeroPub.dv) rfl rfl (pub_nil zeroHd) ?_
  refine .g 3 3 rfl ?_
  rw [show buildB x kn hs b tk = (zeroPub, [], 23) from if_pos hbad]
  refine TE.sub 11 (slT Kn.dv 4 ([])) rfl rfl (nil_sub _ _) ?_
  exact .z 0 3 rfl (TE.rettm 0 rfl rfl rfl rfl rfl)
 ·skip
  have hgood : badN kn hs b tk = false := by rw [Bool.not_eq_true] at hbad; exact hbad
  rw [nextV_good hgood] at cN
  refine .t 7 1 rfl rfl (.cm 0 (.mrow 0 45 69 (hs.flatMap Hd.dv)) rfl (cN) rfl) ?_
  refine .t 12 3 rfl rfl (.lp ((headN kn hs b tk).dv) rfl) ?_
  refine .t 0 4 rfl rfl (.cf (rsign_pf x (headN kn hs b tk) hx) rfl) ?_
  refine .t 1 4 rfl rfl (.cc (rbyn_pc b (by omega)) rfl) ?_
  refine .t 0 4 rfl rfl (.bd (Pub.dv ⟨signH x (headN kn hs b tk), byN b⟩) rfl) ?_
  rw [show buildB x kn hs b tk = (⟨signH x (headN kn hs b tk), byN b⟩, knN kn hs b, 0) from if_neg (by rw [hgood]; simp)]
  exact .z 4 4 rfl (TE.rettm 0 rfl rfl rfl rfl rfl)
end Go.Proofs.YtdjcclcejmeheaaGreat

