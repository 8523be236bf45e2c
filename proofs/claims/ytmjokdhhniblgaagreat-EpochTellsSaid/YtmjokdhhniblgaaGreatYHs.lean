import Derived.Test.YtmjokdhhniblgaaGreatYHr
import Derived.Test.YtmjokdhhniblgaaGreatYEv
/-
  The program's next epoch.
-/
namespace Go.Proofs.YtmjokdhhniblgaaGreat
set_option linter.unusedVariables false
set_option linter.unusedSimpArgs false
open Go.RowKit Pl
set_option maxRecDepth 100000
set_option maxHeartbeats 3200000
theorem cf20 : cfn Tryz.prog 20 = true := by kernel_rfl
theorem cf36 : cfn Tryz.prog 36 = true := by kernel_rfl
theorem cf56 : cfn Tryz.prog 56 = true := by kernel_rfl
theorem leaves_po (l : List Hd) (hl : l.length ≤ 1048576) (ho : ∀ h ∈ l, h.ok) : PO Tryz.prog 20 [slT Hd.dv 69 (l)] 26 32 (l.map hleaf).length ((l.map hleaf).flatMap hdv) := by
 refine PO.enter (fn := Tryz.f20) Tryz.func20 rfl Tryz.ntmps20 rfl (fun w0 => .w ?_)
 refine .g 2 1 rfl ?_
 refine TE.own0 3 1 26 32 rfl rfl ?_
 refine .g 3 2 rfl ?_
 refine TE.setv 8 (.int .i64 ((0 : Nat) : Int)) rfl (congrArg _ (by first | rfl | (dsimp only; first | done | rfl | omega))) ?_
 refine TE.set 3 (.ow 1 ((l.take (0)).map hleaf).length 32) rfl rfl ?_
 refine TE.obj 1 (.row 26 32 (((l.take (0)).map hleaf).flatMap hdv)) rfl rfl ?_
 refine .lo (T := Nat) 0 2 rfl (fun i => i ≤ l.length) (fun i => l.length - i) [0] [] (fun i => [(3, .ow 1 ((l.take (i)).map hleaf).length 32), (8, .d (.v (.int .i64 ((i : Nat) : Int)))), (6, .d (slT Hd.dv 69 (l))), (7, .f (.v (.int .i64 ((l.length : Nat) : Int))))]) (fun i => [(1, .row 26 32 (((l.take (i)).map hleaf).flatMap hdv))]) (0) rfl rfl (Nat.zero_le _) rfl rfl rfl (fun i hI => ?_)
 refine .q 1 2 rfl rfl (fun h1 => ?_) (fun h1 => ?_)
 ·skip
  have hi : i < l.length := by have q := of_decide_eq_true h1; (try dsimp only at q); omega
  have hoi := ho l[i] (List.getElem_mem hi)
  have hlv : ((l.take i).map hleaf).length ≤ l.length := by simp; omega
  have cL : PF Tryz.prog 36 [.sl 1 ((msgB l[i]).length + (putF l[i].r l[i].s).length) ((msgB l[i]).flatMap bdv ++ (putF l[i].r l[i].s).flatMap bdv)] (.ag (hdv (hleaf l[i]))) := by have q := lleaf_pf (putH l[i]) (by rw [putH_len]; decide); unfold putH slT at q; rw [List.length_append, List.flatMap_append] at q; exact q
  refine .t 0 2 rfl rfl (.idx (l[i]) rfl rfl rfl rfl et34 (fun _ => rfl) (Int.natCast_nonneg _) (get_nat hi)) ?_
  refine .t 0 2 rfl rfl (.lm (l[i].dv) rfl) ?_
  refine .g 2 2 rfl ?_
  refine TE.frzb 5 rfl rfl rfl rfl ?_
  refine .d 0 3 rfl ?_
  refine .v 1 3 [] rfl rfl (fun _ _ => .lm (l[i].dv) rfl) ?_
  refine .t 0 3 (E := ⟨some (14, _), [(3, _)]⟩) [3] rfl rfl (fun _ _ => .co 3 (msg_po l[i]) rfl) ?_
  refine .v 1 4 [] rfl rfl (fun _ _ => .lm (sgdv l[i].r l[i].s) rfl) ?_
  refine .v 0 4 [] rfl rfl (fun _ _ => .cf (sgp_pf l[i].r l[i].s hoi.1 hoi.2) rfl) ?_
  refine .t 0 4 (E := ⟨some (18, _), [(3, .dead), (4, _)]⟩) [3, 4] rfl rfl (fun _ _ => .ap 4 rfl (flat_length (sz := 1) (enc := bdv) (fun _ => rfl) _) (flat_one (fun _ => rfl) _) (by rw [msgB_len, putF_len]; decide) (by rw [msgB_len, putF_len]; decide)) ?_
  refine .v 0 5 [4] rfl rfl (fun _ _ => .callf rfl cf36 rfl ⟨okA_c rfl (by rw [List.length_append, flat_length (sz := 1) (enc := bdv) (fun _ => rfl), flat_length (sz := 1) (enc := bdv) (fun _ => rfl), Nat.mul_one, Nat.mul_one, Nat.mul_one]), trivial⟩ (cL)) ?_
  refine .t 0 5 (E := ⟨some (20, _), [(5, _)]⟩) [5] rfl rfl (fun _ _ => .bb (hdv (hleaf l[i])) 5 rfl) ?_
  refine .t 0 6 (E := ⟨some (21, _), [(1, .dead), (6, _)]⟩) [1, 5, 6] rfl rfl (fun _ _ => .ap 6 rfl (flat_length (sz := 32) (enc := hdv) (fun _ => rfl) _) (hg_one _) (by omega) (by omega)) ?_
  refine .y 1 7 rfl (by kernel_rfl) ?_
  refine .t 0 7 rfl rfl (.bv (.int .i64 ((i + 1 : Nat) : Int)) rfl (congrArg _ (by (try dsimp only); rw [IntKind.wrap_i64]; omega))) ?_
  refine .g 1 7 rfl ?_
  refine TE.set 3 (.ow 6 ((l.take (i + 1)).map hleaf).length 32) rfl (by simp; omega) ?_
  refine TE.obj 6 (.row 26 32 (((l.take (i + 1)).map hleaf).flatMap hdv)) rfl (by rw [take_snoc' hi, List.map_append, List.flatMap_append]; rfl) ?_
  refine TE.setv 8 (.int .i64 ((i + 1 : Nat) : Int)) rfl (congrArg _ (by first | rfl | (dsimp only; first | done | rfl | omega))) ?_
  exact .rd 0 7 (swp 1 6) (swp_inj 1 6) rfl (i + 1) hi (by omega) rfl rfl rfl
 ·skip
  have hi : ¬ (i < l.length) := by have q := of_decide_eq_false h1; (try dsimp only at q); omega
  have e : (l.take (i)).map hleaf = l.map hleaf := by rw [List.take_of_length_le (by omega)]
  refine .g 2 7 rfl ?_
  refine TE.obj 1 (.row 26 32 ((l.map hleaf).flatMap hdv)) rfl (by rw [e]) ?_
  refine TE.set 2 (.ow 1 (l.map hleaf).length 32) rfl (by rw [e]) ?_
  exact .z 0 7 rfl (TE.retof rfl rfl rfl (flat_length (sz := 32) (enc := hdv) (fun _ => rfl) _) (by decide) (pl_flat pl_h _))
theorem make_pc (kn : List Kn) (hs : List Hd) (b : List En) (tk : Int) (hk : kn.length ≤ 1000000) (hh : hs.length ≤ 1000000) (hb : b.length ≤ 1000) (hc : chainK none kn) (hho : ∀ h ∈ hs, h.ok) : PC Tryz.prog 26 [slT Kn.dv 4 (kn), slT Hd.dv 69 (hs), slT En.dv 3 (b), .v (.int .i64 tk)] (.tp [.ag (makeV kn hs b tk).1.dv, slT Kn.dv 4 ((makeV kn hs b tk).2.1), .v (.bool (makeV kn hs b tk).2.2)]) := by
 obtain ⟨ok, hok⟩ : ∃ ok, (addR kn ((hs.length + 1 : Nat) : Int) b).2 = ok := ⟨_, rfl⟩
 have cA : PC Tryz.prog 50 [slT Kn.dv 4 (kn), .v (.int .i64 ((hs.length + 1 : Nat) : Int)), slT En.dv 3 (b)] (.tp [slT Kn.dv 4 (knN kn hs b), .v (.bool ok)]) := by have q := addp_pc kn ((hs.length + 1 : Nat) : Int) b (by omega) (by omega); rw [addP_right hc, hok] at q; exact q
 have hKl : (knN kn hs b).length ≤ 1048576 := by have q := addR_len kn ((hs.length + 1 : Nat) : Int) b; show (addR _ _ _).1.length ≤ _; omega
 have hKi : knIn (knN kn hs b) := kn_in (kn_chain hc hs b)
 have hI : (setR (itsK ((hs.length + 1 : Nat) : Int) (knN kn hs b)) []).length ≤ 1048576 := by have q2 := itsK_le ((hs.length + 1 : Nat) : Int) (knN kn hs b); exact Nat.le_trans (setR_len _ []) (by rw [List.length_nil]; omega)
 refine PC.enter (fn := Tryz.f26) Tryz.func26 rfl Tryz.ntmps26 rfl (fun w0 K0 => .w ?_)
 refine .t 5 1 rfl rfl (.bv (.int .i64 ((hs.length + 1 : Nat) : Int)) rfl (congrArg _ (by (try dsimp only); rw [IntKind.wrap_i64]; omega))) ?_
 refine .t 4 2 rfl rfl (.cc (cA) rfl) ?_
 cases ok with
 | true =>
  by_cases c2 : b.length < 1
  ·skip
   have hbad : badN kn hs b tk = true := by unfold badN; rw [hok]; simp [c2]
   refine .t 10 2 rfl rfl (.bv (.bool true) rfl (congrArg Value.bool (decide_eq_true (by omega)))) ?_
   refine .t 29 2 rfl rfl (.bd (zeroHd.dv ++ [.v (.slice none 0 0)]) rfl) ?_
   refine TE.sub 59 (.ag zeroPub.dv) rfl rfl (pub_nil zeroHd) ?_
   refine .g 3 2 rfl ?_
   rw [makeV_bad hbad]
   refine TE.sub 9 (slT Kn.dv 4 ([])) rfl rfl (nil_sub _ _) ?_
   exact .z 0 2 rfl (TE.rettc rfl rfl rfl)
  ·skip
   by_cases c3 : 8 < b.length
   ·skip
    have hbad : badN kn hs b tk = true := by unfold badN; rw [hok]; simp [c3]
    refine .t 10 2 rfl rfl (.bv (.bool false) rfl (congrArg Value.bool (decide_eq_false (by omega)))) ?_
    refine .t 4 2 rfl rfl (.bv (.bool true) rfl (congrArg Value.bool (decide_eq_true (by omega)))) ?_
    refine .t 24 2 rfl rfl (.bd (zeroHd.dv ++ [.v (.slice none 0 0)]) rfl) ?_
    refine TE.sub 59 (.ag zeroPub.dv) rfl rfl (pub_nil zeroHd) ?_
    refine .g 3 2 rfl ?_
    rw [makeV_bad hbad]
    refine TE.sub 9 (slT Kn.dv 4 ([])) rfl rfl (nil_sub _ _) ?_
    exact .z 0 2 rfl (TE.rettc rfl rfl rfl)
   ·skip
    by_cases c4 : tk < 0
    ·skip
     have hbad : badN kn hs b tk = true := by unfold badN; rw [hok]; simp [c4]
     refine .t 10 2 rfl rfl (.bv (.bool false) rfl (congrArg Value.bool (decide_eq_false (by omega)))) ?_
     refine .t 4 2 rfl rfl (.bv (.bool false) rfl (congrArg Value.bool (decide_eq_false (by omega)))) ?_
     refine .t 3 2 rfl rfl (.bv (.bool true) rfl (congrArg Value.bool (decide_eq_true (by omega)))) ?_
     refine .t 20 2 rfl rfl (.bd (zeroHd.dv ++ [.v (.slice none 0 0)]) rfl) ?_
     refine TE.sub 59 (.ag zeroPub.dv) rfl rfl (pub_nil zeroHd) ?_
     refine .g 3 2 rfl ?_
     rw [makeV_bad hbad]
     refine TE.sub 9 (slT Kn.dv 4 ([])) rfl rfl (nil_sub _ _) ?_
     exact .z 0 2 rfl (TE.rettc rfl rfl rfl)
    ·skip
     by_cases c5 : 1152921504606846976 < tk
     ·skip
      have hbad : badN kn hs b tk = true := by unfold badN; rw [hok]; simp [c5]
      refine .t 10 2 rfl rfl (.bv (.bool false) rfl (congrArg Value.bool (decide_eq_false (by omega)))) ?_
      refine .t 4 2 rfl rfl (.bv (.bool false) rfl (congrArg Value.bool (decide_eq_false (by omega)))) ?_
      refine .t 3 2 rfl rfl (.bv (.bool false) rfl (congrArg Value.bool (decide_eq_false (by omega)))) ?_
      refine .t 3 2 rfl rfl (.bv (.bool true) rfl (congrArg Value.bool (decide_eq_true (by omega)))) ?_
      refine .t 16 2 rfl rfl (.bd (zeroHd.dv ++ [.v (.slice none 0 0)]) rfl) ?_
      refine TE.sub 59 (.ag zeroPub.dv) rfl rfl (pub_nil zeroHd) ?_
      refine .g 3 2 rfl ?_
      rw [makeV_bad hbad]
      refine TE.sub 9 (slT Kn.dv 4 ([])) rfl rfl (nil_sub _ _) ?_
      exact .z 0 2 rfl (TE.rettc rfl rfl rfl)
     ·skip
      by_cases hp : 0 < hs.length
      ·skip
       have hp1 : hs.length - 1 < hs.length := by omega
       by_cases c7 : tk < (hs[hs.length - 1]'hp1).tk
       ·skip
        have hbad : badN kn hs b tk = true := by unfold badN; rw [hok, last_at hp]; simp [c7, hp]
        refine .t 10 2 rfl rfl (.bv (.bool false) rfl (congrArg Value.bool (decide_eq_false (by omega)))) ?_
        refine .t 4 2 rfl rfl (.bv (.bool false) rfl (congrArg Value.bool (decide_eq_false (by omega)))) ?_
        refine .t 3 2 rfl rfl (.bv (.bool false) rfl (congrArg Value.bool (decide_eq_false (by omega)))) ?_
        refine .t 3 2 rfl rfl (.bv (.bool false) rfl (congrArg Value.bool (decide_eq_false (by omega)))) ?_
        refine .t 3 2 rfl rfl (.bv (.bool true) rfl (congrArg Value.bool (decide_eq_true (by omega)))) ?_
        refine .t 4 2 rfl rfl (.bv (.int .i64 ((hs.length - 1 : Nat) : Int)) rfl (congrArg _ (by (try dsimp only); rw [IntKind.wrap_i64]; omega))) ?_
        refine .t 0 2 rfl rfl (.idx (hs[hs.length - 1]'hp1) rfl rfl rfl rfl et34 (fun _ => rfl) (Int.natCast_nonneg _) (get_nat hp1)) ?_
        refine .t 2 2 rfl rfl (.bv (.bool true) rfl (congrArg Value.bool (decide_eq_true c7))) ?_
        refine .t 3 2 rfl rfl (.bd (zeroHd.dv ++ [.v (.slice none 0 0)]) rfl) ?_
        refine TE.sub 59 (.ag zeroPub.dv) rfl rfl (pub_nil zeroHd) ?_
        refine .g 3 2 rfl ?_
        rw [makeV_bad hbad]
        refine TE.sub 9 (slT Kn.dv 4 ([])) rfl rfl (nil_sub _ _) ?_
        exact .z 0 2 rfl (TE.rettc rfl rfl rfl)
       ·skip
        have hgood : badN kn hs b tk = false := by unfold badN; rw [hok, last_at hp]; simp [c2, c3, c4, c5, c7]
        refine .t 10 2 rfl rfl (.bv (.bool false) rfl (congrArg Value.bool (decide_eq_false (by omega)))) ?_
        refine .t 4 2 rfl rfl (.bv (.bool false) rfl (congrArg Value.bool (decide_eq_false (by omega)))) ?_
        refine .t 3 2 rfl rfl (.bv (.bool false) rfl (congrArg Value.bool (decide_eq_false (by omega)))) ?_
        refine .t 3 2 rfl rfl (.bv (.bool false) rfl (congrArg Value.bool (decide_eq_false (by omega)))) ?_
        refine .t 3 2 rfl rfl (.bv (.bool true) rfl (congrArg Value.bool (decide_eq_true (by omega)))) ?_
        refine .t 4 2 rfl rfl (.bv (.int .i64 ((hs.length - 1 : Nat) : Int)) rfl (congrArg _ (by (try dsimp only); rw [IntKind.wrap_i64]; omega))) ?_
        refine .t 0 2 rfl rfl (.idx (hs[hs.length - 1]'hp1) rfl rfl rfl rfl et34 (fun _ => rfl) (Int.natCast_nonneg _) (get_nat hp1)) ?_
        refine .t 2 2 rfl rfl (.bv (.bool false) rfl (congrArg Value.bool (decide_eq_false c7))) ?_
        have hb8 : b.length ≤ 8 := by omega
        obtain ⟨rt, hrt⟩ : ∃ rt, rt = rootH (setR (itsK ((hs.length + 1 : Nat) : Int) (knN kn hs b)) []) := ⟨_, rfl⟩
        obtain ⟨lg, hlg⟩ : ∃ lg, lg = lroot (hs.map hleaf) := ⟨_, rfl⟩
        have cI := items_pc (knN kn hs b) ((hs.length + 1 : Nat) : Int) hKl hKi
        have cR := root_pf _ hI
        rw [← hrt] at cR
        rw [setA_sr] at cI
        have cL := log_pf (hs.map hleaf) (by simp; omega)
        rw [← hlg] at cL
        rw [makeV_good hgood, show headN kn hs b tk = ⟨((hs.length + 1 : Nat) : Int), tk, ((b.length : Nat) : Int), rt, lg, 0, 0⟩ by unfold headN; rw [← hrt, ← hlg]]
        clear hrt hlg hgood
        refine .t 4 2 rfl rfl (.co 2 (cle_po b (by omega)) rfl) ?_
        refine .g 1 3 rfl ?_
        refine TE.set 2 (.ow 2 b.length 3) rfl rfl ?_
        refine .t 1 3 rfl rfl (.cm 2 (.row 38 3 ((byN b).flatMap En.dv)) rfl (sorte_pm b (by omega)) rfl) ?_
        refine .t 6 3 rfl rfl (.cc (cI) rfl) ?_
        refine .t 0 3 rfl rfl (.cf (cR) rfl) ?_
        refine .t 1 3 rfl rfl (.co 3 (leaves_po hs (by omega) hho) rfl) ?_
        refine .t 0 4 rfl rfl (.callf rfl cf56 rfl ⟨okA_len rfl (flat_length (sz := 32) (enc := hdv) (fun _ => rfl) _), trivial⟩ (cL)) ?_
        refine .t 0 4 rfl rfl (.bd (Hd.dv ⟨((hs.length + 1 : Nat) : Int), tk, ((b.length : Nat) : Int), rt, lg, 0, 0⟩) rfl) ?_
        refine .g 2 4 rfl ?_
        refine TE.set 2 (.ow 2 (byN b).length 3) rfl (by rw [byN_len]) ?_
        refine TE.frz 2 (slT En.dv 3 (byN b)) rfl rfl (flat_length (sz := 3) (enc := En.dv) (fun _ => rfl) _) rfl ?_
        refine .t 0 5 rfl rfl (.lp (Hd.dv ⟨((hs.length + 1 : Nat) : Int), tk, ((b.length : Nat) : Int), rt, lg, 0, 0⟩) rfl) ?_
        refine .t 1 5 rfl rfl (.bd (Pub.dv ⟨⟨((hs.length + 1 : Nat) : Int), tk, ((b.length : Nat) : Int), rt, lg, 0, 0⟩, byN b⟩) rfl) ?_
        exact .z 4 5 rfl (TE.rettc rfl rfl rfl)
      ·skip
       have hz : hs.length = 0 := by omega
       have hgood : badN kn hs b tk = false := by unfold badN; rw [hok]; simp [c2, c3, c4, c5, hz]
       refine .t 10 2 rfl rfl (.bv (.bool false) rfl (congrArg Value.bool (decide_eq_false (by omega)))) ?_
       refine .t 4 5 rfl rfl (.bv (.bool false) rfl (congrArg Value.bool (decide_eq_false (by omega)))) ?_
       refine .t 3 5 rfl rfl (.bv (.bool false) rfl (congrArg Value.bool (decide_eq_false (by omega)))) ?_
       refine .t 3 5 rfl rfl (.bv (.bool false) rfl (congrArg Value.bool (decide_eq_false (by omega)))) ?_
       refine .t 3 5 rfl rfl (.bv (.bool false) rfl (congrArg Value.bool (decide_eq_false (by omega)))) ?_
       have hb8 : b.length ≤ 8 := by omega
       obtain ⟨rt, hrt⟩ : ∃ rt, rt = rootH (setR (itsK ((hs.length + 1 : Nat) : Int) (knN kn hs b)) []) := ⟨_, rfl⟩
       obtain ⟨lg, hlg⟩ : ∃ lg, lg = lroot (hs.map hleaf) := ⟨_, rfl⟩
       have cI := items_pc (knN kn hs b) ((hs.length + 1 : Nat) : Int) hKl hKi
       have cR := root_pf _ hI
       rw [← hrt] at cR
       rw [setA_sr] at cI
       have cL := log_pf (hs.map hleaf) (by simp; omega)
       rw [← hlg] at cL
       rw [makeV_good hgood, show headN kn hs b tk = ⟨((hs.length + 1 : Nat) : Int), tk, ((b.length : Nat) : Int), rt, lg, 0, 0⟩ by unfold headN; rw [← hrt, ← hlg]]
       clear hrt hlg hgood
       refine .t 13 5 rfl rfl (.co 5 (cle_po b (by omega)) rfl) ?_
       refine .g 1 6 rfl ?_
       refine TE.set 2 (.ow 5 b.length 3) rfl rfl ?_
       refine .t 1 6 rfl rfl (.cm 5 (.row 38 3 ((byN b).flatMap En.dv)) rfl (sorte_pm b (by omega)) rfl) ?_
       refine .t 6 6 rfl rfl (.cc (cI) rfl) ?_
       refine .t 0 6 rfl rfl (.cf (cR) rfl) ?_
       refine .t 1 6 rfl rfl (.co 6 (leaves_po hs (by omega) hho) rfl) ?_
       refine .t 0 7 rfl rfl (.callf rfl cf56 rfl ⟨okA_len rfl (flat_length (sz := 32) (enc := hdv) (fun _ => rfl) _), trivial⟩ (cL)) ?_
       refine .t 0 7 rfl rfl (.bd (Hd.dv ⟨((hs.length + 1 : Nat) : Int), tk, ((b.length : Nat) : Int), rt, lg, 0, 0⟩) rfl) ?_
       refine .g 2 7 rfl ?_
       refine TE.set 2 (.ow 5 (byN b).length 3) rfl (by rw [byN_len]) ?_
       refine TE.frz 2 (slT En.dv 3 (byN b)) rfl rfl (flat_length (sz := 3) (enc := En.dv) (fun _ => rfl) _) rfl ?_
       refine .t 0 8 rfl rfl (.lp (Hd.dv ⟨((hs.length + 1 : Nat) : Int), tk, ((b.length : Nat) : Int), rt, lg, 0, 0⟩) rfl) ?_
       refine .t 1 8 rfl rfl (.bd (Pub.dv ⟨⟨((hs.length + 1 : Nat) : Int), tk, ((b.length : Nat) : Int), rt, lg, 0, 0⟩, byN b⟩) rfl) ?_
       exact .z 4 8 rfl (TE.rettc rfl rfl rfl)
 | false =>
  have hbad : badN kn hs b tk = true := by unfold badN; rw [hok]; simp
  refine .t 40 2 rfl rfl (.bd (zeroHd.dv ++ [.v (.slice none 0 0)]) rfl) ?_
  refine TE.sub 59 (.ag zeroPub.dv) rfl rfl (pub_nil zeroHd) ?_
  refine .g 3 8 rfl ?_
  rw [makeV_bad hbad]
  refine TE.sub 9 (slT Kn.dv 4 ([])) rfl rfl (nil_sub _ _) ?_
  exact .z 0 8 rfl (TE.rettc rfl rfl rfl)
theorem build_pc (x : Int) (hx : u64I x) (kn : List Kn) (hs : List Hd) (b : List En) (tk : Int) (hk : kn.length ≤ 1000000) (hh : hs.length ≤ 1000000) (hb : b.length ≤ 1000) (hc : chainK none kn) (hho : ∀ h ∈ hs, h.ok) : PC Tryz.prog 12 [.v (.int .u64 x), slT Kn.dv 4 (kn), slT Hd.dv 69 (hs), slT En.dv 3 (b), .v (.int .i64 tk)] (.tp [.ag (buildB x kn hs b tk).1.dv, slT Kn.dv 4 ((buildB x kn hs b tk).2.1), .v (.int .i64 (buildB x kn hs b tk).2.2)]) := by
 have cN := make_pc kn hs b tk hk hh hb hc hho
 refine PC.enter (fn := Tryz.f12) Tryz.func12 rfl Tryz.ntmps12 rfl (fun w0 K0 => .w ?_)
 by_cases hbad : badN kn hs b tk = true
 ·skip
  rw [makeV_bad hbad] at cN
  refine .t 7 1 rfl rfl (.cc (cN) rfl) ?_
  refine .t 11 2 rfl rfl (.bd (zeroHd.dv ++ [.v (.slice none 0 0)]) rfl) ?_
  refine TE.sub 27 (.ag zeroPub.dv) rfl rfl (pub_nil zeroHd) ?_
  refine .g 3 3 rfl ?_
  rw [show buildB x kn hs b tk = (zeroPub, [], 23) from if_pos hbad]
  refine TE.sub 11 (slT Kn.dv 4 ([])) rfl rfl (nil_sub _ _) ?_
  exact .z 0 3 rfl (TE.rettc rfl rfl rfl)
 ·skip
  have hgood : badN kn hs b tk = false := by rw [Bool.not_eq_true] at hbad; exact hbad
  rw [makeV_good hgood] at cN
  obtain ⟨hd, hhd⟩ : ∃ hd, hd = headN kn hs b tk := ⟨_, rfl⟩
  rw [← hhd] at cN
  refine .t 7 1 rfl rfl (.cc (cN) rfl) ?_
  refine .t 13 3 rfl rfl (.lp (hd.dv) rfl) ?_
  refine .t 0 4 rfl rfl (.cf (sign_pf x hd hx) rfl) ?_
  refine .g 2 4 rfl ?_
  refine TE.obj 3 (.box 48 (Pub.dv ⟨signH x hd, byN b⟩)) rfl rfl ?_
  refine .t 0 4 rfl rfl (.lp (Pub.dv ⟨signH x hd, byN b⟩) rfl) ?_
  rw [show buildB x kn hs b tk = (⟨signH x (headN kn hs b tk), byN b⟩, knN kn hs b, 0) from if_neg (by rw [hgood]; simp), ← hhd]
  exact .z 4 4 rfl (TE.rettc rfl rfl rfl)
end Go.Proofs.YtmjokdhhniblgaaGreat

