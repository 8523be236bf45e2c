import Derived.Test.YtdjcclcejmeheaaGreatZHc
import Derived.Test.YtdjcclcejmeheaaGreatZEv
/-
  What bytes are read as a head.
-/
namespace Go.Proofs.YtdjcclcejmeheaaGreat
set_option linter.unusedVariables false
set_option linter.unusedSimpArgs false
open Go.RowKit Pl
set_option maxRecDepth 100000
set_option maxHeartbeats 3200000
theorem cf63 : cfn Tryz.prog 63 = true := by kernel_rfl
theorem hread_pc (l : List UInt8) (hl : l.length ≤ 1099511627776) : PC Tryz.prog 26 [slT bdv 1 l] (.tp [.ag (readH intI l).1.dv, .v (.int .i64 (readH intI l).2)]) := by
 refine PC.enter (fn := Tryz.f26) Tryz.func26 rfl Tryz.ntmps26 rfl (fun w0 K0 => .w ?_)
 refine .g 2 1 rfl ?_
 refine TE.obj 1 (.box 45 zeroHd.dv) rfl rfl ?_
 refine .q 4 2 rfl rfl (fun h1 => ?_) (fun h1 => ?_)
 ·skip
  have h1 : 512 < l.length := by have q := of_decide_eq_true h1; (try dsimp only at q); omega
  refine .t 0 2 rfl rfl (.bd (zeroHd.dv) rfl) ?_
  rw [← readH_near]
  rw [readH_long h1]
  exact .z 2 2 rfl (TE.rettc rfl rfl rfl)
 ·skip
  have h1 : ¬ (512 < l.length) := by have q := of_decide_eq_false h1; (try dsimp only at q); omega
  refine .q 4 2 rfl rfl (fun h2 => ?_) (fun h2 => ?_)
  ·skip
   have h2 : l.length < 105 := by have q := of_decide_eq_true h2; (try dsimp only at q); omega
   refine .t 0 2 rfl rfl (.bd (zeroHd.dv) rfl) ?_
   rw [← readH_near]
   rw [readH_short h2]
   exact .z 2 2 rfl (TE.rettc rfl rfl rfl)
  ·skip
   have h2 : ¬ (l.length < 105) := by have q := of_decide_eq_false h2; (try dsimp only at q); omega
   have hp : 0 < l.length := by omega
   have g0 : l.getD 0 0 = l[0] := by rw [List.getD_eq_getElem?_getD, List.getElem?_eq_getElem hp]; rfl
   refine .g 4 2 rfl ?_
   refine .case 20 rfl (fun h3 => ?_) (fun h3 => ?_)
   ·skip
    have h4 : 105 < l.length := by have q := of_decide_eq_true h3; (try dsimp only at q); omega
    have h3 : 105 < l.length ∨ ¬ l.getD 0 0 = 72 := .inl h4
    refine .t 7 2 rfl rfl (.bd (zeroHd.dv) rfl) ?_
    rw [← readH_near]
    rw [readH_bytes h1 h2 h3]
    exact .z 2 2 rfl (TE.rettc rfl rfl rfl)
   ·skip
    have h4 : ¬ (105 < l.length) := by have q := of_decide_eq_false h3; (try dsimp only at q); omega
    refine .t 1 2 rfl rfl (.idx (l[0]'hp) rfl rfl rfl rfl et22 (fun _ => rfl) (by decide) (List.getElem?_eq_getElem hp)) ?_
    refine .q 4 2 rfl rfl (fun h5 => ?_) (fun h5 => ?_)
    ·skip
     have h3 : 105 < l.length ∨ ¬ l.getD 0 0 = 72 := .inr (by rw [g0]; intro q; rw [q] at h5; exact absurd h5 (by decide))
     refine .t 0 2 rfl rfl (.bd (zeroHd.dv) rfl) ?_
     rw [← readH_near]
     rw [readH_bytes h1 h2 h3]
     exact .z 2 2 rfl (TE.rettc rfl rfl rfl)
    ·skip
     have h5 : l.getD 0 0 = 72 := by rw [g0]; have z : ((l[0].toNat : Nat) : Int) = 72 := (by simpa using h5); exact UInt8.toNat_inj.1 (by show l[0].toNat = 72; omega)
     refine .t 1 2 rfl rfl (.slice rfl rfl rfl rfl rfl et22 (fun _ => rfl) (by decide) (by omega) (Int.le_refl _)) ?_
     refine .sub 28 (slT bdv 1 (l.drop 1)) rfl rfl (fun K w u h => by have e : ((l.take (l.length : Int).toNat).drop (1 : Int).toNat) = l.drop 1 := (by simp); rw [← e]; exact h) ?_
     refine .t 0 2 rfl rfl (.callb 2 rfl rfl cf63 rfl ⟨trivial, trivial⟩ (new_pb (l.drop 1) (by rw [List.length_drop]; omega))) ?_
     refine .g 1 3 rfl ?_
     obtain ⟨s0, he0⟩ : ∃ s0 : RS, s0 = (l.drop 1, 0) := ⟨_, rfl⟩
     have hs0 : s0.1.length ≤ 1099511627776 := by rw [he0, List.length_drop]; omega
     refine TE.obj 2 (.box 166 (rdC (s0).1 (s0).2)) rfl (by (rw [he0]); try rfl) ?_
     refine .t 1 3 rfl rfl (.cm 2 (.box 166 (rdC ((rdS s0 8)).1 ((rdS s0 8)).2)) rfl (num_s s0 hs0) rfl) ?_
     refine .t 0 3 rfl rfl (.cf (near_pf (rdN s0) (rdN_bd _)) rfl) ?_
     refine .t 1 3 rfl rfl (.cm 2 (.box 166 (rdC ((rdS (rdS s0 8) 8)).1 ((rdS (rdS s0 8) 8)).2)) rfl (num_s (rdS s0 8) (Nat.le_trans (rdS_le _ _) hs0)) rfl) ?_
     refine .t 0 3 rfl rfl (.cf (near_pf (rdN (rdS s0 8)) (rdN_bd _)) rfl) ?_
     refine .t 1 3 rfl rfl (.cm 2 (.box 166 (rdC ((rdS (rdS (rdS s0 8) 8) 8)).1 ((rdS (rdS (rdS s0 8) 8) 8)).2)) rfl (num_s (rdS (rdS s0 8) 8) (Nat.le_trans (rdS_le _ _) (Nat.le_trans (rdS_le _ _) hs0))) rfl) ?_
     refine .t 0 3 rfl rfl (.cf (near_pf (rdN (rdS (rdS s0 8) 8)) (rdN_bd _)) rfl) ?_
     refine .t 1 3 rfl rfl (.cm 2 (.box 166 (rdC ((rdS (rdS (rdS (rdS s0 8) 8) 8) 32)).1 ((rdS (rdS (rdS (rdS s0 8) 8) 8) 32)).2)) rfl (hash_s (rdS (rdS (rdS s0 8) 8) 8) (Nat.le_trans (rdS_le _ _) (Nat.le_trans (rdS_le _ _) (Nat.le_trans (rdS_le _ _) hs0)))) rfl) ?_
     refine .t 1 3 rfl rfl (.cm 2 (.box 166 (rdC ((rdS (rdS (rdS (rdS (rdS s0 8) 8) 8) 32) 32)).1 ((rdS (rdS (rdS (rdS (rdS s0 8) 8) 8) 32) 32)).2)) rfl (hash_s (rdS (rdS (rdS (rdS s0 8) 8) 8) 32) (Nat.le_trans (rdS_le _ _) (Nat.le_trans (rdS_le _ _) (Nat.le_trans (rdS_le _ _) (Nat.le_trans (rdS_le _ _) hs0))))) rfl) ?_
     refine .t 0 3 rfl rfl (.bd (Hd.dv ⟨nearI (rdN s0), nearI (rdN (rdS s0 8)), nearI (rdN (rdS (rdS s0 8) 8)), rdH (rdS (rdS (rdS s0 8) 8) 8), rdH (rdS (rdS (rdS (rdS s0 8) 8) 8) 32), 0, 0⟩) rfl) ?_
     refine .t 3 3 rfl rfl (.cm 2 (.box 166 (rdC ((rdS (rdS (rdS (rdS (rdS (rdS s0 8) 8) 8) 32) 32) 8)).1 ((rdS (rdS (rdS (rdS (rdS (rdS s0 8) 8) 8) 32) 32) 8)).2)) rfl (num_s (rdS (rdS (rdS (rdS (rdS s0 8) 8) 8) 32) 32) (Nat.le_trans (rdS_le _ _) (Nat.le_trans (rdS_le _ _) (Nat.le_trans (rdS_le _ _) (Nat.le_trans (rdS_le _ _) (Nat.le_trans (rdS_le _ _) hs0)))))) rfl) ?_
     refine .t 1 4 rfl rfl (.cm 2 (.box 166 (rdC ((rdS (rdS (rdS (rdS (rdS (rdS (rdS s0 8) 8) 8) 32) 32) 8) 8)).1 ((rdS (rdS (rdS (rdS (rdS (rdS (rdS s0 8) 8) 8) 32) 32) 8) 8)).2)) rfl (num_s (rdS (rdS (rdS (rdS (rdS (rdS s0 8) 8) 8) 32) 32) 8) (Nat.le_trans (rdS_le _ _) (Nat.le_trans (rdS_le _ _) (Nat.le_trans (rdS_le _ _) (Nat.le_trans (rdS_le _ _) (Nat.le_trans (rdS_le _ _) (Nat.le_trans (rdS_le _ _) hs0))))))) rfl) ?_
     refine .t 0 4 rfl rfl (.bd (sgdv (rdN (rdS (rdS (rdS (rdS (rdS s0 8) 8) 8) 32) 32)) (rdN (rdS (rdS (rdS (rdS (rdS (rdS s0 8) 8) 8) 32) 32) 8))) rfl) ?_
     refine .g 2 4 rfl ?_
     refine TE.obj 3 (.box 45 (hdF nearI s0).dv) rfl rfl ?_
     refine .t 0 4 rfl rfl (.lp ((hdF nearI s0).dv) rfl) ?_
     refine .t 0 4 rfl rfl (.cf (right_pf (hdF nearI s0)) rfl) ?_
     refine .q 1 4 rfl rfl (fun h6 => ?_) (fun h6 => ?_)
     ·skip
      have hR : rightH (hdF nearI s0) = false := by simpa using h6
      refine .t 0 4 rfl rfl (.bd (zeroHd.dv) rfl) ?_
      rw [← readH_near]
      rw [readH_form h2 h4 h5 (he0 ▸ hR)]
      exact .z 2 4 rfl (TE.rettc rfl rfl rfl)
     ·skip
      have hR : rightH (hdF nearI s0) = true := by simpa using h6
      refine .t 0 4 rfl rfl (.lp ((hdF nearI s0).dv) rfl) ?_
      rw [← readH_near]
      rw [readH_ok h2 h4 h5 (he0 ▸ hR), ← he0]
      exact .z 2 4 rfl (TE.rettc rfl rfl rfl)
theorem rhread_pc (l : List UInt8) (hl : l.length ≤ 1099511627776) : PC Tryz.prog 34 [slT bdv 1 l] (.tp [.ag (readH intI l).1.dv, .v (.int .i64 (readH intI l).2)]) := by
 refine PC.enter (fn := Tryz.f34) Tryz.func34 rfl Tryz.ntmps34 rfl (fun w0 K0 => .w ?_)
 refine .g 2 1 rfl ?_
 refine TE.obj 1 (.box 45 zeroHd.dv) rfl rfl ?_
 refine .q 4 2 rfl rfl (fun h1 => ?_) (fun h1 => ?_)
 ·skip
  have h1 : 512 < l.length := by have q := of_decide_eq_true h1; (try dsimp only at q); omega
  refine .t 0 2 rfl rfl (.bd (zeroHd.dv) rfl) ?_
  rw [readH_long h1]
  exact .z 2 2 rfl (TE.rettc rfl rfl rfl)
 ·skip
  have h1 : ¬ (512 < l.length) := by have q := of_decide_eq_false h1; (try dsimp only at q); omega
  refine .q 4 2 rfl rfl (fun h2 => ?_) (fun h2 => ?_)
  ·skip
   have h2 : l.length < 105 := by have q := of_decide_eq_true h2; (try dsimp only at q); omega
   refine .t 0 2 rfl rfl (.bd (zeroHd.dv) rfl) ?_
   rw [readH_short h2]
   exact .z 2 2 rfl (TE.rettc rfl rfl rfl)
  ·skip
   have h2 : ¬ (l.length < 105) := by have q := of_decide_eq_false h2; (try dsimp only at q); omega
   have hp : 0 < l.length := by omega
   have g0 : l.getD 0 0 = l[0] := by rw [List.getD_eq_getElem?_getD, List.getElem?_eq_getElem hp]; rfl
   refine .g 4 2 rfl ?_
   refine .case 20 rfl (fun h3 => ?_) (fun h3 => ?_)
   ·skip
    have h4 : 105 < l.length := by have q := of_decide_eq_true h3; (try dsimp only at q); omega
    have h3 : 105 < l.length ∨ ¬ l.getD 0 0 = 72 := .inl h4
    refine .t 7 2 rfl rfl (.bd (zeroHd.dv) rfl) ?_
    rw [readH_bytes h1 h2 h3]
    exact .z 2 2 rfl (TE.rettc rfl rfl rfl)
   ·skip
    have h4 : ¬ (105 < l.length) := by have q := of_decide_eq_false h3; (try dsimp only at q); omega
    refine .t 1 2 rfl rfl (.idx (l[0]'hp) rfl rfl rfl rfl et22 (fun _ => rfl) (by decide) (List.getElem?_eq_getElem hp)) ?_
    refine .q 4 2 rfl rfl (fun h5 => ?_) (fun h5 => ?_)
    ·skip
     have h3 : 105 < l.length ∨ ¬ l.getD 0 0 = 72 := .inr (by rw [g0]; intro q; rw [q] at h5; exact absurd h5 (by decide))
     refine .t 0 2 rfl rfl (.bd (zeroHd.dv) rfl) ?_
     rw [readH_bytes h1 h2 h3]
     exact .z 2 2 rfl (TE.rettc rfl rfl rfl)
    ·skip
     have h5 : l.getD 0 0 = 72 := by rw [g0]; have z : ((l[0].toNat : Nat) : Int) = 72 := (by simpa using h5); exact UInt8.toNat_inj.1 (by show l[0].toNat = 72; omega)
     refine .t 1 2 rfl rfl (.slice rfl rfl rfl rfl rfl et22 (fun _ => rfl) (by decide) (by omega) (Int.le_refl _)) ?_
     refine .sub 28 (slT bdv 1 (l.drop 1)) rfl rfl (fun K w u h => by have e : ((l.take (l.length : Int).toNat).drop (1 : Int).toNat) = l.drop 1 := (by simp); rw [← e]; exact h) ?_
     refine .g 3 2 rfl ?_
     obtain ⟨s0, he0⟩ : ∃ s0 : RS, s0 = (l.drop 1, 0) := ⟨_, rfl⟩
     have hs0 : s0.1.length ≤ 1099511627776 := by rw [he0, List.length_drop]; omega
     refine TE.obj 2 (.box 140 (rdC (s0).1 (s0).2)) rfl (by (rw [he0]); try rfl) ?_
     refine .g 1 3 rfl ?_
     refine TE.obj 3 (.box 45 zeroHd.dv) rfl rfl ?_
     refine .t 1 4 rfl rfl (.cm 2 (.box 140 (rdC ((rdS s0 8)).1 ((rdS s0 8)).2)) rfl (rint_s s0 hs0) rfl) ?_
     refine .g 2 4 rfl ?_
     refine TE.obj 3 (.box 45 (Hd.dv ⟨intI (rdN s0), 0, 0, zeroH, zeroH, 0, 0⟩)) rfl rfl ?_
     refine .t 1 4 rfl rfl (.cm 2 (.box 140 (rdC ((rdS (rdS s0 8) 8)).1 ((rdS (rdS s0 8) 8)).2)) rfl (rint_s (rdS s0 8) (Nat.le_trans (rdS_le _ _) hs0)) rfl) ?_
     refine .g 2 4 rfl ?_
     refine TE.obj 3 (.box 45 (Hd.dv ⟨intI (rdN s0), intI (rdN (rdS s0 8)), 0, zeroH, zeroH, 0, 0⟩)) rfl rfl ?_
     refine .t 1 4 rfl rfl (.cm 2 (.box 140 (rdC ((rdS (rdS (rdS s0 8) 8) 8)).1 ((rdS (rdS (rdS s0 8) 8) 8)).2)) rfl (rint_s (rdS (rdS s0 8) 8) (Nat.le_trans (rdS_le _ _) (Nat.le_trans (rdS_le _ _) hs0))) rfl) ?_
     refine .g 2 4 rfl ?_
     refine TE.obj 3 (.box 45 (Hd.dv ⟨intI (rdN s0), intI (rdN (rdS s0 8)), intI (rdN (rdS (rdS s0 8) 8)), zeroH, zeroH, 0, 0⟩)) rfl rfl ?_
     refine .t 1 4 rfl rfl (.cm 2 (.box 140 (rdC ((rdS (rdS (rdS (rdS s0 8) 8) 8) 32)).1 ((rdS (rdS (rdS (rdS s0 8) 8) 8) 32)).2)) rfl (rhash_s (rdS (rdS (rdS s0 8) 8) 8) (Nat.le_trans (rdS_le _ _) (Nat.le_trans (rdS_le _ _) (Nat.le_trans (rdS_le _ _) hs0)))) rfl) ?_
     refine .g 2 4 rfl ?_
     refine TE.obj 3 (.box 45 (Hd.dv ⟨intI (rdN s0), intI (rdN (rdS s0 8)), intI (rdN (rdS (rdS s0 8) 8)), rdH (rdS (rdS (rdS s0 8) 8) 8), zeroH, 0, 0⟩)) rfl rfl ?_
     refine .t 1 4 rfl rfl (.cm 2 (.box 140 (rdC ((rdS (rdS (rdS (rdS (rdS s0 8) 8) 8) 32) 32)).1 ((rdS (rdS (rdS (rdS (rdS s0 8) 8) 8) 32) 32)).2)) rfl (rhash_s (rdS (rdS (rdS (rdS s0 8) 8) 8) 32) (Nat.le_trans (rdS_le _ _) (Nat.le_trans (rdS_le _ _) (Nat.le_trans (rdS_le _ _) (Nat.le_trans (rdS_le _ _) hs0))))) rfl) ?_
     refine .g 2 4 rfl ?_
     refine TE.obj 3 (.box 45 (Hd.dv ⟨intI (rdN s0), intI (rdN (rdS s0 8)), intI (rdN (rdS (rdS s0 8) 8)), rdH (rdS (rdS (rdS s0 8) 8) 8), rdH (rdS (rdS (rdS (rdS s0 8) 8) 8) 32), 0, 0⟩)) rfl rfl ?_
     refine .t 1 4 rfl rfl (.cm 2 (.box 140 (rdC ((rdS (rdS (rdS (rdS (rdS (rdS s0 8) 8) 8) 32) 32) 8)).1 ((rdS (rdS (rdS (rdS (rdS (rdS s0 8) 8) 8) 32) 32) 8)).2)) rfl (rnum_s (rdS (rdS (rdS (rdS (rdS s0 8) 8) 8) 32) 32) (Nat.le_trans (rdS_le _ _) (Nat.le_trans (rdS_le _ _) (Nat.le_trans (rdS_le _ _) (Nat.le_trans (rdS_le _ _) (Nat.le_trans (rdS_le _ _) hs0)))))) rfl) ?_
     refine .g 3 4 rfl ?_
     refine TE.obj 3 (.box 45 (Hd.dv ⟨intI (rdN s0), intI (rdN (rdS s0 8)), intI (rdN (rdS (rdS s0 8) 8)), rdH (rdS (rdS (rdS s0 8) 8) 8), rdH (rdS (rdS (rdS (rdS s0 8) 8) 8) 32), rdN (rdS (rdS (rdS (rdS (rdS s0 8) 8) 8) 32) 32), 0⟩)) rfl rfl ?_
     refine .t 1 4 rfl rfl (.cm 2 (.box 140 (rdC ((rdS (rdS (rdS (rdS (rdS (rdS (rdS s0 8) 8) 8) 32) 32) 8) 8)).1 ((rdS (rdS (rdS (rdS (rdS (rdS (rdS s0 8) 8) 8) 32) 32) 8) 8)).2)) rfl (rnum_s (rdS (rdS (rdS (rdS (rdS (rdS s0 8) 8) 8) 32) 32) 8) (Nat.le_trans (rdS_le _ _) (Nat.le_trans (rdS_le _ _) (Nat.le_trans (rdS_le _ _) (Nat.le_trans (rdS_le _ _) (Nat.le_trans (rdS_le _ _) (Nat.le_trans (rdS_le _ _) hs0))))))) rfl) ?_
     refine .g 3 4 rfl ?_
     refine TE.obj 3 (.box 45 (Hd.dv ⟨intI (rdN s0), intI (rdN (rdS s0 8)), intI (rdN (rdS (rdS s0 8) 8)), rdH (rdS (rdS (rdS s0 8) 8) 8), rdH (rdS (rdS (rdS (rdS s0 8) 8) 8) 32), rdN (rdS (rdS (rdS (rdS (rdS s0 8) 8) 8) 32) 32), rdN (rdS (rdS (rdS (rdS (rdS (rdS s0 8) 8) 8) 32) 32) 8)⟩)) rfl rfl ?_
     refine .t 0 4 rfl rfl (.lp ((hdF intI s0).dv) rfl) ?_
     refine .t 0 4 rfl rfl (.cf (rright_pf (hdF intI s0)) rfl) ?_
     refine .q 1 4 rfl rfl (fun h6 => ?_) (fun h6 => ?_)
     ·skip
      have hR : rightH (hdF intI s0) = false := by simpa using h6
      refine .t 0 4 rfl rfl (.bd (zeroHd.dv) rfl) ?_
      rw [readH_form h2 h4 h5 (he0 ▸ hR)]
      exact .z 2 4 rfl (TE.rettc rfl rfl rfl)
     ·skip
      have hR : rightH (hdF intI s0) = true := by simpa using h6
      refine .t 0 4 rfl rfl (.lp ((hdF intI s0).dv) rfl) ?_
      rw [readH_ok h2 h4 h5 (he0 ▸ hR), ← he0]
      exact .z 2 4 rfl (TE.rettc rfl rfl rfl)
end Go.Proofs.YtdjcclcejmeheaaGreat

