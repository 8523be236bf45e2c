import Derived.Test.YtdjcclcejmeheaaGreatZKb
import Derived.Test.YtdjcclcejmeheaaGreatZEv
/-
  What bytes are read as a promise.
-/
namespace Go.Proofs.YtdjcclcejmeheaaGreat
set_option linter.unusedVariables false
set_option linter.unusedSimpArgs false
open Go.RowKit Pl
set_option maxRecDepth 100000
set_option maxHeartbeats 3200000
theorem pnear_pf (n : Int) (hn : u64I n) : PF Tryz.prog 65 [.v (.int .u64 n)] (.v (.int .i64 (nearI n))) := by
 refine PF.enter (fn := Tryz.f65) Tryz.func65 rfl Tryz.ntmps65 rfl (fun w0 => .w ?_)
 refine .q 3 1 rfl rfl (fun h1 => ?_) (fun h1 => ?_)
 ·skip
  have hb : 1152921504606846976 < n := of_decide_eq_true h1
  have e : nearI n = -1 := if_pos hb
  rw [e]
  exact .z 1 1 rfl (TE.retf rfl rfl rfl trivial)
 ·skip
  have hb : ¬ 1152921504606846976 < n := of_decide_eq_false h1
  have e : nearI n = n := if_neg hb
  refine .t 1 1 rfl rfl (.cv (n) rfl (by rw [IntKind.wrap_i64]; have := hn.1; omega)) ?_
  rw [e]
  exact .z 1 1 rfl (TE.retf rfl rfl rfl trivial)
theorem pread_pc (l : List UInt8) (hl : l.length ≤ 1099511627776) : PC Tryz.prog 25 [slT bdv 1 l] (.tp [.ag (readQ intI l).1.dv, .v (.int .i64 (readQ intI l).2)]) := by
 refine PC.enter (fn := Tryz.f25) Tryz.func25 rfl Tryz.ntmps25 rfl (fun w0 K0 => .w ?_)
 refine .g 2 1 rfl ?_
 refine TE.obj 1 (.box 73 zeroPm.dv) rfl rfl ?_
 refine .q 4 2 rfl rfl (fun h1 => ?_) (fun h1 => ?_)
 ·skip
  have h1 : 512 < l.length := by have q := of_decide_eq_true h1; (try dsimp only at q); omega
  refine .t 0 2 rfl rfl (.bd (zeroPm.dv) rfl) ?_
  rw [← readQ_near]
  rw [readQ_long h1]
  exact .z 2 2 rfl (TE.rettc rfl rfl rfl)
 ·skip
  have h1 : ¬ (512 < l.length) := by have q := of_decide_eq_false h1; (try dsimp only at q); omega
  refine .q 4 2 rfl rfl (fun h2 => ?_) (fun h2 => ?_)
  ·skip
   have h2 : l.length = 0 := by have q := of_decide_eq_true h2; (try dsimp only at q); omega
   refine .t 0 2 rfl rfl (.bd (zeroPm.dv) rfl) ?_
   rw [← readQ_near]
   rw [readQ_none h2]
   exact .z 2 2 rfl (TE.rettc rfl rfl rfl)
  ·skip
   have h2 : ¬ l.length = 0 := by have q := of_decide_eq_false h2; (try dsimp only at q); omega
   have hp : 0 < l.length := by omega
   have g0 : l.getD 0 0 = l[0] := by rw [List.getD_eq_getElem?_getD, List.getElem?_eq_getElem hp]; rfl
   refine .t 1 2 rfl rfl (.idx (l[0]'hp) rfl rfl rfl rfl et22 (fun _ => rfl) (by decide) (List.getElem?_eq_getElem hp)) ?_
   refine .q 3 2 rfl rfl (fun h3 => ?_) (fun h3 => ?_)
   ·skip
    have h3 : ¬ l.getD 0 0 = 80 := by rw [g0]; intro q; rw [q] at h3; exact absurd h3 (by decide)
    refine .t 0 2 rfl rfl (.bd (zeroPm.dv) rfl) ?_
    rw [← readQ_near]
    rw [readQ_bytes h1 h2 h3]
    exact .z 2 2 rfl (TE.rettc rfl rfl rfl)
   ·skip
    have h3 : l.getD 0 0 = 80 := by rw [g0]; have z : ((l[0].toNat : Nat) : Int) = 80 := (by simpa using h3); exact UInt8.toNat_inj.1 (by show l[0].toNat = 80; omega)
    refine .t 1 2 rfl rfl (.slice rfl rfl rfl rfl rfl et22 (fun _ => rfl) (by decide) (by omega) (Int.le_refl _)) ?_
    refine .sub 24 (slT bdv 1 (l.drop 1)) rfl rfl (fun K w u h => by have e : ((l.take (l.length : Int).toNat).drop (1 : Int).toNat) = l.drop 1 := (by simp); rw [← e]; exact h) ?_
    refine .t 0 2 rfl rfl (.callb 2 rfl rfl cf63 rfl ⟨trivial, trivial⟩ (new_pb (l.drop 1) (by rw [List.length_drop]; omega))) ?_
    refine .g 1 3 rfl ?_
    obtain ⟨s0, he0⟩ : ∃ s0 : RS, s0 = (l.drop 1, 0) := ⟨_, rfl⟩
    have hs0 : s0.1.length ≤ 1099511627776 := by rw [he0, List.length_drop]; omega
    refine TE.obj 2 (.box 166 (rdC (s0).1 (s0).2)) rfl (by (rw [he0]); try rfl) ?_
    refine .d 0 3 rfl ?_
    refine .t 1 3 (E := ⟨some (27, _), [(2, _)]⟩) [2] rfl rfl (fun _ _ => .cm 2 (.box 166 (rdC (pmA s0 0).1 (pmA s0 0).2)) rfl (lump_s s0 32 hs0 (by decide)) rfl) ?_
    refine .v 0 3 [] rfl rfl (fun _ _ => .convbd (l := (rdL s0 32).1) rfl rfl u822 us9) ?_
    refine .t 1 3 (E := ⟨some (30, _), [(2, _)]⟩) [2] rfl rfl (fun _ _ => .cm 2 (.box 166 (rdC (pmA s0 1).1 (pmA s0 1).2)) rfl (num_s (pmA s0 0) (Nat.le_trans (pmA_le s0 0) hs0)) rfl) ?_
    refine .v 0 3 [] rfl rfl (fun _ _ => .cf (pnear_pf (rdN (pmA s0 0)) (rdN_bd _)) rfl) ?_
    refine .t 1 3 (E := ⟨some (33, _), [(2, _)]⟩) [2] rfl rfl (fun _ _ => .cm 2 (.box 166 (rdC (pmA s0 2).1 (pmA s0 2).2)) rfl (num_s (pmA s0 1) (Nat.le_trans (pmA_le s0 1) hs0)) rfl) ?_
    refine .v 0 3 [] rfl rfl (fun _ _ => .bd (En.dv ⟨(rdL s0 32).1, nearI (rdN (pmA s0 0)), rdN (pmA s0 1)⟩) rfl) ?_
    refine .y 2 3 rfl (by kernel_rfl) ?_
    refine TE.obj 3 (.box 35 (En.dv ⟨(rdL s0 32).1, nearI (rdN (pmA s0 0)), rdN (pmA s0 1)⟩)) rfl rfl ?_
    refine .d 0 4 rfl ?_
    refine .v 0 4 [3] rfl rfl (fun _ _ => .lp (En.dv ⟨(rdL s0 32).1, nearI (rdN (pmA s0 0)), rdN (pmA s0 1)⟩) rfl) ?_
    refine .t 1 4 (E := ⟨some (37, _), [(2, _)]⟩) [2] rfl rfl (fun _ _ => .cm 2 (.box 166 (rdC (pmA s0 3).1 (pmA s0 3).2)) rfl (num_s (pmA s0 2) (Nat.le_trans (pmA_le s0 2) hs0)) rfl) ?_
    refine .v 0 4 [] rfl rfl (fun _ _ => .cf (pnear_pf (rdN (pmA s0 2)) (rdN_bd _)) rfl) ?_
    refine .t 1 4 (E := ⟨some (40, _), [(2, _)]⟩) [2] rfl rfl (fun _ _ => .cm 2 (.box 166 (rdC (pmA s0 4).1 (pmA s0 4).2)) rfl (num_s (pmA s0 3) (Nat.le_trans (pmA_le s0 3) hs0)) rfl) ?_
    refine .v 0 4 [] rfl rfl (fun _ _ => .cf (pnear_pf (rdN (pmA s0 3)) (rdN_bd _)) rfl) ?_
    refine .v 0 4 [] rfl rfl (fun _ _ => .bd (Pm.dv (⟨⟨(rdL s0 32).1, nearI (rdN (pmA s0 0)), rdN (pmA s0 1)⟩, nearI (rdN (pmA s0 2)), nearI (rdN (pmA s0 3)), 0, 0⟩ : Pm)) rfl) ?_
    refine .y 2 4 rfl (by kernel_rfl) ?_
    refine TE.obj 4 (.box 73 (Pm.dv (⟨⟨(rdL s0 32).1, nearI (rdN (pmA s0 0)), rdN (pmA s0 1)⟩, nearI (rdN (pmA s0 2)), nearI (rdN (pmA s0 3)), 0, 0⟩ : Pm))) rfl rfl ?_
    refine .t 1 5 rfl rfl (.cm 2 (.box 166 (rdC (pmA s0 5).1 (pmA s0 5).2)) rfl (num_s (pmA s0 4) (Nat.le_trans (pmA_le s0 4) hs0)) rfl) ?_
    refine .t 1 5 rfl rfl (.cm 2 (.box 166 (rdC (pmA s0 6).1 (pmA s0 6).2)) rfl (num_s (pmA s0 5) (Nat.le_trans (pmA_le s0 5) hs0)) rfl) ?_
    refine .t 0 5 rfl rfl (.bd (sgdv (rdN (pmA s0 4)) (rdN (pmA s0 5))) rfl) ?_
    refine .g 2 5 rfl ?_
    refine TE.obj 4 (.box 73 (pmF nearI s0).dv) rfl rfl ?_
    refine .t 1 5 rfl rfl (.cm 2 (.box 166 (rdC (pmA s0 6).1 (pmA s0 6).2)) rfl (err_pm (pmA s0 6).1 (pmA s0 6).2) rfl) ?_
    refine .q 2 5 rfl rfl (fun h4 => ?_) (fun h4 => ?_)
    ·skip
     have h4 : ¬ (pmA s0 6).2 = 0 := by simpa using h4
     refine .t 0 5 rfl rfl (.bd (zeroPm.dv) rfl) ?_
     refine .t 1 5 rfl rfl (.cm 2 (.box 166 (rdC (pmA s0 6).1 (pmA s0 6).2)) rfl (err_pm (pmA s0 6).1 (pmA s0 6).2) rfl) ?_
     rw [← readQ_near]
     rw [readQ_err h1 h2 h3 (he0 ▸ h4), ← he0]
     exact .z 2 5 rfl (TE.rettc rfl rfl rfl)
    ·skip
     have h4 : (pmA s0 6).2 = 0 := by simpa using h4
     refine .t 1 5 rfl rfl (.cm 2 (.box 166 (rdC (pmA s0 6).1 (pmA s0 6).2)) rfl (left_pm (pmA s0 6).1 (pmA s0 6).2) rfl) ?_
     refine .q 2 5 rfl rfl (fun h5 => ?_) (fun h5 => ?_)
     ·skip
      have h5 : 0 < (pmA s0 6).1.length := by have q := of_decide_eq_true h5; (try dsimp only at q); omega
      refine .t 0 5 rfl rfl (.bd (zeroPm.dv) rfl) ?_
      rw [← readQ_near]
      rw [readQ_left h1 h2 h3 (he0 ▸ h4) (he0 ▸ h5)]
      exact .z 2 5 rfl (TE.rettc rfl rfl rfl)
     ·skip
      have h5 : ¬ (0 < (pmA s0 6).1.length) := by have q := of_decide_eq_false h5; (try dsimp only at q); omega
      refine .t 0 5 rfl rfl (.lp ((pmF nearI s0).dv) rfl) ?_
      refine .t 0 5 rfl rfl (.cf (prt_pf (pmF nearI s0)) rfl) ?_
      refine .q 2 5 rfl rfl (fun h6 => ?_) (fun h6 => ?_)
      ·skip
       have h6 : rightQ (pmF nearI s0) = false := by simpa using h6
       refine .t 0 5 rfl rfl (.bd (zeroPm.dv) rfl) ?_
       rw [← readQ_near]
       rw [readQ_form h1 h2 h3 (he0 ▸ h4) (he0 ▸ h5) (he0 ▸ h6)]
       exact .z 2 5 rfl (TE.rettc rfl rfl rfl)
      ·skip
       have h6 : rightQ (pmF nearI s0) = true := by simpa using h6
       refine .t 0 5 rfl rfl (.lp ((pmF nearI s0).dv) rfl) ?_
       rw [← readQ_near]
       rw [readQ_ok h1 h2 h3 (he0 ▸ h4) (he0 ▸ h5) (he0 ▸ h6), ← he0]
       exact .z 2 5 rfl (TE.rettc rfl rfl rfl)
theorem rpread_pc (l : List UInt8) (hl : l.length ≤ 1099511627776) : PC Tryz.prog 33 [slT bdv 1 l] (.tp [.ag (readQ intI l).1.dv, .v (.int .i64 (readQ intI l).2)]) := by
 refine PC.enter (fn := Tryz.f33) Tryz.func33 rfl Tryz.ntmps33 rfl (fun w0 K0 => .w ?_)
 refine .g 2 1 rfl ?_
 refine TE.obj 1 (.box 73 zeroPm.dv) rfl rfl ?_
 refine .q 4 2 rfl rfl (fun h1 => ?_) (fun h1 => ?_)
 ·skip
  have h1 : 512 < l.length := by have q := of_decide_eq_true h1; (try dsimp only at q); omega
  refine .t 0 2 rfl rfl (.bd (zeroPm.dv) rfl) ?_
  rw [readQ_long h1]
  exact .z 2 2 rfl (TE.rettc rfl rfl rfl)
 ·skip
  have h1 : ¬ (512 < l.length) := by have q := of_decide_eq_false h1; (try dsimp only at q); omega
  refine .q 4 2 rfl rfl (fun h2 => ?_) (fun h2 => ?_)
  ·skip
   have h2 : l.length = 0 := by have q := of_decide_eq_true h2; (try dsimp only at q); omega
   refine .t 0 2 rfl rfl (.bd (zeroPm.dv) rfl) ?_
   rw [readQ_none h2]
   exact .z 2 2 rfl (TE.rettc rfl rfl rfl)
  ·skip
   have h2 : ¬ l.length = 0 := by have q := of_decide_eq_false h2; (try dsimp only at q); omega
   have hp : 0 < l.length := by omega
   have g0 : l.getD 0 0 = l[0] := by rw [List.getD_eq_getElem?_getD, List.getElem?_eq_getElem hp]; rfl
   refine .t 1 2 rfl rfl (.idx (l[0]'hp) rfl rfl rfl rfl et22 (fun _ => rfl) (by decide) (List.getElem?_eq_getElem hp)) ?_
   refine .q 3 2 rfl rfl (fun h3 => ?_) (fun h3 => ?_)
   ·skip
    have h3 : ¬ l.getD 0 0 = 80 := by rw [g0]; intro q; rw [q] at h3; exact absurd h3 (by decide)
    refine .t 0 2 rfl rfl (.bd (zeroPm.dv) rfl) ?_
    rw [readQ_bytes h1 h2 h3]
    exact .z 2 2 rfl (TE.rettc rfl rfl rfl)
   ·skip
    have h3 : l.getD 0 0 = 80 := by rw [g0]; have z : ((l[0].toNat : Nat) : Int) = 80 := (by simpa using h3); exact UInt8.toNat_inj.1 (by show l[0].toNat = 80; omega)
    refine .t 1 2 rfl rfl (.slice rfl rfl rfl rfl rfl et22 (fun _ => rfl) (by decide) (by omega) (Int.le_refl _)) ?_
    refine .sub 23 (slT bdv 1 (l.drop 1)) rfl rfl (fun K w u h => by have e : ((l.take (l.length : Int).toNat).drop (1 : Int).toNat) = l.drop 1 := (by simp); rw [← e]; exact h) ?_
    refine .g 3 2 rfl ?_
    obtain ⟨s0, he0⟩ : ∃ s0 : RS, s0 = (l.drop 1, 0) := ⟨_, rfl⟩
    have hs0 : s0.1.length ≤ 1099511627776 := by rw [he0, List.length_drop]; omega
    refine TE.obj 2 (.box 140 (rdC (s0).1 (s0).2)) rfl (by (rw [he0]); try rfl) ?_
    refine .t 1 3 rfl rfl (.cm 2 (.box 140 (rdC (pmA s0 2).1 (pmA s0 2).2)) rfl (rof_s s0 hs0) rfl) ?_
    refine .t 0 3 rfl rfl (.bd (Pm.dv (⟨⟨(rdL s0 32).1, intI (rdN (pmA s0 0)), rdN (pmA s0 1)⟩, 0, 0, 0, 0⟩ : Pm)) rfl) ?_
    refine .g 2 3 rfl ?_
    refine TE.obj 3 (.box 73 (Pm.dv (⟨⟨(rdL s0 32).1, intI (rdN (pmA s0 0)), rdN (pmA s0 1)⟩, 0, 0, 0, 0⟩ : Pm))) rfl rfl ?_
    refine .t 1 4 rfl rfl (.cm 2 (.box 140 (rdC (pmA s0 3).1 (pmA s0 3).2)) rfl (rint_s (pmA s0 2) (Nat.le_trans (pmA_le s0 2) hs0)) rfl) ?_
    refine .g 2 4 rfl ?_
    refine TE.obj 3 (.box 73 (Pm.dv (⟨⟨(rdL s0 32).1, intI (rdN (pmA s0 0)), rdN (pmA s0 1)⟩, intI (rdN (pmA s0 2)), 0, 0, 0⟩ : Pm))) rfl rfl ?_
    refine .t 1 4 rfl rfl (.cm 2 (.box 140 (rdC (pmA s0 4).1 (pmA s0 4).2)) rfl (rint_s (pmA s0 3) (Nat.le_trans (pmA_le s0 3) hs0)) rfl) ?_
    refine .g 2 4 rfl ?_
    refine TE.obj 3 (.box 73 (Pm.dv (⟨⟨(rdL s0 32).1, intI (rdN (pmA s0 0)), rdN (pmA s0 1)⟩, intI (rdN (pmA s0 2)), intI (rdN (pmA s0 3)), 0, 0⟩ : Pm))) rfl rfl ?_
    refine .t 1 4 rfl rfl (.cm 2 (.box 140 (rdC (pmA s0 5).1 (pmA s0 5).2)) rfl (rnum_s (pmA s0 4) (Nat.le_trans (pmA_le s0 4) hs0)) rfl) ?_
    refine .g 3 4 rfl ?_
    refine TE.obj 3 (.box 73 (Pm.dv (⟨⟨(rdL s0 32).1, intI (rdN (pmA s0 0)), rdN (pmA s0 1)⟩, intI (rdN (pmA s0 2)), intI (rdN (pmA s0 3)), rdN (pmA s0 4), 0⟩ : Pm))) rfl rfl ?_
    refine .t 1 4 rfl rfl (.cm 2 (.box 140 (rdC (pmA s0 6).1 (pmA s0 6).2)) rfl (rnum_s (pmA s0 5) (Nat.le_trans (pmA_le s0 5) hs0)) rfl) ?_
    refine .g 3 4 rfl ?_
    refine TE.obj 3 (.box 73 (Pm.dv (⟨⟨(rdL s0 32).1, intI (rdN (pmA s0 0)), rdN (pmA s0 1)⟩, intI (rdN (pmA s0 2)), intI (rdN (pmA s0 3)), rdN (pmA s0 4), rdN (pmA s0 5)⟩ : Pm))) rfl rfl ?_
    refine .q 6 4 rfl rfl (fun h4 => ?_) (fun h4 => ?_)
    ·skip
     have h4 : ¬ (pmA s0 6).2 = 0 := by simpa using h4
     refine .d 0 4 rfl ?_
     refine .v 0 4 [] rfl rfl (fun _ _ => .bd (zeroPm.dv) rfl) ?_
     refine .y 6 4 rfl (by kernel_rfl) ?_
     rw [readQ_err h1 h2 h3 (he0 ▸ h4), ← he0]
     exact .z 0 4 rfl (TE.rettc rfl rfl rfl)
    ·skip
     have h4 : (pmA s0 6).2 = 0 := by simpa using h4
     refine .q 7 4 rfl rfl (fun h5 => ?_) (fun h5 => ?_)
     ·skip
      have h5 : 0 < (pmA s0 6).1.length := by have q := of_decide_eq_true h5; (try dsimp only at q); omega
      refine .t 0 4 rfl rfl (.bd (zeroPm.dv) rfl) ?_
      rw [readQ_left h1 h2 h3 (he0 ▸ h4) (he0 ▸ h5)]
      exact .z 2 4 rfl (TE.rettc rfl rfl rfl)
     ·skip
      have h5 : ¬ (0 < (pmA s0 6).1.length) := by have q := of_decide_eq_false h5; (try dsimp only at q); omega
      refine .t 0 4 rfl rfl (.lp ((pmF intI s0).dv) rfl) ?_
      refine .t 0 4 rfl rfl (.cf (rprt_pf (pmF intI s0)) rfl) ?_
      refine .q 2 4 rfl rfl (fun h6 => ?_) (fun h6 => ?_)
      ·skip
       have h6 : rightQ (pmF intI s0) = false := by simpa using h6
       refine .t 0 4 rfl rfl (.bd (zeroPm.dv) rfl) ?_
       rw [readQ_form h1 h2 h3 (he0 ▸ h4) (he0 ▸ h5) (he0 ▸ h6)]
       exact .z 2 4 rfl (TE.rettc rfl rfl rfl)
      ·skip
       have h6 : rightQ (pmF intI s0) = true := by simpa using h6
       refine .t 0 4 rfl rfl (.lp ((pmF intI s0).dv) rfl) ?_
       rw [readQ_ok h1 h2 h3 (he0 ▸ h4) (he0 ▸ h5) (he0 ▸ h6), ← he0]
       exact .z 2 4 rfl (TE.rettc rfl rfl rfl)
end Go.Proofs.YtdjcclcejmeheaaGreat

