import Derived.Test.YtdjcclcejmeheaaGreatZKb
import Derived.Test.YtdjcclcejmeheaaGreatZEv
import Derived.Test.YtdjcclcejmeheaaGreatZEa
import Derived.Test.YtdjcclcejmeheaaGreatZFd
/-
  What bytes are read as a promise.
-/
namespace Go.Proofs.YtdjcclcejmeheaaGreat
set_option linter.unusedVariables false
set_option linter.unusedSimpArgs false
open Go.RowKit Pl
set_option maxRecDepth 100000
set_option maxHeartbeats 3200000
theorem pnear_pf (n : Int) (hn : u64I n) : PF Tryz.prog 65 [.v (.int .u64 n)] (.v (.int .i64 (nearI n))) := by
 refine PF.enter (fn := Tryz.f65) Tryz.func65 rfl Tryz.ntmps65 rfl (fun w0 => .w ?_)
 refine .q 3 1 rfl rfl (fun h1 => ?_) (fun h1 => ?_)
 ·skip
  have hb : 1152921504606846976 < n := of_decide_eq_true h1
  have e : nearI n = -1 := if_pos hb
  rw [e]
  exact .z 1 1 rfl (TE.retf rfl rfl rfl trivial)
 ·skip
  have hb : ¬ 1152921504606846976 < n := of_decide_eq_false h1
  have e : nearI n = n := if_neg hb
  refine .t 1 1 rfl rfl (.cv (n) rfl (by rw [IntKind.wrap_i64]; have := hn.1; omega)) ?_
  rw [e]
  exact .z 1 1 rfl (TE.retf rfl rfl rfl trivial)
theorem pread_pc (l : List UInt8) (hl : l.length ≤ 1099511627776) : PC Tryz.prog 25 [slT bdv 1 l] (.tp [.ag (readQ intI l).1.dv, .v (.int .i64 (readQ intI l).2)]) := by
 refine PC.enter (fn := Tryz.f25) Tryz.func25 rfl Tryz.ntmps25 rfl (fun w0 K0 => .w ?_)
 refine .g 2 1 rfl ?_
 refine TE.obj 1 (.box 73 zeroPm.dv) rfl rfl ?_
 refine .q 4 2 rfl rfl (fun h1 => ?_) (fun h1 => ?_)
 ·skip
  have h1 : 512 < l.length := by have q := of_decide_eq_true h1; (try dsimp only at q); omega
  refine .t 0 2 rfl rfl (.bd (zeroPm.dv) rfl) ?_
  rw [← readQ_near]
  rw [readQ_long h1]
  exact .z 2 2 rfl (TE.rettc rfl rfl rfl)
 ·skip
  have h1 : ¬ (512 < l.length) := by have q := of_decide_eq_false h1; (try dsimp only at q); omega
  refine .q 4 2 rfl rfl (fun h2 => ?_) (fun h2 => ?_)
  ·skip
   have h2 : l.length = 0 := by have q := of_decide_eq_true h2; (try dsimp only at q); omega
   refine .t 0 2 rfl rfl (.bd (zeroPm.dv) rfl) ?_
   rw [← readQ_near]
   rw [readQ_none h2]
   exact .z 2 2 rfl (TE.rettc rfl rfl rfl)
  ·skip
   have h2 : ¬ l.length = 0 := by have q := of_decide_eq_false h2; (try dsimp only at q); omega
   have hp : 0 < l.length := by omega
   have g0 : l.getD 0 0 = l[0] := by rw [List.getD_eq_getElem?_getD, List.getElem?_eq_getElem hp]; rfl
   refine .t 1 2 rfl rfl (.idx (l[0]'hp) rfl rfl rfl rfl et22 (fun _ => rfl) (by decide) (List.getElem?_eq_getElem hp)) ?_
   refine .q 3 2 rfl rfl (fun h3 => ?_) (fun h3 => ?_)
   ·skip
    have h3 : ¬ l.getD 0 0 = 80 := by rw [g0]; intro q; rw [q] at h3; exact absurd h3 (by decide)
    refine .t 0 2 rfl rfl (.bd (zeroPm.dv) rfl) ?_
    rw [← readQ_near]
    rw [readQ_bytes h1 h2 h3]
    exact .z 2 2 rfl (TE.rettc rfl rfl rfl)
   ·skip
    have h3 : l.getD 0 0 = 80 := by rw [g0]; have z : ((l[0].toNat : Nat) : Int) = 80 := (by simpa using h3); exact UInt8.toNat_inj.1 (by show l[0].toNat = 80; omega)
    refine .t 1 2 rfl rfl (.slice rfl rfl rfl rfl rfl et22 (fun _ => rfl) (by decide) (by omega) (Int.le_refl _)) ?_
    refine .sub 24 (slT bdv 1 (l.drop 1)) rfl rfl (fun K w u h => by have e : ((l.take (l.length : Int).toNat).drop (1 : Int).toNat) = l.drop 1 := (by simp); rw [← e]; exact h) ?_
    refine .t 0 2 rfl rfl (.callb 2 rfl rfl cf63 rfl ⟨trivial, trivial⟩ (new_pb (l.drop 1) (by rw [List.length_drop]; omega))) ?_
    refine .g 1 3 rfl ?_
    obtain ⟨s0, he0⟩ : ∃ s0 : RS, s0 = (l.drop 1, 0) := ⟨_, rfl⟩
    have hs0 : s0.1.length ≤ 1099511627776 := by rw [he0, List.length_drop]; omega
    refine TE.obj 2 (.box 166 (rdC (s0).1 (s0).2)) rfl (by (rw [he0]); try rfl) ?_
    refine .d 0 3 rfl ?_
    refine .t 1 3 (E := ⟨some (27, _), [(2, _)]⟩) [2] rfl rfl (fun _ _ => .cm 2 (.box 166 (rdC (pmA s0 0).1 (pmA s0 0).2)) rfl (lump_s s0 32 hs0 (by decide)) rfl) ?_
    refine .v 0 3 [] rfl rfl (fun _ _ => .convbd (l := (rdL s0 32).1) rfl rfl u822 us9) ?_
    refine .t 1 3 (E := ⟨some (30, _), [(2, _)]⟩) [2] rfl rfl (fun _ _ => .cm 2 (.box 166 (rdC (pmA s0 1).1 (pmA s0 1).2)) rfl (num_s (pmA s0 0) (Nat.le_trans (pmA_le s0 0) hs0)) rfl) ?_
    refine .v 0 3 [] rfl rfl (fun _ _ => .cf (pnear_pf (rdN (pmA s0 0)) (rdN_bd _)) rfl) ?_
    refine .t 1 3 (E := ⟨some (33, _), [(2, _)]⟩) [2] rfl rfl (fun _ _ => .cm 2 (.box 166 (rdC (pmA s0 2).1 (pmA s0 2).2)) rfl (num_s (pmA s0 1) (Nat.le_trans (pmA_le s0 1) hs0)) rfl) ?_
    refine .v 0 3 [] rfl rfl (fun _ _ => .bd (En.dv ⟨(rdL s0 32).1, nearI (rdN (pmA s0 0)), rdN (pmA s0 1)⟩) rfl) ?_
    refine .y 2 3 rfl (by kernel_rfl) ?_
    refine TE.obj 3 (.box 35 (En.dv ⟨(rdL s0 32).1, nearI (rdN (pmA s0 0)), rdN (pmA s0 1)⟩)) rfl rfl ?_
    refine .d 0 4 rfl ?_
    refine .v 0 4 [3] rfl rfl (fun _ _ => .lp (En.dv ⟨(rdL s0 32).1, nearI (rdN (pmA s0 0)), rdN (pmA s0 1)⟩) rfl) ?_
    refine .t 1 4 (E := ⟨some (37, _), [(2, _)]⟩) [2] rfl rfl (fun _ _ => .cm 2 (.box 166 (rdC (pmA s0 3).1 (pmA s0 3).2)) rfl (num_s (pmA s0 2) (Nat.le_trans (pmA_le s0 2) hs0)) rfl) ?_
    refine .v 0 4 [] rfl rfl (fun _ _ => .cf (pnear_pf (rdN (pmA s0 2)) (rdN_bd _)) rfl) ?_
    refine .t 1 4 (E := ⟨some (40, _), [(2, _)]⟩) [2] rfl rfl (fun _ _ => .cm 2 (.box 166 (rdC (pmA s0 4).1 (pmA s0 4).2)) rfl (num_s (pmA s0 3) (Nat.le_trans (pmA_le s0 3) hs0)) rfl) ?_
    refine .v 0 4 [] rfl rfl (fun _ _ => .cf (pnear_pf (rdN (pmA s0 3)) (rdN_bd _)) rfl) ?_
    refine .v 0 4 [] rfl rfl (fun _ _ => .bd (Pm.dv (⟨⟨(rdL s0 32).1, nearI (rdN (pmA s0 0)), rdN (pmA s0 1)⟩, nearI (rdN (pmA s0 2)), nearI (rdN (pmA s0 3)), 0, 0⟩ : Pm)) rfl) ?_
    refine .y 2 4 rfl (by kernel_rfl) ?_
    refine TE.obj 4 (.box 73 (Pm.dv (⟨⟨(rdL s0 32).1, nearI (rdN (pmA s0 0)), rdN (pmA s0 1)⟩, nearI (rdN (pmA s0 2)), nearI (rdN (pmA s0 3)), 0, 0⟩ : Pm))) rfl rfl ?_
    refine .t 1 5 rfl rfl (.cm 2 (.box 166 (rdC (pmA s0 5).1 (pmA s0 5).2)) rfl (num_s (pmA s0 4) (Nat.le_trans (pmA_le s0 4) hs0)) rfl) ?_
    refine .t 1 5 rfl rfl (.cm 2 (.box 166 (rdC (pmA s0 6).1 (pmA s0 6).2)) rfl (num_s (pmA s0 5) (Nat.le_trans (pmA_le s0 5) hs0)) rfl) ?_
    refine .t 0 5 rfl rfl (.bd (sgdv (rdN (pmA s0 4)) (rdN (pmA s0 5))) rfl) ?_
    refine .g 2 5 rfl ?_
    refine TE.obj 4 (.box 73 (pmF nearI s0).dv) rfl rfl ?_
    refine .t 1 5 rfl rfl (.cm 2 (.box 166 (rdC (pmA s0 6).1 (pmA s0 6).2)) rfl (err_pm (pmA s0 6).1 (pmA s0 6).2) rfl) ?_
    refine .q 2 5 rfl rfl (fun h4 => ?_) (fun h4 => ?_)
    ·skip
     have h4 : ¬ (pmA s0 6).2 = 0 := by simpa using h4
     refine .t 0 5 rfl rfl (.bd (zeroPm.dv) rfl) ?_
     refine .t 1 5 rfl rfl (.cm 2 (.box 166 (rdC (pmA s0 6).1 (pmA s0 6).2)) rfl (err_pm (pmA s0 6).1 (pmA s0 6).2) rfl) ?_
     rw [← readQ_near]
     rw [readQ_err h1 h2 h3 (he0 ▸ h4), ← he0]
     exact .z 2 5 rfl (TE.rettc rfl rfl rfl)
    ·skip
     have h4 : (pmA s0 6).2 = 0 := by simpa using h4
     refine .t 1 5 rfl rfl (.cm 2 (.box 166 (rdC (pmA s0 6).1 (pmA s0 6).2)) rfl (left_pm (pmA s0 6).1 (pmA s0 6).2) rfl) ?_
     refine .q 2 5 rfl rfl (fun h5 => ?_) (fun h5 => ?_)
     ·skip
      have h5 : 0 < (pmA s0 6).1.length := by have q := of_decide_eq_true h5; (try dsimp only at q); omega
      refine .t 0 5 rfl rfl (.bd (zeroPm.dv) rfl) ?_
      rw [← readQ_near]
      rw [readQ_left h1 h2 h3 (he0 ▸ h4) (he0 ▸ h5)]
      exact .z 2 5 rfl (TE.rettc rfl rfl rfl)
     ·skip
      have h5 : ¬ (0 < (pmA s0 6).1.length) := by have q := of_decide_eq_false h5; (try dsimp only at q); omega
      refine .t 0 5 rfl rfl (.lp ((pmF nearI s0).dv) rfl) ?_
      refine .t 0 5 rfl rfl (.cf (prt_pf (pmF nearI s0)) rfl) ?_
      refine .q 2 5 rfl rfl (fun h6 => ?_) (fun h6 => ?_)
      ·skip
       have h6 : rightQ (pmF nearI s0) = false := by simpa using h6
       refine .t 0 5 rfl rfl (.bd (zeroPm.dv) rfl) ?_
       rw [← readQ_near]
       rw [readQ_form h1 h2 h3 (he0 ▸ h4) (he0 ▸ h5) (he0 ▸ h6)]
       exact .z 2 5 rfl (TE.rettc rfl rfl rfl)
      ·skip
       have h6 : rightQ (pmF nearI s0) = true := by simpa using h6
       refine .t 0 5 rfl rfl (.lp ((pmF nearI s0).dv) rfl) ?_
       rw [← readQ_near]
       rw [readQ_ok h1 h2 h3 (he0 ▸ h4) (he0 ▸ h5) (he0 ▸ h6), ← he0]
       exact .z 2 5 rfl (TE.rettc rfl rfl rfl)
end Go.Proofs.YtdjcclcejmeheaaGreat
/-
  Roots; items of numbers; lists of items compared.
-/
namespace Go.Proofs.YtdjcclcejmeheaaGreat
set_option linter.unusedVariables false
set_option linter.unusedSimpArgs false
open Go.RowKit Pl
set_option maxRecDepth 100000
set_option maxHeartbeats 3200000
theorem rroot_all (l : List It) (hl : l.length ≤ 1048576) : PF Tryz.prog 110 [slT It.dv 64 (l)] (.ag (hdv (rootH l))) := by
 have c1 := (rset_po l [] (by simpa using hl)).pf
 have c2 := rroot_pf 256 0 (setR l []) (okT_str (setR_str l [])) (by have := setR_len l []; simp at this; omega) (by omega)
 rw [rootH_def] at c2
 refine PF.enter (fn := Tryz.f110) Tryz.func110 rfl Tryz.ntmps110 rfl (fun w0 => .w ?_)
 refine .t 2 1 rfl rfl (.cf (.nil2 c1) rfl) ?_
 refine .t 0 2 rfl rfl (.cf (c2) rfl) ?_
 exact .z 1 2 rfl (TE.retf rfl rfl rfl (pl_ag (pl_h _)))
end Go.Proofs.YtdjcclcejmeheaaGreat
/-
  Lists of bytes turned round; slices.Backward.
-/
namespace Go.Proofs.YtdjcclcejmeheaaGreat
set_option linter.unusedVariables false
set_option linter.unusedSimpArgs false
open Go.RowKit Pl
set_option maxRecDepth 100000
set_option maxHeartbeats 3200000
theorem sz22 : szt Tryz.prog 22 = some 1 := by kernel_rfl
theorem tk22 : tyk Tryz.prog 22 = some none := by kernel_rfl
theorem revL_pm (xs : List (List UInt8)) (hx : xs.length ≤ 1048576) : PM Tryz.prog 125 [.ow 0 xs.length 1] (.mrow 0 22 1 ((xs).flatMap ldv)) (.mrow 0 22 1 ((xs.reverse).flatMap ldv)) (.d (.tp [])) := by
 refine PM.enter (fn := Tryz.f125) Tryz.func125 rfl Tryz.ntmps125 rfl rfl rfl (fun w0 K0 ob => .w ?_)
 refine .g 5 1 rfl ?_
 refine TE.setv 2 (.int .i64 ((0 : Nat) : Int)) rfl rfl ?_
 refine TE.setv 3 (.int .i64 ((xs.length : Int) - 1 - ((0 : Nat) : Int))) rfl (congrArg _ (by rw [IntKind.wrap_i64]; omega)) ?_
 refine TE.obj 0 (.mrow 0 22 1 ((rvG xs 0).flatMap ldv)) rfl (by rw [rvG_zero]) ?_
 refine .lo (T := Nat) 0 1 rfl (fun i => i ≤ xs.length) (fun i => xs.length - i) [0] [] (fun i => [(2, .d (.v (.int .i64 ((i : Nat) : Int)))), (3, .d (.v (.int .i64 ((xs.length : Int) - 1 - (i : Int)))))]) (fun i => [(0, .mrow 0 22 1 ((rvG xs i).flatMap ldv))]) (0) rfl rfl (Nat.zero_le _) rfl rfl rfl (fun i hI => ?_)
 refine .q 3 1 rfl rfl (fun h1 => ?_) (fun h1 => ?_)
 ·skip
  have hij : i + 1 + i < xs.length := by have q := of_decide_eq_true h1; (try dsimp only at q); omega
  have hyl := rvG_len xs i
  have hil : i < (rvG xs i).length := by omega
  have hjl : xs.length - 1 - i < (rvG xs i).length := by omega
  have hstep := rvG_step hij hjl hil
  generalize rvG xs i = ys at hyl hil hjl hstep ⊢
  refine TE.setv 3 (.int .i64 ((xs.length - 1 - i : Nat) : Int)) rfl (congrArg _ (by (try dsimp only); omega)) ?_
  refine .d 0 1 rfl ?_
  refine .v 6 1 [0] rfl rfl (fun _ _ => .ixo rfl (Int.natCast_nonneg _) (by omega)) ?_
  refine .v 0 1 [0] rfl rfl (fun _ _ => .ldp rfl rfl rfl rfl (ld_one (j := xs.length - 1 - i) hjl) tk22) ?_
  refine .v 2 1 [0] rfl rfl (fun _ _ => .ixo rfl (Int.natCast_nonneg _) (by omega)) ?_
  refine .v 0 1 [0] rfl rfl (fun _ _ => .ldp rfl rfl rfl rfl (ld_one (j := i) hil) tk22) ?_
  refine .v 0 1 [0] rfl rfl (fun _ _ => .ixo rfl (Int.natCast_nonneg _) (by omega)) ?_
  refine .t 0 1 (E := ⟨none, [(0, _)]⟩) [0] rfl rfl (fun _ _ => .storerm (xs := ys) (enc := ldv) (ys[xs.length - 1 - i]) rfl rfl rfl rfl rfl rfl (fun _ => rfl) sz22 rfl (hil)) ?_
  refine .v 0 1 [0] rfl rfl (fun _ _ => .ixo rfl (Int.natCast_nonneg _) (by omega)) ?_
  refine .t 0 1 (E := ⟨none, [(0, _)]⟩) [0] rfl rfl (fun _ _ => .storerm (xs := ys.set i ys[xs.length - 1 - i]) (enc := ldv) (ys[i]) rfl rfl rfl rfl rfl rfl (fun _ => rfl) sz22 rfl (by rw [List.length_set]; exact hjl)) ?_
  refine .y 0 1 rfl (by kernel_rfl) ?_
  refine .t 1 1 rfl rfl (.bv (.int .i64 ((i + 1 : Nat) : Int)) rfl (congrArg _ (by (try dsimp only); rw [IntKind.wrap_i64]; omega))) ?_
  refine .t 1 1 rfl rfl (.bv (.int .i64 ((xs.length : Int) - 1 - ((i + 1 : Nat) : Int))) rfl (congrArg _ (by (try dsimp only); rw [IntKind.wrap_i64]; omega))) ?_
  refine .g 2 1 rfl ?_
  refine TE.obj 0 (.mrow 0 22 1 ((rvG xs (i + 1)).flatMap ldv)) rfl (by rw [hstep]) ?_
  refine TE.setv 2 (.int .i64 ((i + 1 : Nat) : Int)) rfl (congrArg _ (by first | rfl | (dsimp only; first | done | rfl | omega))) ?_
  refine TE.setv 3 (.int .i64 ((xs.length : Int) - 1 - ((i + 1 : Nat) : Int))) rfl rfl ?_
  exact .rd 0 1 id (fun _ _ e => e) rfl (i + 1) (by omega) (by omega) rfl rfl rfl
 ·skip
  have hij : ¬ i + 1 + i < xs.length := by have q := of_decide_eq_false h1; (try dsimp only at q); omega
  rw [rvG_end hij]
  exact .z 0 1 rfl (TE.retm0 0 rfl rfl rfl)
theorem backward_pc (xs : List H) : PC Tryz.prog 124 [slT hdv 32 xs] (.fn (.func 149) [] [.el [slT hdv 32 xs]]) := by
 refine PC.enter (fn := Tryz.f124) Tryz.func124 rfl Tryz.ntmps124 rfl (fun w0 K0 => .w ?_)
 refine .g 2 1 rfl ?_
 refine TE.frzb 1 rfl rfl rfl rfl ?_
 refine .t 0 2 rfl rfl (.mkfn rfl rfl) ?_
 exact .z 1 2 rfl (TE.retc rfl rfl rfl)
end Go.Proofs.YtdjcclcejmeheaaGreat

