import Derived.Test.YtdjcclcejmeheaaGreatZHo
import Derived.Test.YtdjcclcejmeheaaGreatZEv
/-
  The seat's epochs.
-/
namespace Go.Proofs.YtdjcclcejmeheaaGreat
set_option linter.unusedVariables false
set_option linter.unusedSimpArgs false
open Go.RowKit Pl
set_option maxRecDepth 100000
set_option maxHeartbeats 3200000
theorem epochs_pc (x : Int) (hx : u64I x) (l : List UInt8) (hl : l.length ≤ 1000) : PC Tryz.prog 8 [.v (.int .u64 x), slT bdv 1 l] (.tp [slT Pub.dv 70 ((epsR x l).ps), slT Kn.dv 4 ((epsR x l).kn), slT Hd.dv 69 ((epsR x l).hs)]) := by
 refine PC.enter (fn := Tryz.f8) Tryz.func8 rfl Tryz.ntmps8 rfl (fun w0 K0 => .w ?_)
 refine .g 4 1 rfl ?_
 refine TE.own0 7 1 65 70 rfl rfl ?_
 refine .g 1 2 rfl ?_
 refine TE.own0 8 2 45 69 rfl rfl ?_
 refine .g 1 3 rfl ?_
 refine TE.own0 9 3 37 4 rfl rfl ?_
 refine TE.frz 9 (slT Kn.dv 4 ([])) rfl rfl rfl rfl ?_
 refine .g 1 4 rfl ?_
 refine TE.setv 10 (.int .i64 (epsR x (l.take (0))).tk) rfl rfl ?_
 refine .g 1 4 rfl ?_
 refine TE.setv 11 (.int .i64 ((0 : Nat) : Int)) rfl (congrArg _ (by first | rfl | (dsimp only; first | done | rfl | omega))) ?_
 refine TE.set 7 (.ow 1 (epsR x (l.take (0))).ps.length 70) rfl rfl ?_
 refine TE.obj 1 (.row 65 70 (((epsR x (l.take (0))).ps).flatMap Pub.dv)) rfl rfl ?_
 refine TE.set 8 (.ow 2 (epsR x (l.take (0))).hs.length 69) rfl rfl ?_
 refine TE.obj 2 (.row 45 69 (((epsR x (l.take (0))).hs).flatMap Hd.dv)) rfl rfl ?_
 refine TE.set 9 (.d (slT Kn.dv 4 ((epsR x (l.take (0))).kn))) rfl rfl ?_
 refine .lo (T := Nat) 0 4 rfl (fun i => i ≤ l.length) (fun i => l.length - i) [0, 1] [] (fun i => [(7, .ow 1 (epsR x (l.take (i))).ps.length 70), (8, .ow 2 (epsR x (l.take (i))).hs.length 69), (9, .d (slT Kn.dv 4 ((epsR x (l.take (i))).kn))), (10, .d (.v (.int .i64 (epsR x (l.take (i))).tk))), (11, .d (.v (.int .i64 ((i : Nat) : Int))))]) (fun i => [(1, .row 65 70 (((epsR x (l.take (i))).ps).flatMap Pub.dv)), (2, .row 45 69 (((epsR x (l.take (i))).hs).flatMap Hd.dv))]) (0) rfl rfl (Nat.zero_le _) rfl rfl rfl (fun i hI => ?_)
 refine .q 4 4 rfl rfl (fun h1 => ?_) (fun h1 => ?_)
 ·skip
  have hi : i < l.length := by have q := of_decide_eq_true h1; (try dsimp only at q); omega
  obtain ⟨s, hs⟩ : ∃ s, s = epsR x (l.take (i)) := ⟨_, rfl⟩
  have so : EpsOk s i := by rw [hs]; have q := epsR_ok x (l.take i); rwa [List.length_take, Nat.min_eq_left (by omega)] at q
  obtain ⟨o1, o2, o3, o4, o5, o6⟩ := so
  have ot : epT l[i] ≤ 3 := (by unfold epT; omega)
  have on : epN l[i] ≤ 3 := (by unfold epN; omega)
  have onp : l[i].toNat / 24 % 3 + 1 = epN l[i] := rfl
  rw [← hs]
  refine .t 3 4 rfl rfl (.idx (l[i]) rfl rfl rfl rfl et22 (fun _ => rfl) (Int.natCast_nonneg _) (get_nat hi)) ?_
  refine .t 1 4 rfl rfl (.quo (((l[i].toNat / 6 : Nat) : Int)) rfl rfl rfl (by decide) (by rw [Int.tdiv_eq_ediv_of_nonneg (by omega), IntKind.wrap_u8]; have := l[i].toNat_lt; omega)) ?_
  refine .t 0 4 rfl rfl (.rem (((epT l[i] : Nat) : Int)) rfl rfl rfl (by decide) (by unfold epT; rw [Int.tmod_eq_emod_of_nonneg (by omega)]; omega)) ?_
  refine .t 0 4 rfl rfl (.cv (((epT l[i] : Nat) : Int)) rfl (by rw [IntKind.wrap_i64]; omega)) ?_
  refine .t 0 4 rfl rfl (.bv (.int .i64 (s.tk + epT l[i])) rfl (congrArg _ (by rw [IntKind.wrap_i64]; omega))) ?_
  refine .g 1 4 rfl ?_
  refine TE.setv 10 (.int .i64 (s.tk + epT l[i])) rfl rfl ?_
  refine .g 1 4 rfl ?_
  refine TE.own0 12 4 35 3 rfl rfl ?_
  refine .g 1 5 rfl ?_
  refine TE.setv 13 (.int .u8 ((0 : Nat) : Int)) rfl rfl ?_
  refine TE.set 12 (.ow 4 (epB s.kn l[i] (0)).length 3) rfl rfl ?_
  refine TE.obj 4 (.row 35 3 ((epB s.kn l[i] (0)).flatMap En.dv)) rfl rfl ?_
  refine .lo (T := Nat) 0 5 rfl (fun j => j ≤ epN l[i]) (fun j => epN l[i] - j) [0, 1] [] (fun j => [(7, .ow 1 s.ps.length 70), (8, .ow 2 s.hs.length 69), (9, .d (slT Kn.dv 4 (s.kn))), (10, .d (.v (.int .i64 (s.tk + epT l[i])))), (11, .d (.v (.int .i64 ((i : Nat) : Int)))), (12, .ow 4 (epB s.kn l[i] (j)).length 3), (13, .d (.v (.int .u8 ((j : Nat) : Int))))]) (fun j => [(1, .row 65 70 ((s.ps).flatMap Pub.dv)), (2, .row 45 69 ((s.hs).flatMap Hd.dv)), (4, .row 35 3 ((epB s.kn l[i] (j)).flatMap En.dv))]) (0) rfl rfl (Nat.zero_le _) rfl rfl rfl (fun j hI => ?_)
  refine .t 3 5 rfl rfl (.idx (l[i]) rfl rfl rfl rfl et22 (fun _ => rfl) (Int.natCast_nonneg _) (get_nat hi)) ?_
  refine .t 1 5 rfl rfl (.quo (((l[i].toNat / 24 : Nat) : Int)) rfl rfl rfl (by decide) (by rw [Int.tdiv_eq_ediv_of_nonneg (by omega), IntKind.wrap_u8]; have := l[i].toNat_lt; omega)) ?_
  refine .t 0 5 rfl rfl (.rem (((l[i].toNat / 24 % 3 : Nat) : Int)) rfl rfl rfl (by decide) (by rw [Int.tmod_eq_emod_of_nonneg (by omega)]; omega)) ?_
  refine .q 1 5 rfl rfl (fun h2 => ?_) (fun h2 => ?_)
  ·skip
   have hj : j < epN l[i] := by have q := of_decide_eq_true h2; (try dsimp only at q); omega
   have hjl := epB_len s.kn l[i] j
   refine .t 2 5 rfl rfl (.idx (l[i]) rfl rfl rfl rfl et22 (fun _ => rfl) (Int.natCast_nonneg _) (get_nat hi)) ?_
   refine .t 2 5 rfl rfl (.bv (.int .u8 (((l[i] + UInt8.ofNat j).toNat : Nat) : Int)) rfl (congrArg _ (u8_add _ _ (by omega)))) ?_
   refine .t 0 5 rfl rfl (.cf (name_pf (l[i] + UInt8.ofNat j)) rfl) ?_
   refine .t 3 5 rfl rfl (.cf (rlatest_any s.kn (nameL ((((l[i] + UInt8.ofNat j).toNat : Nat)) : Int)) (by omega)) rfl) ?_
   refine .d 6 5 rfl ?_
   refine .v 3 6 [] rfl rfl (fun _ _ => .idx (l[i]) rfl rfl rfl rfl et22 (fun _ => rfl) (Int.natCast_nonneg _) (get_nat hi)) ?_
   refine .v 2 6 [] rfl rfl (fun _ _ => .bv (.int .u8 (((l[i] + UInt8.ofNat j).toNat : Nat) : Int)) rfl (congrArg _ (u8_add _ _ (by omega)))) ?_
   refine .v 3 6 [] rfl rfl (fun _ _ => .bv (.int .i64 (i64w ((latR s.kn (nameL ((((l[i] + UInt8.ofNat j).toNat : Nat)) : Int))).1.ver + 1))) rfl (rfl)) ?_
   refine .v 0 6 [] rfl rfl (fun _ _ => .cf (entry_pf (l[i] + UInt8.ofNat j) (i64w ((latR s.kn (nameL ((((l[i] + UInt8.ofNat j).toNat : Nat)) : Int))).1.ver + 1))) rfl) ?_
   refine .t 0 6 (E := ⟨some (70, _), [(6, _)]⟩) [6] rfl rfl (fun _ _ => .bb ((seatE (l[i] + UInt8.ofNat j) (i64w ((latR s.kn (nameL ((((l[i] + UInt8.ofNat j).toNat : Nat)) : Int))).1.ver + 1))).dv) 6 rfl) ?_
   refine .t 0 7 (E := ⟨some (71, _), [(4, .dead), (7, _)]⟩) [4, 6, 7] rfl rfl (fun _ _ => .ap 7 rfl (flat_length (sz := 3) (enc := En.dv) (fun _ => rfl) _) rfl (by omega) (by omega)) ?_
   refine .y 1 8 rfl (by kernel_rfl) ?_
   refine .t 1 8 rfl rfl (.bv (.int .u8 ((j + 1 : Nat) : Int)) rfl (congrArg _ (by rw [IntKind.wrap_u8]; omega))) ?_
   refine .g 1 8 rfl ?_
   refine TE.set 12 (.ow 7 (epB s.kn l[i] (j + 1)).length 3) rfl (by rw [epB_len, epB_len]) ?_
   refine TE.obj 7 (.row 35 3 ((epB s.kn l[i] (j + 1)).flatMap En.dv)) rfl (by rw [epB_snoc, List.flatMap_append]; rfl) ?_
   refine TE.setv 13 (.int .u8 ((j + 1 : Nat) : Int)) rfl (congrArg _ (by first | rfl | (rw [IntKind.wrap_u8]; omega))) ?_
   exact .rd 0 8 (swp 4 7) (swp_inj 4 7) rfl (j + 1) (by omega) (by omega) rfl rfl rfl
  ·skip
   have hj : ¬ (j < epN l[i]) := by have q := of_decide_eq_false h2; (try dsimp only at q); omega
   have hje : j = epN l[i] := by omega
   subst hje
   obtain ⟨B, hB⟩ : ∃ B, B = epB s.kn l[i] (epN l[i]) := ⟨_, rfl⟩
   have hBl : B.length = epN l[i] := by rw [hB, epB_len]
   obtain ⟨T, hT⟩ : ∃ T, T = s.tk + epT l[i] := ⟨_, rfl⟩
   rw [← hB, ← hT]
   refine TE.frz 12 (slT En.dv 3 (B)) rfl rfl (flat_length (sz := 3) (enc := En.dv) (fun _ => rfl) _) rfl ?_
   have cB := rbuild_pm x hx s.kn s.hs B T (by omega) (by omega) (by omega) o5 o6
   by_cases hbad : badN s.kn s.hs B T = true
   ·skip
    have eB : buildB x s.kn s.hs B T = (zeroPub, [], 23) := if_pos hbad
    rw [eB] at cB
    refine .t 5 8 rfl rfl (.cm 2 (.row 45 69 ((s.hs).flatMap Hd.dv)) rfl (cB) rfl) ?_
    refine .t 9 8 rfl rfl (.bv (.bool false) rfl (rfl)) ?_
    refine .t 2 9 rfl rfl (.bv (.int .i64 ((i + 1 : Nat) : Int)) rfl (congrArg _ (by (try dsimp only); rw [IntKind.wrap_i64]; omega))) ?_
    refine .g 1 9 rfl ?_
    have e1 : epsR x (l.take (i + 1)) = ⟨s.ps, s.hs, s.kn, T⟩ := by rw [epsR_snoc x hi, ← hs, hT]; exact if_pos (by rw [← hB, ← hT]; exact hbad)
    refine TE.set 7 (.ow 1 (epsR x (l.take (i + 1))).ps.length 70) rfl (by rw [e1]) ?_
    refine TE.set 8 (.ow 2 (epsR x (l.take (i + 1))).hs.length 69) rfl (by rw [e1]) ?_
    refine TE.set 9 (.d (slT Kn.dv 4 ((epsR x (l.take (i + 1))).kn))) rfl (by rw [e1]) ?_
    refine TE.setv 10 (.int .i64 (epsR x (l.take (i + 1))).tk) rfl (by rw [e1]) ?_
    refine TE.obj 1 (.row 65 70 (((epsR x (l.take (i + 1))).ps).flatMap Pub.dv)) rfl (by rw [e1]) ?_
    refine TE.obj 2 (.row 45 69 (((epsR x (l.take (i + 1))).hs).flatMap Hd.dv)) rfl (by rw [e1]) ?_
    refine TE.setv 11 (.int .i64 ((i + 1 : Nat) : Int)) rfl (congrArg _ (by first | rfl | (dsimp only; first | done | rfl | omega))) ?_
    exact .rd 0 9 id (fun _ _ e => e) rfl (i + 1) hi (by omega) rfl rfl rfl
   ·skip
    have hgood : badN s.kn s.hs B T = false := by rw [Bool.not_eq_true] at hbad; exact hbad
    obtain ⟨hd, hhd⟩ : ∃ hd, hd = headN s.kn s.hs B T := ⟨_, rfl⟩
    obtain ⟨K, hK⟩ : ∃ K, K = knN s.kn s.hs B := ⟨_, rfl⟩
    have eB : buildB x s.kn s.hs B T = (⟨signH x hd, byN B⟩, K, 0) := by rw [hhd, hK]; exact if_neg hbad
    rw [eB] at cB
    refine .t 5 9 rfl rfl (.cm 2 (.row 45 69 ((s.hs).flatMap Hd.dv)) rfl (cB) rfl) ?_
    refine .t 9 9 rfl rfl (.bv (.bool true) rfl (rfl)) ?_
    refine .d 1 10 rfl ?_
    refine .v 1 10 [9] rfl rfl (fun _ _ => .lp (Pub.dv ⟨signH x hd, byN B⟩) rfl) ?_
    refine .t 0 10 (E := ⟨some (86, _), [(10, _)]⟩) [10] rfl rfl (fun _ _ => .bb (Pub.dv ⟨signH x hd, byN B⟩) 10 rfl) ?_
    refine .t 0 11 (E := ⟨some (87, _), [(1, .dead), (11, _)]⟩) [1, 10, 11] rfl rfl (fun _ _ => .ap 11 rfl (flat_length (sz := 70) (enc := Pub.dv) (fun _ => rfl) _) rfl (by omega) (by omega)) ?_
    refine .v 2 12 [9] rfl rfl (fun _ _ => .lp ((signH x hd).dv) rfl) ?_
    refine .t 0 12 (E := ⟨some (91, _), [(12, _)]⟩) [12] rfl rfl (fun _ _ => .bb ((signH x hd).dv) 12 rfl) ?_
    refine .t 0 13 (E := ⟨some (92, _), [(2, .dead), (13, _)]⟩) [2, 12, 13] rfl rfl (fun _ _ => .ap 13 rfl (flat_length (sz := 69) (enc := Hd.dv) (fun _ => rfl) _) rfl (by omega) (by omega)) ?_
    refine .y 4 14 rfl (by kernel_rfl) ?_
    refine .t 1 14 rfl rfl (.bv (.int .i64 ((i + 1 : Nat) : Int)) rfl (congrArg _ (by (try dsimp only); rw [IntKind.wrap_i64]; omega))) ?_
    refine .g 1 14 rfl ?_
    have e1 : epsR x (l.take (i + 1)) = ⟨s.ps ++ [⟨signH x hd, byN B⟩], s.hs ++ [signH x hd], K, T⟩ := by rw [epsR_snoc x hi, ← hs, hhd, hK, hT, hB]; exact if_neg (by rw [← hB, ← hT, hgood]; simp)
    refine TE.set 7 (.ow 11 (epsR x (l.take (i + 1))).ps.length 70) rfl (by rw [e1]; simp) ?_
    refine TE.set 8 (.ow 13 (epsR x (l.take (i + 1))).hs.length 69) rfl (by rw [e1]; simp) ?_
    refine TE.set 9 (.d (slT Kn.dv 4 ((epsR x (l.take (i + 1))).kn))) rfl (by rw [e1]) ?_
    refine TE.setv 10 (.int .i64 (epsR x (l.take (i + 1))).tk) rfl (by rw [e1]) ?_
    refine TE.obj 11 (.row 65 70 (((epsR x (l.take (i + 1))).ps).flatMap Pub.dv)) rfl (by rw [e1]; simp [List.flatMap_append]) ?_
    refine TE.obj 13 (.row 45 69 (((epsR x (l.take (i + 1))).hs).flatMap Hd.dv)) rfl (by rw [e1]; simp [List.flatMap_append]) ?_
    refine TE.setv 11 (.int .i64 ((i + 1 : Nat) : Int)) rfl (congrArg _ (by first | rfl | (dsimp only; first | done | rfl | omega))) ?_
    exact .rd 0 14 (fun x => swp 1 11 (swp 2 13 x)) (fun _ _ e => swp_inj 2 13 _ _ (swp_inj 1 11 _ _ e)) rfl (i + 1) hi (by omega) rfl rfl rfl
 ·skip
  have hi : ¬ (i < l.length) := by have q := of_decide_eq_false h1; (try dsimp only at q); omega
  have e : epsR x (l.take (i)) = epsR x l := by rw [List.take_of_length_le (by omega)]
  refine .g 6 14 rfl ?_
  rw [← e]
  refine TE.frz 4 (slT Pub.dv 70 ((epsR x (l.take (i))).ps)) rfl rfl (flat_length (sz := 70) (enc := Pub.dv) (fun _ => rfl) _) rfl ?_
  refine TE.frz 6 (slT Hd.dv 69 ((epsR x (l.take (i))).hs)) rfl rfl (flat_length (sz := 69) (enc := Hd.dv) (fun _ => rfl) _) rfl ?_
  exact .z 0 14 rfl (TE.rettc rfl rfl rfl)
end Go.Proofs.YtdjcclcejmeheaaGreat

