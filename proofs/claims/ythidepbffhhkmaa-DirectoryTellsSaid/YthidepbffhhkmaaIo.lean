/-
  DirectoryOrder.
-/
import Derived.Test.YthidepbffhhkmaaEd
namespace Go.Proofs.Ythidepbffhhkmaa
set_option linter.unusedVariables false
set_option linter.unusedSimpArgs false
open Go.RowKit Pl

theorem cf16 : cfn Try.prog 16 = true := by kernel_rfl
theorem cf17 : cfn Try.prog 17 = true := by kernel_rfl
theorem cf8 : cfn Try.prog 8 = true := by kernel_rfl
theorem cf9 : cfn Try.prog 9 = true := by kernel_rfl
theorem ub4 : ubl Try.prog 4 = true := by kernel_rfl

theorem setA_len (x : List It) : (setA [] x).length ≤ x.length := by
  rw [setA_sr]; have := setR_len x []; simpa using this
theorem items_len (l : List Kn) (ep : Int) : (setA [] (itsK ep l)).length ≤ l.length := Nat.le_trans (setA_len _) (itsK_le ep l)

set_option maxRecDepth 100000 in
set_option maxHeartbeats 1600000 in
theorem directoryOrder_pf (l m : List UInt8) (b : UInt8) : PF Try.prog 4 [slT bdv 1 l, slT bdv 1 m, .v (.int .u8 ((b.toNat : Nat) : Int))] (.v (.bool true)) := by
  obtain ⟨D, hD⟩ : ∃ D, D = dirD l := ⟨_, rfl⟩
  have hc : chainK none D := hD ▸ dirD_chain l
  have hDl : D.length ≤ l.length := hD ▸ dirD_len l
  have hDf : epFit D := hD ▸ dirD_fit l
  have kd : ∀ (h : l.length ≤ 1048576), PC Try.prog 9 [slT bdv 1 l] (slT Kn.dv 4 D) := fun h => hD ▸ dir_pc l h
  have hD := Lib.hid hD
  obtain ⟨E, hE⟩ : ∃ E, E = entsD D m := ⟨_, rfl⟩
  have hEl : E.length = m.length := by rw [hE]; exact entsD_len D m
  obtain ⟨R, hR⟩ : ∃ R, R = addR D 100 E := ⟨_, rfl⟩
  have hRc : chainK none R.1 := hR ▸ addR_chain hc 100 E
  have hRf : epFit R.1 := hR ▸ addR_fit (by decide) hDf E
  have hRl : R.1.length ≤ D.length + E.length := hR ▸ addR_len D 100 E
  have a1 : ∀ (h : D.length ≤ 1048576) (h2 : E.length ≤ 1048576), PC Try.prog 15 [slT Kn.dv 4 D, .v (.int .i64 100), slT En.dv 3 (E)] (.tp [slT Kn.dv 4 R.1, .v (.bool R.2)]) := fun h h2 => by have q := addp_pc D 100 E h h2; rwa [addP_right hc, ← hR] at q
  have a2 : ∀ (h : D.length ≤ 1048576) (h2 : E.length ≤ 1048576), PC Try.prog 15 [slT Kn.dv 4 D, .v (.int .i64 100), slT En.dv 3 (rotN E b.toNat E.length)] (.tp [slT Kn.dv 4 R.1, .v (.bool R.2)]) := fun h h2 => by have q := addp_pc D 100 (rotN E b.toNat E.length) h (by rw [(rotN_perm E b.toNat).length_eq]; exact h2); rwa [addP_right hc, addR_perm hc (rotN_perm E b.toNat), ← hR] at q
  have hR := Lib.hid hR
  have hE := Lib.hid hE
  refine PF.enter (fn := Try.f4) Try.func4 rfl Try.ntmps4 rfl (fun w0 => ?_)
  refine .seq ?_
  refine .region ?_
  refine .step rfl (.assign rfl rfl) ?_
  refine .nil ?_
  refine .next ?_
  refine .seq ?_
  refine .seq ?_
  refine .region ?_
  refine .step rfl (.callf rfl cf8 rfl trivial (known_pf)) ?_
  refine .step rfl (.un rfl rfl rfl) ?_
  refine .nil ?_
  refine .next ?_
  refine .cond rfl (fun h1 => absurd h1 (by decide)) (fun h1 => ?_)
  refine .skip ?_
  refine .next ?_
  refine .seq ?_
  refine .seq ?_
  by_cases h20 : 20 < l.length
  ·skip
   refine .region ?_
   refine .step rfl (.move rfl rfl) ?_
   refine .step rfl (.len rfl rfl ⟨_, _, rfl⟩ is22) ?_
   refine .step rfl (.binv (.bool true) rfl rfl rfl rfl (congrArg Value.bool (decide_eq_true (by omega)))) ?_
   refine .step rfl (.move rfl rfl) ?_
   refine .no 23 rfl rfl rfl rfl rfl rfl rfl ?_
   refine .no 23 rfl rfl rfl rfl rfl rfl rfl ?_
   refine .no 23 rfl rfl rfl rfl rfl rfl rfl ?_
   refine .step rfl (.pick rfl rfl rfl) ?_
   refine .nil ?_
   refine .next ?_
   refine .cond rfl (fun h3 => ?_) (fun h3 => absurd h3 (by decide))
   refine .seq ?_
   refine .region ?_
   refine .step rfl (.assign rfl rfl) ?_
   refine .nil ?_
   refine .next ?_
   refine .ret ?_
   exact TE.retf rfl rfl rfl trivial
  ·skip
   by_cases h8 : 8 < m.length
   ·skip
    refine .region ?_
    refine .step rfl (.move rfl rfl) ?_
    refine .step rfl (.len rfl rfl ⟨_, _, rfl⟩ is22) ?_
    refine .step rfl (.binv (.bool false) rfl rfl rfl rfl (congrArg Value.bool (decide_eq_false (by omega)))) ?_
    refine .step rfl (.move rfl rfl) ?_
    refine .go 23 rfl rfl rfl rfl (.move rfl rfl) ?_
    refine .go 23 rfl rfl rfl rfl (.len rfl rfl ⟨_, _, rfl⟩ is22) ?_
    refine .go 23 rfl rfl rfl rfl (.binv (.bool true) rfl rfl rfl rfl (congrArg Value.bool (decide_eq_true (by omega)))) ?_
    refine .step rfl (.pick rfl rfl rfl) ?_
    refine .nil ?_
    refine .next ?_
    refine .cond rfl (fun h5 => ?_) (fun h5 => absurd h5 (by decide))
    refine .seq ?_
    refine .region ?_
    refine .step rfl (.assign rfl rfl) ?_
    refine .nil ?_
    refine .next ?_
    refine .ret ?_
    exact TE.retf rfl rfl rfl trivial
   ·skip
    refine .region ?_
    refine .step rfl (.move rfl rfl) ?_
    refine .step rfl (.len rfl rfl ⟨_, _, rfl⟩ is22) ?_
    refine .step rfl (.binv (.bool false) rfl rfl rfl rfl (congrArg Value.bool (decide_eq_false (by omega)))) ?_
    refine .step rfl (.move rfl rfl) ?_
    refine .go 23 rfl rfl rfl rfl (.move rfl rfl) ?_
    refine .go 23 rfl rfl rfl rfl (.len rfl rfl ⟨_, _, rfl⟩ is22) ?_
    refine .go 23 rfl rfl rfl rfl (.binv (.bool false) rfl rfl rfl rfl (congrArg Value.bool (decide_eq_false (by omega)))) ?_
    refine .step rfl (.pick rfl rfl rfl) ?_
    refine .nil ?_
    refine .next ?_
    refine .cond rfl (fun h6 => absurd h6 (by decide)) (fun h6 => ?_)
    refine .skip ?_
    refine .next ?_
    refine .seq ?_
    refine .region ?_
    refine .step rfl (.move rfl rfl) ?_
    refine .step rfl (.callc rfl cf9 rfl (kd (by omega))) ?_
    refine .step rfl (.assign rfl rfl) ?_
    refine .nil ?_
    refine .next ?_
    refine .seq ?_
    refine .region ?_
    refine .step rfl (.assign rfl rfl) ?_
    refine .nil ?_
    refine TE.own0 8 1 30 3 rfl rfl ?_
    refine .next ?_
    refine .seq ?_
    refine .seq ?_
    refine .region ?_
    refine .step rfl (.assign rfl rfl) ?_
    refine .nil ?_
    refine TE.setv 9 (.int .i64 ((0 : Nat) : Int)) rfl (congrArg _ (by first | rfl | (dsimp only; first | done | rfl | omega))) ?_
    refine TE.set 8 (.ow 1 (entsD D (m.take 0)).length 3) rfl rfl ?_
    refine TE.obj 1 (.row 30 3 ((entsD D (m.take 0)).flatMap En.dv)) rfl rfl ?_
    refine .next ?_
    refine .block ?_
    refine TC.loop (S := Nat) (fun i => i ≤ m.length) (fun i => m.length - i) (fun i => [(0, .d (slT bdv 1 l)), (1, .d (slT bdv 1 m)), (2, .d (.v (.int .u8 ((b.toNat : Nat) : Int)))), (7, .d (slT Kn.dv 4 D)), (8, .ow 1 (entsD D (m.take (i))).length 3), (9, .d (.v (.int .i64 ((i : Nat) : Int))))]) (fun i => [(1, .row 30 3 ((entsD D (m.take (i))).flatMap En.dv))]) (0) (Nat.zero_le _) ⟨⟨rfl, rfl⟩, ⟨rfl, rfl⟩, ⟨rfl, rfl⟩, ⟨rfl, rfl⟩, ⟨rfl, rfl⟩, ⟨rfl, rfl⟩, trivial⟩ ⟨.inr rfl, trivial⟩ (fun i hI => ?_)
    refine .seq ?_
    refine .seq ?_
    refine .region ?_
    refine .step rfl (.move rfl rfl) ?_
    refine .step rfl (.move rfl rfl) ?_
    refine .step rfl (.len rfl rfl ⟨_, _, rfl⟩ is22) ?_
    refine .step rfl (.bin rfl rfl rfl rfl) ?_
    refine .nil ?_
    refine .next ?_
    refine .cond rfl (fun h7 => ?_) (fun h7 => ?_)
    ·skip
     have hi : i < m.length := by have q := of_decide_eq_true h7; (try dsimp only at q); omega
     refine .skip ?_
     refine .next ?_
     refine .seq ?_
     refine .block ?_
     refine .seq ?_
     refine .region ?_
     refine .step rfl (.move rfl rfl) ?_
     refine .step rfl (.move rfl rfl) ?_
     refine .step rfl (.move rfl rfl) ?_
     refine .step rfl (.idx (m[i]) rfl rfl rfl rfl et22 (fun _ => rfl) (Int.natCast_nonneg i) (get_nat hi)) ?_
     refine .step rfl (.lde rfl rfl rfl rfl tk5) ?_
     refine .step rfl (.callf rfl cf13 rfl ⟨trivial, trivial⟩ (name_pf m[i])) ?_
     refine .step rfl (.callf rfl cf12 rfl ⟨trivial, trivial, trivial⟩ (rlatest_any D (nameL ((m[i].toNat : Nat) : Int)) (by omega))) ?_
     refine .step rfl (.move rfl rfl) ?_
     refine .step rfl (.extract rfl rfl rfl rfl) ?_
     refine .step rfl (.extract rfl rfl rfl rfl) ?_
     refine .step rfl (.alloc 2 rfl rfl zc32 rfl) ?_
     refine .step rfl (.store rfl rfl rfl sz32 rfl rfl) ?_
     refine .step rfl (.assign rfl rfl) ?_
     refine .nil ?_
     refine .next ?_
     refine .draw mixed [Ro.mk _ (Eff.mk (some (46, _)) []) [], Ro.mk _ (Eff.mk (some (47, _)) []) [], Ro.mk _ (Eff.mk (some (48, _)) []) [], Ro.mk _ (Eff.mk (some (49, _)) []) [], Ro.mk _ (Eff.mk (some (50, _)) []) [], Ro.mk _ (Eff.mk (some (51, _)) []) [2], Ro.mk _ (Eff.mk (some (52, _)) []) [2], Ro.mk _ (Eff.mk (some (53, _)) []) [2], Ro.mk _ (Eff.mk (some (54, _)) []) [], Ro.mk _ (Eff.mk (some (55, _)) []) [], Ro.mk _ (Eff.mk (some (56, _)) [(3, _)]) [3], Ro.mk _ (Eff.mk (some (57, _)) [(1, .dead), (4, _)]) [1, 3, 4], Ro.mk _ (Eff.mk (some (8, _)) []) []] rfl ⟨(fun _ _ => .move rfl rfl), (fun _ _ => .move rfl rfl), (fun _ _ => .move rfl rfl), (fun _ _ => .idx (m[i]) rfl rfl rfl rfl et22 (fun _ => rfl) (Int.natCast_nonneg i) (get_nat hi)), (fun _ _ => .lde rfl rfl rfl rfl tk5), (fun _ _ => .fieldp rfl rfl rfl rfl fo32_0), (fun _ _ => .fieldp rfl rfl rfl rfl fo30_1), (fun _ _ => .ldp rfl rfl rfl rfl rfl tk3), (fun _ _ => .bin rfl rfl rfl rfl), (fun _ _ => .callf rfl cf14 rfl ⟨trivial, trivial, trivial⟩ (entry_pf m[i] (i64w ((latR D (nameL ((m[i].toNat : Nat) : Int))).1.ver + 1)))), (fun _ _ => .buildsl (ds := (pendE D m[i]).dv) 3 rfl rfl rfl ap39 zc30 rfl rfl rfl), (fun _ _ => .append 4 rfl rfl rfl (flat_length (sz := 3) (enc := En.dv) (fun _ => rfl) _) rfl ap39 rfl rfl (okA_len rfl rfl) rfl (by have := entsD_len D (m.take i); rw [List.length_take] at this; omega) (by have := entsD_len D (m.take i); rw [List.length_take] at this; omega)), (fun _ _ => .assign rfl rfl), trivial⟩ (by kernel_rfl) ?_
     refine TE.blk ?_
     refine .next ?_
     refine .region ?_
     refine .step rfl (.move rfl rfl) ?_
     refine .step rfl (.binv (.int .i64 ((i + 1 : Nat) : Int)) rfl rfl rfl rfl (congrArg _ (by (try dsimp only); rw [IntKind.wrap_i64]; omega))) ?_
     refine .step rfl (.assign rfl rfl) ?_
     refine .nil ?_
     refine TE.set 8 (.ow 4 (entsD D (m.take (i + 1))).length 3) rfl (by rw [entsD_snoc hi] <;> simp) ?_
     refine TE.obj 4 (.row 30 3 ((entsD D (m.take (i + 1))).flatMap En.dv)) rfl (by rw [entsD_snoc hi] <;> simp [List.flatMap_append]) ?_
     refine TE.setv 9 (.int .i64 ((i + 1 : Nat) : Int)) rfl (congrArg _ (by first | rfl | (dsimp only; first | done | rfl | omega))) ?_
     exact TE.round (swp 1 4) (swp_inj 1 4) (i + 1) (by omega) (by omega) ⟨⟨rfl, rfl⟩, ⟨rfl, rfl⟩, ⟨rfl, rfl⟩, ⟨rfl, rfl⟩, ⟨rfl, rfl⟩, ⟨rfl, rfl⟩, trivial⟩ ⟨.inr rfl, trivial⟩
    ·skip
     have hi : ¬ (i < m.length) := by have q := of_decide_eq_false h7; (try dsimp only at q); omega
     have e : E = entsD D (m.take i) := by rw [hE.out, List.take_of_length_le (by omega)]
     refine .exit ?_
     refine TE.pass ?_
     refine TE.pass ?_
     refine TE.here ?_
     refine .next ?_
     refine .seq ?_
     refine .region ?_
     refine .step rfl (.assign rfl rfl) ?_
     refine .nil ?_
     refine TE.own0 12 5 30 3 rfl rfl ?_
     refine .next ?_
     refine .seq ?_
     refine .seq ?_
     refine TC.frz 8 (slT En.dv 3 (E)) rfl rfl (flat_length (sz := 3) (enc := En.dv) (fun _ => rfl) _) (by rw [e]) ?_
     refine .region ?_
     refine .step rfl (.assign rfl rfl) ?_
     refine .nil ?_
     refine TE.setv 13 (.int .i64 ((0 : Nat) : Int)) rfl (congrArg _ (by first | rfl | (dsimp only; first | done | rfl | omega))) ?_
     refine .next ?_
     refine .block ?_
     refine TC.loop (S := Nat) (fun i => i ≤ E.length) (fun i => E.length - i) (fun i => [(0, .d (slT bdv 1 l)), (1, .d (slT bdv 1 m)), (2, .d (.v (.int .u8 ((b.toNat : Nat) : Int)))), (7, .d (slT Kn.dv 4 D)), (8, .d (slT En.dv 3 (E))), (12, .ow 5 (rotN E b.toNat (i)).length 3), (13, .d (.v (.int .i64 ((i : Nat) : Int))))]) (fun i => [(1, .dead), (5, .row 30 3 ((rotN E b.toNat (i)).flatMap En.dv))]) (0) (Nat.zero_le _) ⟨⟨rfl, rfl⟩, ⟨rfl, rfl⟩, ⟨rfl, rfl⟩, ⟨rfl, rfl⟩, ⟨rfl, rfl⟩, ⟨rfl, rfl⟩, ⟨rfl, rfl⟩, trivial⟩ ⟨.inl rfl, .inr rfl, trivial⟩ (fun i hI => ?_)
     refine .seq ?_
     refine .seq ?_
     refine .region ?_
     refine .step rfl (.move rfl rfl) ?_
     refine .step rfl (.move rfl rfl) ?_
     refine .step rfl (.len rfl rfl ⟨_, _, rfl⟩ is39) ?_
     refine .step rfl (.bin rfl rfl rfl rfl) ?_
     refine .nil ?_
     refine .next ?_
     refine .cond rfl (fun h8 => ?_) (fun h8 => ?_)
     ·skip
      have hi : i < E.length := by have q := of_decide_eq_true h8; (try dsimp only at q); omega
      have hmod : (i + b.toNat) % E.length < E.length := Nat.mod_lt _ (by omega)
      refine .skip ?_
      refine .next ?_
      refine .seq ?_
      refine .block ?_
      refine .region ?_
      refine .step rfl (.move rfl rfl) ?_
      refine .step rfl (.move rfl rfl) ?_
      refine .step rfl (.move rfl rfl) ?_
      refine .step rfl (.move rfl rfl) ?_
      refine .step rfl (.conviv (((b.toNat : Nat) : Int)) rfl rfl uk5 uk3 (IntKind.wrap_i64 _ ▸ (by have := b.toNat_lt; omega))) ?_
      refine .step rfl (.binv (.int .i64 ((i + b.toNat : Nat) : Int)) rfl rfl rfl rfl (congrArg _ (by (try dsimp only); rw [IntKind.wrap_i64]; have := b.toNat_lt; omega))) ?_
      refine .step rfl (.move rfl rfl) ?_
      refine .step rfl (.len rfl rfl ⟨_, _, rfl⟩ is39) ?_
      refine .step rfl (.rem ((((i + b.toNat) % E.length : Nat) : Int)) rfl rfl rfl (by omega) (by rw [Int.tmod_eq_emod_of_nonneg (by omega)]; omega)) ?_
      refine .step rfl (.idx (E[(i + b.toNat) % E.length]) rfl rfl rfl rfl et39 (fun _ => rfl) (Int.natCast_nonneg _) (get_nat hmod)) ?_
      refine .step rfl (.ldem (ds := E[(i + b.toNat) % E.length].dv) rfl rfl rfl rfl rfl tk30) ?_
      refine .step rfl (.buildsl (ds := E[(i + b.toNat) % E.length].dv) 6 rfl rfl rfl ap39 zc30 rfl rfl rfl) ?_
      refine .step rfl (.append 7 rfl rfl rfl (flat_length (sz := 3) (enc := En.dv) (fun _ => rfl) _) rfl ap39 rfl rfl (okA_len rfl rfl) rfl (by rw [rotN_len E _ (by omega)]; omega) (by rw [rotN_len E _ (by omega)]; omega)) ?_
      refine .step rfl (.assign rfl rfl) ?_
      refine .nil ?_
      refine TE.blk ?_
      refine .next ?_
      refine .region ?_
      refine .step rfl (.move rfl rfl) ?_
      refine .step rfl (.binv (.int .i64 ((i + 1 : Nat) : Int)) rfl rfl rfl rfl (congrArg _ (by (try dsimp only); rw [IntKind.wrap_i64]; omega))) ?_
      refine .step rfl (.assign rfl rfl) ?_
      refine .nil ?_
      refine TE.set 12 (.ow 7 (rotN E b.toNat (i + 1)).length 3) rfl (by rw [rotN_succ hmod] <;> simp) ?_
      refine TE.obj 7 (.row 30 3 ((rotN E b.toNat (i + 1)).flatMap En.dv)) rfl (by rw [rotN_succ hmod] <;> simp [List.flatMap_append]) ?_
      refine TE.setv 13 (.int .i64 ((i + 1 : Nat) : Int)) rfl (congrArg _ (by first | rfl | (dsimp only; first | done | rfl | omega))) ?_
      exact TE.round (swp 5 7) (swp_inj 5 7) (i + 1) (by omega) (by omega) ⟨⟨rfl, rfl⟩, ⟨rfl, rfl⟩, ⟨rfl, rfl⟩, ⟨rfl, rfl⟩, ⟨rfl, rfl⟩, ⟨rfl, rfl⟩, ⟨rfl, rfl⟩, trivial⟩ ⟨.inl rfl, .inr rfl, trivial⟩
     ·skip
      have hi : ¬ (i < E.length) := by have q := of_decide_eq_false h8; (try dsimp only at q); omega
      have e2 : rotN E b.toNat E.length = rotN E b.toNat i := by rw [show i = E.length by omega]
      refine .exit ?_
      refine TE.pass ?_
      refine TE.pass ?_
      refine TE.here ?_
      refine .next ?_
      refine .seq ?_
      refine TC.frz 12 (slT En.dv 3 (rotN E b.toNat E.length)) rfl rfl (flat_length (sz := 3) (enc := En.dv) (fun _ => rfl) _) (by rw [e2]) ?_
      refine .region ?_
      refine .step rfl (.move rfl rfl) ?_
      refine .step rfl (.move rfl rfl) ?_
      refine .step rfl (.callc rfl cf15 rfl (a1 (by omega) (by omega))) ?_
      refine .step rfl (.move rfl rfl) ?_
      refine .step rfl (.extract rfl rfl rfl rfl) ?_
      refine .step rfl (.extract rfl rfl rfl rfl) ?_
      refine .step rfl (.assign rfl rfl) ?_
      refine .step rfl (.assign rfl rfl) ?_
      refine .nil ?_
      refine .next ?_
      refine .seq ?_
      refine .region ?_
      refine .step rfl (.move rfl rfl) ?_
      refine .step rfl (.move rfl rfl) ?_
      refine .step rfl (.callc rfl cf15 rfl (a2 (by omega) (by omega))) ?_
      refine .step rfl (.move rfl rfl) ?_
      refine .step rfl (.extract rfl rfl rfl rfl) ?_
      refine .step rfl (.extract rfl rfl rfl rfl) ?_
      refine .step rfl (.assign rfl rfl) ?_
      refine .step rfl (.assign rfl rfl) ?_
      refine .nil ?_
      refine .next ?_
      refine .seq ?_
      refine .region ?_
      refine .step rfl (.move rfl rfl) ?_
      refine .step rfl (.move rfl rfl) ?_
      refine .step rfl (.eqb true rfl rfl rfl ub4 (by simp)) ?_
      refine .step rfl (.move rfl rfl) ?_
      refine .go 92 rfl rfl rfl rfl (.move rfl rfl) ?_
      refine .go 92 rfl rfl rfl rfl (.move rfl rfl) ?_
      refine .go 92 rfl rfl rfl rfl (.callf rfl cf16 rfl ⟨trivial, trivial, trivial⟩ (samek_pf R.1 (by omega) (kn_fit hRc hRf))) ?_
      refine .step rfl (.pick rfl rfl rfl) ?_
      refine .step rfl (.move rfl rfl) ?_
      refine .go 97 rfl rfl rfl rfl (.move rfl rfl) ?_
      refine .go 97 rfl rfl rfl rfl (.callc rfl cf10 rfl (items_pc R.1 100 (by omega) (kn_in hRc))) ?_
      refine .go 97 rfl rfl rfl rfl (.move rfl rfl) ?_
      refine .go 97 rfl rfl rfl rfl (.callc rfl cf10 rfl (items_pc R.1 100 (by omega) (kn_in hRc))) ?_
      refine .go 97 rfl rfl rfl rfl (.callf rfl cf17 rfl ⟨trivial, trivial, trivial⟩ (samei_pf _ (Nat.le_trans (items_len R.1 100) (by omega)))) ?_
      refine .step rfl (.pick rfl rfl rfl) ?_
      refine .step rfl (.assign rfl rfl) ?_
      refine .nil ?_
      refine .next ?_
      refine .ret ?_
      exact TE.retf rfl rfl rfl trivial

end Go.Proofs.Ythidepbffhhkmaa
