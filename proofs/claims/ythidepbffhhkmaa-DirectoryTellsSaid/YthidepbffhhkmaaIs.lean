/-
  DirectoryTells.
-/
import Derived.Test.YthidepbffhhkmaaEg
namespace Go.Proofs.Ythidepbffhhkmaa
set_option linter.unusedVariables false
set_option linter.unusedSimpArgs false
open Go.RowKit Pl

theorem ap49 : apt Try.prog 49 = some (24, 1, 24) := by kernel_rfl
theorem ap51 : apt Try.prog 51 = some (39, 1, 24) := by kernel_rfl
theorem cf19 : cfn Try.prog 19 = true := by kernel_rfl
theorem cf23 : cfn Try.prog 23 = true := by kernel_rfl
theorem cf24 : cfn Try.prog 24 = true := by kernel_rfl
theorem et49 : elt Try.prog 49 = some (24, 1) := by kernel_rfl
theorem et51 : elt Try.prog 51 = some (39, 1) := by kernel_rfl
theorem is49 : isSl Try.prog 49 = some true := by kernel_rfl
theorem is51 : isSl Try.prog 51 = some true := by kernel_rfl
theorem is53 : isSl Try.prog 53 = some true := by kernel_rfl
theorem sz28 : szt Try.prog 28 = some 1 := by kernel_rfl
theorem sz3 : szt Try.prog 3 = some 1 := by kernel_rfl
theorem sz9 : szt Try.prog 9 = some 1 := by kernel_rfl
theorem tk24 : tyk Try.prog 24 = some none := by kernel_rfl
theorem tk39 : tyk Try.prog 39 = some none := by kernel_rfl
theorem zc24 : zc Try.prog 24 = some [.slice none 0 0] := by kernel_rfl
theorem zc39 : zc Try.prog 39 = some [.slice none 0 0] := by kernel_rfl

set_option maxRecDepth 100000 in
set_option maxHeartbeats 1600000 in
theorem directoryTells_pf (l : List UInt8) (raw : List Kn) (bt : List En) (m : List UInt8) (ep : Int) (s : List UInt8) (b w : UInt8) (v : Int) (hep : -9223372036854775808 ≤ ep ∧ ep < 9223372036854775808) (hs : s.length ≤ maxLen) (hv : -9223372036854775808 ≤ v ∧ v < 9223372036854775808) : PF Try.prog 5 [slT bdv 1 l, slT Kn.dv 4 raw, slT En.dv 3 bt, slT bdv 1 m, .v (.int .i64 ep), .v (.string ⟨⟨s⟩⟩), .v (.int .u8 ((b.toNat : Nat) : Int)), .v (.int .u8 ((w.toNat : Nat) : Int)), .v (.int .i64 v)] (.v (.bool true)) := by
  obtain ⟨D, hD⟩ : ∃ D, D = dirD l := ⟨_, rfl⟩
  have hc : chainK none D := hD ▸ dirD_chain l
  have hDl : D.length ≤ l.length := hD ▸ dirD_len l
  have hDf : epFit D := hD ▸ dirD_fit l
  have kd : ∀ (h : l.length ≤ 1048576), PC Try.prog 9 [slT bdv 1 l] (slT Kn.dv 4 D) := fun h => hD ▸ dir_pc l h
  have hD := Lib.hid hD
  obtain ⟨T, hT⟩ : ∃ T, T = maxE D := ⟨_, rfl⟩
  have hT0 : 0 ≤ T := hT ▸ (maxE_go D 0).1
  have hmx : ∀ k ∈ D, k.ep ≤ T := hT ▸ (maxE_go D 0).2
  have hTl : l.length ≤ 1048576 → T ≤ l.length := fun h => hT ▸ maxE_up D 0 _ (by omega) (fun k hk => by have := dirD_ep h k (hD.out ▸ hk); omega)
  obtain ⟨Y, hY⟩ : ∃ Y, Y = yF D b w v s := ⟨_, rfl⟩
  have hYl : Y.length = D.length := hY ▸ yF_len D b w v s
  obtain ⟨Zs, hZ⟩ : ∃ Zs, Zs = [raw, D, Y] := ⟨_, rfl⟩
  have hZl : Zs.length = 3 := by rw [hZ]; rfl
  have hZb : raw.length ≤ 1048576 → D.length ≤ 1048576 → ∀ z ∈ Zs, z.length ≤ 1048577 := fun h1 h2 z hz => by rw [hZ] at hz; simp only [List.mem_cons, List.not_mem_nil, or_false] at hz; rcases hz with rfl | rfl | rfl <;> omega
  obtain ⟨E, hE⟩ : ∃ E, E = entsX D m := ⟨_, rfl⟩
  have hEl : E.length = m.length := by rw [hE]; exact entsX_len D m
  obtain ⟨Bs, hB⟩ : ∃ Bs, Bs = [bt, E] := ⟨_, rfl⟩
  have hBl : Bs.length = 2 := by rw [hB]; rfl
  have hBb : bt.length ≤ 1048576 → E.length ≤ 1048576 → ∀ z ∈ Bs, z.length ≤ 1048576 := fun h1 h2 z hz => by rw [hB] at hz; simp only [List.mem_cons, List.not_mem_nil, or_false] at hz; rcases hz with rfl | rfl <;> omega
  obtain ⟨Is, hI2⟩ : ∃ Is, Is = [ep, T + 1, T] := ⟨_, rfl⟩
  have hIl : Is.length = 3 := by rw [hI2]; rfl
  have hIb : T ≤ 1048576 → ∀ z ∈ Is, -9223372036854775808 ≤ z ∧ z < 9223372036854775808 := fun h z hz => by rw [hI2] at hz; simp only [List.mem_cons, List.not_mem_nil, or_false] at hz; rcases hz with rfl | rfl | rfl <;> omega
  obtain ⟨Ns, hN⟩ : ∃ Ns, Ns = [s, nameL ((b.toNat : Nat) : Int)] := ⟨_, rfl⟩
  have hNl : Ns.length = 2 := by rw [hN]; rfl
  have hY := Lib.hid hY
  have hZ := Lib.hid hZ
  have hE := Lib.hid hE
  have hB := Lib.hid hB
  have hI2 := Lib.hid hI2
  have hN := Lib.hid hN
  have hT := Lib.hid hT
  have hkf : ∀ k ∈ D, knFit k := kn_fit hc hDf
  refine PF.enter (fn := Try.f5) Try.func5 rfl Try.ntmps5 rfl (fun w0 => ?_)
  refine .seq ?_
  refine .region ?_
  refine .step rfl (.assign rfl rfl) ?_
  refine .nil ?_
  refine .next ?_
  refine .seq ?_
  refine .seq ?_
  refine .region ?_
  refine .step rfl (.callf rfl cf8 rfl trivial (known_pf)) ?_
  refine .step rfl (.un rfl rfl rfl) ?_
  refine .nil ?_
  refine .next ?_
  refine .cond rfl (fun h1 => absurd h1 (by decide)) (fun h1 => ?_)
  refine .skip ?_
  refine .next ?_
  refine .seq ?_
  refine .seq ?_
  by_cases h20 : 20 < l.length
  ·skip
   refine .region ?_
   refine .step rfl (.move rfl rfl) ?_
   refine .step rfl (.len rfl rfl ⟨_, _, rfl⟩ is22) ?_
   refine .step rfl (.binv (.bool true) rfl rfl rfl rfl (congrArg Value.bool (decide_eq_true (by omega)))) ?_
   refine .step rfl (.move rfl rfl) ?_
   refine .no 53 rfl rfl rfl rfl rfl rfl rfl ?_
   refine .no 53 rfl rfl rfl rfl rfl rfl rfl ?_
   refine .no 53 rfl rfl rfl rfl rfl rfl rfl ?_
   refine .step rfl (.pick rfl rfl rfl) ?_
   refine .step rfl (.move rfl rfl) ?_
   refine .no 58 rfl rfl rfl rfl rfl rfl rfl ?_
   refine .no 58 rfl rfl rfl rfl rfl rfl rfl ?_
   refine .no 58 rfl rfl rfl rfl rfl rfl rfl ?_
   refine .step rfl (.pick rfl rfl rfl) ?_
   refine .step rfl (.move rfl rfl) ?_
   refine .no 63 rfl rfl rfl rfl rfl rfl rfl ?_
   refine .no 63 rfl rfl rfl rfl rfl rfl rfl ?_
   refine .no 63 rfl rfl rfl rfl rfl rfl rfl ?_
   refine .step rfl (.pick rfl rfl rfl) ?_
   refine .step rfl (.move rfl rfl) ?_
   refine .no 68 rfl rfl rfl rfl rfl rfl rfl ?_
   refine .no 68 rfl rfl rfl rfl rfl rfl rfl ?_
   refine .no 68 rfl rfl rfl rfl rfl rfl rfl ?_
   refine .step rfl (.pick rfl rfl rfl) ?_
   refine .nil ?_
   refine .next ?_
   refine .cond rfl (fun h3 => ?_) (fun h3 => absurd h3 (by decide))
   refine .seq ?_
   refine .region ?_
   refine .step rfl (.assign rfl rfl) ?_
   refine .nil ?_
   refine .next ?_
   refine .ret ?_
   exact TE.retf rfl rfl rfl trivial
  ·skip
   by_cases h12 : 12 < raw.length
   ·skip
    refine .region ?_
    refine .step rfl (.move rfl rfl) ?_
    refine .step rfl (.len rfl rfl ⟨_, _, rfl⟩ is22) ?_
    refine .step rfl (.binv (.bool false) rfl rfl rfl rfl (congrArg Value.bool (decide_eq_false (by omega)))) ?_
    refine .step rfl (.move rfl rfl) ?_
    refine .go 53 rfl rfl rfl rfl (.move rfl rfl) ?_
    refine .go 53 rfl rfl rfl rfl (.len rfl rfl ⟨_, _, rfl⟩ is24) ?_
    refine .go 53 rfl rfl rfl rfl (.binv (.bool true) rfl rfl rfl rfl (congrArg Value.bool (decide_eq_true (by omega)))) ?_
    refine .step rfl (.pick rfl rfl rfl) ?_
    refine .step rfl (.move rfl rfl) ?_
    refine .no 58 rfl rfl rfl rfl rfl rfl rfl ?_
    refine .no 58 rfl rfl rfl rfl rfl rfl rfl ?_
    refine .no 58 rfl rfl rfl rfl rfl rfl rfl ?_
    refine .step rfl (.pick rfl rfl rfl) ?_
    refine .step rfl (.move rfl rfl) ?_
    refine .no 63 rfl rfl rfl rfl rfl rfl rfl ?_
    refine .no 63 rfl rfl rfl rfl rfl rfl rfl ?_
    refine .no 63 rfl rfl rfl rfl rfl rfl rfl ?_
    refine .step rfl (.pick rfl rfl rfl) ?_
    refine .step rfl (.move rfl rfl) ?_
    refine .no 68 rfl rfl rfl rfl rfl rfl rfl ?_
    refine .no 68 rfl rfl rfl rfl rfl rfl rfl ?_
    refine .no 68 rfl rfl rfl rfl rfl rfl rfl ?_
    refine .step rfl (.pick rfl rfl rfl) ?_
    refine .nil ?_
    refine .next ?_
    refine .cond rfl (fun h5 => ?_) (fun h5 => absurd h5 (by decide))
    refine .seq ?_
    refine .region ?_
    refine .step rfl (.assign rfl rfl) ?_
    refine .nil ?_
    refine .next ?_
    refine .ret ?_
    exact TE.retf rfl rfl rfl trivial
   ·skip
    by_cases h10 : 10 < bt.length
    ·skip
     refine .region ?_
     refine .step rfl (.move rfl rfl) ?_
     refine .step rfl (.len rfl rfl ⟨_, _, rfl⟩ is22) ?_
     refine .step rfl (.binv (.bool false) rfl rfl rfl rfl (congrArg Value.bool (decide_eq_false (by omega)))) ?_
     refine .step rfl (.move rfl rfl) ?_
     refine .go 53 rfl rfl rfl rfl (.move rfl rfl) ?_
     refine .go 53 rfl rfl rfl rfl (.len rfl rfl ⟨_, _, rfl⟩ is24) ?_
     refine .go 53 rfl rfl rfl rfl (.binv (.bool false) rfl rfl rfl rfl (congrArg Value.bool (decide_eq_false (by omega)))) ?_
     refine .step rfl (.pick rfl rfl rfl) ?_
     refine .step rfl (.move rfl rfl) ?_
     refine .go 58 rfl rfl rfl rfl (.move rfl rfl) ?_
     refine .go 58 rfl rfl rfl rfl (.len rfl rfl ⟨_, _, rfl⟩ is39) ?_
     refine .go 58 rfl rfl rfl rfl (.binv (.bool true) rfl rfl rfl rfl (congrArg Value.bool (decide_eq_true (by omega)))) ?_
     refine .step rfl (.pick rfl rfl rfl) ?_
     refine .step rfl (.move rfl rfl) ?_
     refine .no 63 rfl rfl rfl rfl rfl rfl rfl ?_
     refine .no 63 rfl rfl rfl rfl rfl rfl rfl ?_
     refine .no 63 rfl rfl rfl rfl rfl rfl rfl ?_
     refine .step rfl (.pick rfl rfl rfl) ?_
     refine .step rfl (.move rfl rfl) ?_
     refine .no 68 rfl rfl rfl rfl rfl rfl rfl ?_
     refine .no 68 rfl rfl rfl rfl rfl rfl rfl ?_
     refine .no 68 rfl rfl rfl rfl rfl rfl rfl ?_
     refine .step rfl (.pick rfl rfl rfl) ?_
     refine .nil ?_
     refine .next ?_
     refine .cond rfl (fun h7 => ?_) (fun h7 => absurd h7 (by decide))
     refine .seq ?_
     refine .region ?_
     refine .step rfl (.assign rfl rfl) ?_
     refine .nil ?_
     refine .next ?_
     refine .ret ?_
     exact TE.retf rfl rfl rfl trivial
    ·skip
     by_cases h11 : 10 < m.length
     ·skip
      refine .region ?_
      refine .step rfl (.move rfl rfl) ?_
      refine .step rfl (.len rfl rfl ⟨_, _, rfl⟩ is22) ?_
      refine .step rfl (.binv (.bool false) rfl rfl rfl rfl (congrArg Value.bool (decide_eq_false (by omega)))) ?_
      refine .step rfl (.move rfl rfl) ?_
      refine .go 53 rfl rfl rfl rfl (.move rfl rfl) ?_
      refine .go 53 rfl rfl rfl rfl (.len rfl rfl ⟨_, _, rfl⟩ is24) ?_
      refine .go 53 rfl rfl rfl rfl (.binv (.bool false) rfl rfl rfl rfl (congrArg Value.bool (decide_eq_false (by omega)))) ?_
      refine .step rfl (.pick rfl rfl rfl) ?_
      refine .step rfl (.move rfl rfl) ?_
      refine .go 58 rfl rfl rfl rfl (.move rfl rfl) ?_
      refine .go 58 rfl rfl rfl rfl (.len rfl rfl ⟨_, _, rfl⟩ is39) ?_
      refine .go 58 rfl rfl rfl rfl (.binv (.bool false) rfl rfl rfl rfl (congrArg Value.bool (decide_eq_false (by omega)))) ?_
      refine .step rfl (.pick rfl rfl rfl) ?_
      refine .step rfl (.move rfl rfl) ?_
      refine .go 63 rfl rfl rfl rfl (.move rfl rfl) ?_
      refine .go 63 rfl rfl rfl rfl (.len rfl rfl ⟨_, _, rfl⟩ is22) ?_
      refine .go 63 rfl rfl rfl rfl (.binv (.bool true) rfl rfl rfl rfl (congrArg Value.bool (decide_eq_true (by omega)))) ?_
      refine .step rfl (.pick rfl rfl rfl) ?_
      refine .step rfl (.move rfl rfl) ?_
      refine .no 68 rfl rfl rfl rfl rfl rfl rfl ?_
      refine .no 68 rfl rfl rfl rfl rfl rfl rfl ?_
      refine .no 68 rfl rfl rfl rfl rfl rfl rfl ?_
      refine .step rfl (.pick rfl rfl rfl) ?_
      refine .nil ?_
      refine .next ?_
      refine .cond rfl (fun h9 => ?_) (fun h9 => absurd h9 (by decide))
      refine .seq ?_
      refine .region ?_
      refine .step rfl (.assign rfl rfl) ?_
      refine .nil ?_
      refine .next ?_
      refine .ret ?_
      exact TE.retf rfl rfl rfl trivial
     ·skip
      by_cases h40 : 40 < s.length
      ·skip
       refine .region ?_
       refine .step rfl (.move rfl rfl) ?_
       refine .step rfl (.len rfl rfl ⟨_, _, rfl⟩ is22) ?_
       refine .step rfl (.binv (.bool false) rfl rfl rfl rfl (congrArg Value.bool (decide_eq_false (by omega)))) ?_
       refine .step rfl (.move rfl rfl) ?_
       refine .go 53 rfl rfl rfl rfl (.move rfl rfl) ?_
       refine .go 53 rfl rfl rfl rfl (.len rfl rfl ⟨_, _, rfl⟩ is24) ?_
       refine .go 53 rfl rfl rfl rfl (.binv (.bool false) rfl rfl rfl rfl (congrArg Value.bool (decide_eq_false (by omega)))) ?_
       refine .step rfl (.pick rfl rfl rfl) ?_
       refine .step rfl (.move rfl rfl) ?_
       refine .go 58 rfl rfl rfl rfl (.move rfl rfl) ?_
       refine .go 58 rfl rfl rfl rfl (.len rfl rfl ⟨_, _, rfl⟩ is39) ?_
       refine .go 58 rfl rfl rfl rfl (.binv (.bool false) rfl rfl rfl rfl (congrArg Value.bool (decide_eq_false (by omega)))) ?_
       refine .step rfl (.pick rfl rfl rfl) ?_
       refine .step rfl (.move rfl rfl) ?_
       refine .go 63 rfl rfl rfl rfl (.move rfl rfl) ?_
       refine .go 63 rfl rfl rfl rfl (.len rfl rfl ⟨_, _, rfl⟩ is22) ?_
       refine .go 63 rfl rfl rfl rfl (.binv (.bool false) rfl rfl rfl rfl (congrArg Value.bool (decide_eq_false (by omega)))) ?_
       refine .step rfl (.pick rfl rfl rfl) ?_
       refine .step rfl (.move rfl rfl) ?_
       refine .go 68 rfl rfl rfl rfl (.move rfl rfl) ?_
       refine .go 68 rfl rfl rfl rfl (.lens rfl rfl is9) ?_
       refine .go 68 rfl rfl rfl rfl (.binv (.bool true) rfl rfl rfl rfl (congrArg Value.bool (decide_eq_true (by omega)))) ?_
       refine .step rfl (.pick rfl rfl rfl) ?_
       refine .nil ?_
       refine .next ?_
       refine .cond rfl (fun h11 => ?_) (fun h11 => absurd h11 (by decide))
       refine .seq ?_
       refine .region ?_
       refine .step rfl (.assign rfl rfl) ?_
       refine .nil ?_
       refine .next ?_
       refine .ret ?_
       exact TE.retf rfl rfl rfl trivial
      ·skip
       have hTb := hTl (by omega)
       refine .region ?_
       refine .step rfl (.move rfl rfl) ?_
       refine .step rfl (.len rfl rfl ⟨_, _, rfl⟩ is22) ?_
       refine .step rfl (.binv (.bool false) rfl rfl rfl rfl (congrArg Value.bool (decide_eq_false (by omega)))) ?_
       refine .step rfl (.move rfl rfl) ?_
       refine .go 53 rfl rfl rfl rfl (.move rfl rfl) ?_
       refine .go 53 rfl rfl rfl rfl (.len rfl rfl ⟨_, _, rfl⟩ is24) ?_
       refine .go 53 rfl rfl rfl rfl (.binv (.bool false) rfl rfl rfl rfl (congrArg Value.bool (decide_eq_false (by omega)))) ?_
       refine .step rfl (.pick rfl rfl rfl) ?_
       refine .step rfl (.move rfl rfl) ?_
       refine .go 58 rfl rfl rfl rfl (.move rfl rfl) ?_
       refine .go 58 rfl rfl rfl rfl (.len rfl rfl ⟨_, _, rfl⟩ is39) ?_
       refine .go 58 rfl rfl rfl rfl (.binv (.bool false) rfl rfl rfl rfl (congrArg Value.bool (decide_eq_false (by omega)))) ?_
       refine .step rfl (.pick rfl rfl rfl) ?_
       refine .step rfl (.move rfl rfl) ?_
       refine .go 63 rfl rfl rfl rfl (.move rfl rfl) ?_
       refine .go 63 rfl rfl rfl rfl (.len rfl rfl ⟨_, _, rfl⟩ is22) ?_
       refine .go 63 rfl rfl rfl rfl (.binv (.bool false) rfl rfl rfl rfl (congrArg Value.bool (decide_eq_false (by omega)))) ?_
       refine .step rfl (.pick rfl rfl rfl) ?_
       refine .step rfl (.move rfl rfl) ?_
       refine .go 68 rfl rfl rfl rfl (.move rfl rfl) ?_
       refine .go 68 rfl rfl rfl rfl (.lens rfl rfl is9) ?_
       refine .go 68 rfl rfl rfl rfl (.binv (.bool false) rfl rfl rfl rfl (congrArg Value.bool (decide_eq_false (by omega)))) ?_
       refine .step rfl (.pick rfl rfl rfl) ?_
       refine .nil ?_
       refine .next ?_
       refine .cond rfl (fun h12 => absurd h12 (by decide)) (fun h12 => ?_)
       refine .skip ?_
       refine .next ?_
       refine .seq ?_
       refine .region ?_
       refine .step rfl (.move rfl rfl) ?_
       refine .step rfl (.callc rfl cf9 rfl (kd (by omega))) ?_
       refine .step rfl (.assign rfl rfl) ?_
       refine .nil ?_
       refine .next ?_
       refine .seq ?_
       refine .region ?_
       refine .step rfl (.move rfl rfl) ?_
       refine .step rfl (.append0 1 rfl rfl rfl ap24 rfl rfl trivial (flat_one (fun _ => rfl) _) (by omega) (by omega)) ?_
       refine .step rfl (.assign rfl rfl) ?_
       refine .nil ?_
       refine .next ?_
       refine .seq ?_
       refine .joinf [(0, .d (slT bdv 1 l)), (1, .d (slT Kn.dv 4 raw)), (2, .d (slT En.dv 3 bt)), (3, .d (slT bdv 1 m)), (4, .d (.v (.int .i64 ep))), (5, .d (.v (.string ⟨⟨s⟩⟩))), (6, .d (.v (.int .u8 ((b.toNat : Nat) : Int)))), (7, .d (.v (.int .u8 ((w.toNat : Nat) : Int)))), (8, .d (.v (.int .i64 v))), (19, .d (slT Kn.dv 4 D)), (20, .d (slT Kn.dv 4 Y))] [(1, .dead)] (True) (fun hphi => ?_) ?_
       ·skip
        refine .seq ?_
        refine .seq ?_
        refine .region ?_
        refine .step rfl (.move rfl rfl) ?_
        refine .step rfl (.move rfl rfl) ?_
        refine .step rfl (.move rfl rfl) ?_
        refine .step rfl (.buildsl 2 rfl rfl rfl ap49 zc24 rfl rfl rfl) ?_
        refine .step rfl (.leno rfl rfl rfl is49) ?_
        refine .step rfl (.move rfl rfl) ?_
        refine .nil ?_
        refine TE.frz 135 (slT kll 1 Zs) rfl rfl rfl (by rw [hZ.out]; rfl) ?_
        refine TE.setv 137 (.int .i64 ((0 : Nat) : Int)) rfl (congrArg _ (by first | rfl | (dsimp only; first | done | rfl | omega))) ?_
        refine TE.setv 136 (.int .i64 ((3 : Nat) : Int)) rfl rfl ?_
        refine .next ?_
        refine .block ?_
        refine TC.loop (S := Nat) (fun j => j ≤ 3) (fun j => 3 - j) (fun j => [(0, .d (slT bdv 1 l)), (1, .d (slT Kn.dv 4 raw)), (2, .d (slT En.dv 3 bt)), (3, .d (slT bdv 1 m)), (4, .d (.v (.int .i64 ep))), (5, .d (.v (.string ⟨⟨s⟩⟩))), (6, .d (.v (.int .u8 ((b.toNat : Nat) : Int)))), (7, .d (.v (.int .u8 ((w.toNat : Nat) : Int)))), (8, .d (.v (.int .i64 v))), (19, .d (slT Kn.dv 4 D)), (135, .d (slT kll 1 Zs)), (136, .d (.v (.int .i64 ((3 : Nat) : Int)))), (137, .d (.v (.int .i64 ((j : Nat) : Int))))]) (fun j => [(1, .dead), (2, .dead)]) (0) (Nat.zero_le _) ⟨⟨rfl, rfl⟩, ⟨rfl, rfl⟩, ⟨rfl, rfl⟩, ⟨rfl, rfl⟩, ⟨rfl, rfl⟩, ⟨rfl, rfl⟩, ⟨rfl, rfl⟩, ⟨rfl, rfl⟩, ⟨rfl, rfl⟩, ⟨rfl, rfl⟩, ⟨rfl, rfl⟩, ⟨rfl, rfl⟩, ⟨rfl, rfl⟩, trivial⟩ ⟨.inl rfl, .inl rfl, trivial⟩ (fun j hI => ?_)
        refine .seq ?_
        refine .region ?_
        refine .step rfl (.bin rfl rfl rfl rfl) ?_
        refine .nil ?_
        refine .next ?_
        refine .seq ?_
        refine .cond rfl (fun h13 => ?_) (fun h13 => ?_)
        ·skip
         have hj3 : j < 3 := by have q := of_decide_eq_true h13; (try dsimp only at q); omega
         have hjz : j < Zs.length := by omega
         have hzb := hZb (by omega) (by omega)
         refine .skip ?_
         refine .next ?_
         refine .seq ?_
         refine .block ?_
         refine .seq ?_
         refine .region ?_
         refine .step rfl (.idx (Zs[j]) rfl rfl rfl rfl et49 (fun _ => rfl) (Int.natCast_nonneg _) (get_nat hjz)) ?_
         refine .step rfl (.lde rfl rfl rfl rfl tk24) ?_
         refine .step rfl (.assign rfl rfl) ?_
         refine .nil ?_
         refine .next ?_
         refine .seq ?_
         refine .region ?_
         refine .step rfl (.move rfl rfl) ?_
         refine .step rfl (.callf rfl cf18 rfl ⟨trivial, trivial⟩ (right_pf Zs[j] (hzb _ (List.getElem_mem hjz)))) ?_
         refine .step rfl (.move rfl rfl) ?_
         refine .step rfl (.callf rfl cf19 rfl ⟨trivial, trivial⟩ (rright_pf Zs[j] (hzb _ (List.getElem_mem hjz)))) ?_
         refine .step rfl (.neb false rfl rfl rfl ub4 (by simp)) ?_
         refine .nil ?_
         refine .next ?_
         refine .cond rfl (fun h14 => absurd h14 (by decide)) (fun h14 => ?_)
         refine .skip ?_
         refine TE.blk ?_
         refine .next ?_
         refine .region ?_
         refine .step rfl (.binv (.int .i64 ((j + 1 : Nat) : Int)) rfl rfl rfl rfl (congrArg _ (by (try dsimp only); rw [IntKind.wrap_i64]; omega))) ?_
         refine .step rfl (.move rfl rfl) ?_
         refine .nil ?_
         refine TE.setv 137 (.int .i64 ((j + 1 : Nat) : Int)) rfl (congrArg _ (by first | rfl | (dsimp only; first | done | rfl | omega))) ?_
         exact TE.round id (fun _ _ e => e) (j + 1) (by omega) (by omega) ⟨⟨rfl, rfl⟩, ⟨rfl, rfl⟩, ⟨rfl, rfl⟩, ⟨rfl, rfl⟩, ⟨rfl, rfl⟩, ⟨rfl, rfl⟩, ⟨rfl, rfl⟩, ⟨rfl, rfl⟩, ⟨rfl, rfl⟩, ⟨rfl, rfl⟩, ⟨rfl, rfl⟩, ⟨rfl, rfl⟩, ⟨rfl, rfl⟩, trivial⟩ ⟨.inl rfl, .inl rfl, trivial⟩
        ·skip
         have hj3 : ¬ (j < 3) := by have q := of_decide_eq_false h13; (try dsimp only at q); omega
         refine .exit ?_
         refine TE.pass ?_
         refine TE.pass ?_
         refine TE.here ?_
         refine .next ?_
         refine .seq ?_
         refine .region ?_
         refine .step rfl (.assign rfl rfl) ?_
         refine .nil ?_
         refine .next ?_
         refine .seq ?_
         refine .seq ?_
         refine .region ?_
         refine .step rfl (.assign rfl rfl) ?_
         refine .nil ?_
         refine TE.setv 24 (.int .i64 (maxE (D.take 0))) rfl (congrArg _ (rfl)) ?_
         refine TE.setv 25 (.int .i64 ((0 : Nat) : Int)) rfl (congrArg _ (by first | rfl | (dsimp only; first | done | rfl | omega))) ?_
         refine .next ?_
         refine .block ?_
         refine TC.loop (S := Nat) (fun i => i ≤ D.length) (fun i => D.length - i) (fun i => [(0, .d (slT bdv 1 l)), (1, .d (slT Kn.dv 4 raw)), (2, .d (slT En.dv 3 bt)), (3, .d (slT bdv 1 m)), (4, .d (.v (.int .i64 ep))), (5, .d (.v (.string ⟨⟨s⟩⟩))), (6, .d (.v (.int .u8 ((b.toNat : Nat) : Int)))), (7, .d (.v (.int .u8 ((w.toNat : Nat) : Int)))), (8, .d (.v (.int .i64 v))), (19, .d (slT Kn.dv 4 D)), (24, .d (.v (.int .i64 (maxE (D.take i))))), (25, .d (.v (.int .i64 ((i : Nat) : Int))))]) (fun i => [(1, .dead), (2, .dead)]) (0) (Nat.zero_le _) ⟨⟨rfl, rfl⟩, ⟨rfl, rfl⟩, ⟨rfl, rfl⟩, ⟨rfl, rfl⟩, ⟨rfl, rfl⟩, ⟨rfl, rfl⟩, ⟨rfl, rfl⟩, ⟨rfl, rfl⟩, ⟨rfl, rfl⟩, ⟨rfl, rfl⟩, ⟨rfl, rfl⟩, ⟨rfl, rfl⟩, trivial⟩ ⟨.inl rfl, .inl rfl, trivial⟩ (fun i hI => ?_)
         refine .seq ?_
         refine .seq ?_
         refine .region ?_
         refine .step rfl (.move rfl rfl) ?_
         refine .step rfl (.move rfl rfl) ?_
         refine .step rfl (.len rfl rfl ⟨_, _, rfl⟩ is24) ?_
         refine .step rfl (.bin rfl rfl rfl rfl) ?_
         refine .nil ?_
         refine .next ?_
         refine .cond rfl (fun h15 => ?_) (fun h15 => ?_)
         ·skip
          have hi : i < D.length := by have q := of_decide_eq_true h15; (try dsimp only at q); omega
          refine .skip ?_
          refine .next ?_
          refine .seq ?_
          refine .block ?_
          refine .region ?_
          refine .step rfl (.move rfl rfl) ?_
          refine .step rfl (.move rfl rfl) ?_
          refine .step rfl (.move rfl rfl) ?_
          refine .step rfl (.idx (D[i]) rfl rfl rfl rfl et24 (fun _ => rfl) (Int.natCast_nonneg _) (get_nat hi)) ?_
          refine .step rfl (.fielde rfl rfl rfl fo32_1) ?_
          refine .step rfl (.lde rfl rfl rfl rfl tk3) ?_
          refine .step rfl (.max2 rfl rfl rfl) ?_
          refine .step rfl (.assign rfl rfl) ?_
          refine .nil ?_
          refine TE.blk ?_
          refine .next ?_
          refine .region ?_
          refine .step rfl (.move rfl rfl) ?_
          refine .step rfl (.binv (.int .i64 ((i + 1 : Nat) : Int)) rfl rfl rfl rfl (congrArg _ (by (try dsimp only); rw [IntKind.wrap_i64]; omega))) ?_
          refine .step rfl (.assign rfl rfl) ?_
          refine .nil ?_
          refine TE.setv 24 (.int .i64 (maxE (D.take (i + 1)))) rfl (congrArg _ ((maxE_snoc hi).symm)) ?_
          refine TE.setv 25 (.int .i64 ((i + 1 : Nat) : Int)) rfl (congrArg _ (by first | rfl | (dsimp only; first | done | rfl | omega))) ?_
          exact TE.round id (fun _ _ e => e) (i + 1) (by omega) (by omega) ⟨⟨rfl, rfl⟩, ⟨rfl, rfl⟩, ⟨rfl, rfl⟩, ⟨rfl, rfl⟩, ⟨rfl, rfl⟩, ⟨rfl, rfl⟩, ⟨rfl, rfl⟩, ⟨rfl, rfl⟩, ⟨rfl, rfl⟩, ⟨rfl, rfl⟩, ⟨rfl, rfl⟩, ⟨rfl, rfl⟩, trivial⟩ ⟨.inl rfl, .inl rfl, trivial⟩
         ·skip
          have hi : ¬ (i < D.length) := by have q := of_decide_eq_false h15; (try dsimp only at q); omega
          refine .exit ?_
          refine TE.pass ?_
          refine TE.pass ?_
          refine TE.here ?_
          refine .next ?_
          refine .seq ?_
          refine TC.setv 24 (.int .i64 T) rfl (congrArg _ (by rw [hT.out, List.take_of_length_le (by omega)])) ?_
          refine .region ?_
          refine .step rfl (.assign rfl rfl) ?_
          refine .nil ?_
          refine TE.own0 26 3 30 3 rfl rfl ?_
          refine .next ?_
          refine .seq ?_
          refine .seq ?_
          refine .region ?_
          refine .step rfl (.assign rfl rfl) ?_
          refine .nil ?_
          refine TE.setv 27 (.int .i64 ((0 : Nat) : Int)) rfl (congrArg _ (by first | rfl | (dsimp only; first | done | rfl | omega))) ?_
          refine TE.set 26 (.ow 3 (entsX D (m.take 0)).length 3) rfl rfl ?_
          refine TE.obj 3 (.row 30 3 ((entsX D (m.take 0)).flatMap En.dv)) rfl rfl ?_
          refine .next ?_
          refine .block ?_
          refine TC.loop (S := Nat) (fun i => i ≤ m.length) (fun i => m.length - i) (fun i => [(0, .d (slT bdv 1 l)), (1, .d (slT Kn.dv 4 raw)), (2, .d (slT En.dv 3 bt)), (3, .d (slT bdv 1 m)), (4, .d (.v (.int .i64 ep))), (5, .d (.v (.string ⟨⟨s⟩⟩))), (6, .d (.v (.int .u8 ((b.toNat : Nat) : Int)))), (7, .d (.v (.int .u8 ((w.toNat : Nat) : Int)))), (8, .d (.v (.int .i64 v))), (19, .d (slT Kn.dv 4 D)), (24, .d (.v (.int .i64 T))), (26, .ow 3 (entsX D (m.take (i))).length 3), (27, .d (.v (.int .i64 ((i : Nat) : Int))))]) (fun i => [(1, .dead), (2, .dead), (3, .row 30 3 ((entsX D (m.take (i))).flatMap En.dv))]) (0) (Nat.zero_le _) ⟨⟨rfl, rfl⟩, ⟨rfl, rfl⟩, ⟨rfl, rfl⟩, ⟨rfl, rfl⟩, ⟨rfl, rfl⟩, ⟨rfl, rfl⟩, ⟨rfl, rfl⟩, ⟨rfl, rfl⟩, ⟨rfl, rfl⟩, ⟨rfl, rfl⟩, ⟨rfl, rfl⟩, ⟨rfl, rfl⟩, ⟨rfl, rfl⟩, trivial⟩ ⟨.inl rfl, .inl rfl, .inr rfl, trivial⟩ (fun i hI => ?_)
          refine .seq ?_
          refine .seq ?_
          refine .region ?_
          refine .step rfl (.move rfl rfl) ?_
          refine .step rfl (.move rfl rfl) ?_
          refine .step rfl (.len rfl rfl ⟨_, _, rfl⟩ is22) ?_
          refine .step rfl (.bin rfl rfl rfl rfl) ?_
          refine .nil ?_
          refine .next ?_
          refine .cond rfl (fun h16 => ?_) (fun h16 => ?_)
          ·skip
           have hi : i < m.length := by have q := of_decide_eq_true h16; (try dsimp only at q); omega
           refine .skip ?_
           refine .next ?_
           refine .seq ?_
           refine .block ?_
           refine .seq ?_
           refine .region ?_
           refine .step rfl (.move rfl rfl) ?_
           refine .step rfl (.move rfl rfl) ?_
           refine .step rfl (.move rfl rfl) ?_
           refine .step rfl (.idx (m[i]) rfl rfl rfl rfl et22 (fun _ => rfl) (Int.natCast_nonneg i) (get_nat hi)) ?_
           refine .step rfl (.lde rfl rfl rfl rfl tk5) ?_
           refine .step rfl (.callf rfl cf13 rfl ⟨trivial, trivial⟩ (name_pf m[i])) ?_
           refine .step rfl (.callf rfl cf12 rfl ⟨trivial, trivial, trivial⟩ (rlatest_any D (nameL ((m[i].toNat : Nat) : Int)) (by omega))) ?_
           refine .step rfl (.move rfl rfl) ?_
           refine .step rfl (.extract rfl rfl rfl rfl) ?_
           refine .step rfl (.extract rfl rfl rfl rfl) ?_
           refine .step rfl (.alloc 4 rfl rfl zc32 rfl) ?_
           refine .step rfl (.store rfl rfl rfl sz32 rfl rfl) ?_
           refine .step rfl (.assign rfl rfl) ?_
           refine .nil ?_
           refine .next ?_
           refine .draw mixed [Ro.mk _ (Eff.mk (some (176, _)) []) [], Ro.mk _ (Eff.mk (some (177, _)) []) [], Ro.mk _ (Eff.mk (some (178, _)) []) [], Ro.mk _ (Eff.mk (some (179, _)) []) [], Ro.mk _ (Eff.mk (some (180, _)) []) [], Ro.mk _ (Eff.mk (some (181, _)) []) [4], Ro.mk _ (Eff.mk (some (182, _)) []) [4], Ro.mk _ (Eff.mk (some (183, _)) []) [4], Ro.mk _ (Eff.mk (some (184, _)) []) [], Ro.mk _ (Eff.mk (some (185, _)) []) [], Ro.mk _ (Eff.mk (some (186, _)) []) [], Ro.mk _ (Eff.mk (some (187, _)) []) [], Ro.mk _ (Eff.mk (some (188, _)) []) [], Ro.mk _ (Eff.mk (some (189, _)) []) [], Ro.mk _ (Eff.mk (some (190, _)) []) [], Ro.mk _ (Eff.mk (some (191, _)) []) [], Ro.mk _ (Eff.mk (some (192, _)) []) [], Ro.mk _ (Eff.mk (some (193, _)) [(5, _)]) [5], Ro.mk _ (Eff.mk (some (194, _)) [(3, .dead), (6, _)]) [3, 5, 6], Ro.mk _ (Eff.mk (some (26, _)) []) []] rfl ⟨(fun _ _ => .move rfl rfl), (fun _ _ => .move rfl rfl), (fun _ _ => .move rfl rfl), (fun _ _ => .idx (m[i]) rfl rfl rfl rfl et22 (fun _ => rfl) (Int.natCast_nonneg i) (get_nat hi)), (fun _ _ => .lde rfl rfl rfl rfl tk5), (fun _ _ => .fieldp rfl rfl rfl rfl fo32_0), (fun _ _ => .fieldp rfl rfl rfl rfl fo30_1), (fun _ _ => .ldp rfl rfl rfl rfl rfl tk3), (fun _ _ => .bin rfl rfl rfl rfl), (fun _ _ => .move rfl rfl), (fun _ _ => .move rfl rfl), (fun _ _ => .idx (m[i]) rfl rfl rfl rfl et22 (fun _ => rfl) (Int.natCast_nonneg i) (get_nat hi)), (fun _ _ => .lde rfl rfl rfl rfl tk5), (fun _ _ => .quo (((m[i].toNat / 120 : Nat) : Int)) rfl rfl rfl (by decide) (u8_quo _)), (fun _ _ => .conviv (((m[i].toNat / 120 : Nat) : Int)) rfl rfl uk5 uk3 (u8_q64 m[i])), (fun _ _ => .bin rfl rfl rfl rfl), (fun _ _ => .callf rfl cf14 rfl ⟨trivial, trivial, trivial⟩ (entry_pf m[i] (i64w (i64w ((latR D (nameL ((m[i].toNat : Nat) : Int))).1.ver + 1) + ((m[i].toNat / 120 : Nat) : Int))))), (fun _ _ => .buildsl (ds := (pendX D m[i]).dv) 5 rfl rfl rfl ap39 zc30 rfl rfl rfl), (fun _ _ => .append 6 rfl rfl rfl (flat_length (sz := 3) (enc := En.dv) (fun _ => rfl) _) rfl ap39 rfl rfl (okA_len rfl rfl) rfl (by have := entsX_len D (m.take i); rw [List.length_take] at this; omega) (by have := entsX_len D (m.take i); rw [List.length_take] at this; omega)), (fun _ _ => .assign rfl rfl), trivial⟩ (by kernel_rfl) ?_
           refine TE.blk ?_
           refine .next ?_
           refine .region ?_
           refine .step rfl (.move rfl rfl) ?_
           refine .step rfl (.binv (.int .i64 ((i + 1 : Nat) : Int)) rfl rfl rfl rfl (congrArg _ (by (try dsimp only); rw [IntKind.wrap_i64]; omega))) ?_
           refine .step rfl (.assign rfl rfl) ?_
           refine .nil ?_
           refine TE.set 26 (.ow 6 (entsX D (m.take (i + 1))).length 3) rfl (by rw [entsX_snoc hi] <;> simp) ?_
           refine TE.obj 6 (.row 30 3 ((entsX D (m.take (i + 1))).flatMap En.dv)) rfl (by rw [entsX_snoc hi] <;> simp [List.flatMap_append]) ?_
           refine TE.setv 27 (.int .i64 ((i + 1 : Nat) : Int)) rfl (congrArg _ (by first | rfl | (dsimp only; first | done | rfl | omega))) ?_
           exact TE.round (swp 3 6) (swp_inj 3 6) (i + 1) (by omega) (by omega) ⟨⟨rfl, rfl⟩, ⟨rfl, rfl⟩, ⟨rfl, rfl⟩, ⟨rfl, rfl⟩, ⟨rfl, rfl⟩, ⟨rfl, rfl⟩, ⟨rfl, rfl⟩, ⟨rfl, rfl⟩, ⟨rfl, rfl⟩, ⟨rfl, rfl⟩, ⟨rfl, rfl⟩, ⟨rfl, rfl⟩, ⟨rfl, rfl⟩, trivial⟩ ⟨.inl rfl, .inl rfl, .inr rfl, trivial⟩
          ·skip
           have hi : ¬ (i < m.length) := by have q := of_decide_eq_false h16; (try dsimp only at q); omega
           have e : E = entsX D (m.take i) := by rw [hE.out, List.take_of_length_le (by omega)]
           refine .exit ?_
           refine TE.pass ?_
           refine TE.pass ?_
           refine TE.here ?_
           refine .next ?_
           refine .seq ?_
           refine .seq ?_
           refine TC.frz 26 (slT En.dv 3 (E)) rfl rfl (flat_length (sz := 3) (enc := En.dv) (fun _ => rfl) _) (by rw [e]) ?_
           refine .region ?_
           refine .step rfl (.move rfl rfl) ?_
           refine .step rfl (.move rfl rfl) ?_
           refine .step rfl (.buildsl 7 rfl rfl rfl ap51 zc39 rfl rfl rfl) ?_
           refine .step rfl (.leno rfl rfl rfl is51) ?_
           refine .step rfl (.move rfl rfl) ?_
           refine .nil ?_
           refine TE.frz 197 (slT ell 1 Bs) rfl rfl rfl (by rw [hB.out]; rfl) ?_
           refine TE.setv 199 (.int .i64 ((0 : Nat) : Int)) rfl (congrArg _ (by first | rfl | (dsimp only; first | done | rfl | omega))) ?_
           refine TE.setv 198 (.int .i64 ((2 : Nat) : Int)) rfl rfl ?_
           refine .next ?_
           refine .block ?_
           refine TC.loop (S := Nat) (fun j => j ≤ 2) (fun j => 2 - j) (fun j => [(0, .d (slT bdv 1 l)), (1, .d (slT Kn.dv 4 raw)), (2, .d (slT En.dv 3 bt)), (3, .d (slT bdv 1 m)), (4, .d (.v (.int .i64 ep))), (5, .d (.v (.string ⟨⟨s⟩⟩))), (6, .d (.v (.int .u8 ((b.toNat : Nat) : Int)))), (7, .d (.v (.int .u8 ((w.toNat : Nat) : Int)))), (8, .d (.v (.int .i64 v))), (19, .d (slT Kn.dv 4 D)), (24, .d (.v (.int .i64 T))), (197, .d (slT ell 1 Bs)), (198, .d (.v (.int .i64 ((2 : Nat) : Int)))), (199, .d (.v (.int .i64 ((j : Nat) : Int))))]) (fun j => [(1, .dead), (2, .dead), (3, .dead), (7, .dead)]) (0) (Nat.zero_le _) ⟨⟨rfl, rfl⟩, ⟨rfl, rfl⟩, ⟨rfl, rfl⟩, ⟨rfl, rfl⟩, ⟨rfl, rfl⟩, ⟨rfl, rfl⟩, ⟨rfl, rfl⟩, ⟨rfl, rfl⟩, ⟨rfl, rfl⟩, ⟨rfl, rfl⟩, ⟨rfl, rfl⟩, ⟨rfl, rfl⟩, ⟨rfl, rfl⟩, ⟨rfl, rfl⟩, trivial⟩ ⟨.inl rfl, .inl rfl, .inl rfl, .inl rfl, trivial⟩ (fun j hI => ?_)
           refine .seq ?_
           refine .region ?_
           refine .step rfl (.bin rfl rfl rfl rfl) ?_
           refine .nil ?_
           refine .next ?_
           refine .seq ?_
           refine .cond rfl (fun h17 => ?_) (fun h17 => ?_)
           ·skip
            have hj2 : j < 2 := by have q := of_decide_eq_true h17; (try dsimp only at q); omega
            have hjb : j < Bs.length := by omega
            have hbb := hBb (by omega) (by omega)
            refine .skip ?_
            refine .next ?_
            refine .seq ?_
            refine .block ?_
            refine .seq ?_
            have hb10 : ∀ z ∈ Bs, z.length ≤ 10 := fun z hz => by rw [hB.out] at hz; simp only [List.mem_cons, List.not_mem_nil, or_false] at hz; rcases hz with rfl | rfl <;> omega
            refine .region ?_
            refine .step rfl (.idx (Bs[j]) rfl rfl rfl rfl et51 (fun _ => rfl) (Int.natCast_nonneg _) (get_nat hjb)) ?_
            refine .step rfl (.lde rfl rfl rfl rfl tk39) ?_
            refine .step rfl (.assign rfl rfl) ?_
            refine .nil ?_
            refine .next ?_
            refine .seq ?_
            refine .region ?_
            refine .step rfl (.move rfl rfl) ?_
            refine .step rfl (.move rfl rfl) ?_
            refine .step rfl (.binv (.int .i64 (T + 1)) rfl rfl rfl rfl (congrArg _ (by rw [IntKind.wrap_i64]; omega))) ?_
            refine .step rfl (.move rfl rfl) ?_
            refine .step rfl (.buildsl 8 rfl rfl rfl ap52 zc3 rfl rfl rfl) ?_
            refine .step rfl (.leno rfl rfl rfl is52) ?_
            refine .step rfl (.move rfl rfl) ?_
            refine .nil ?_
            refine TE.frz 207 (slT idv 1 Is) rfl rfl rfl (by rw [hI2.out]; rfl) ?_
            refine TE.setv 209 (.int .i64 ((0 : Nat) : Int)) rfl (congrArg _ (by first | rfl | (dsimp only; first | done | rfl | omega))) ?_
            refine TE.setv 208 (.int .i64 ((3 : Nat) : Int)) rfl rfl ?_
            refine .next ?_
            refine .block ?_
            refine TC.loop (S := Nat) (fun q => q ≤ 3) (fun q => 3 - q) (fun q => [(0, .d (slT bdv 1 l)), (1, .d (slT Kn.dv 4 raw)), (2, .d (slT En.dv 3 bt)), (3, .d (slT bdv 1 m)), (4, .d (.v (.int .i64 ep))), (5, .d (.v (.string ⟨⟨s⟩⟩))), (6, .d (.v (.int .u8 ((b.toNat : Nat) : Int)))), (7, .d (.v (.int .u8 ((w.toNat : Nat) : Int)))), (8, .d (.v (.int .i64 v))), (19, .d (slT Kn.dv 4 D)), (24, .d (.v (.int .i64 T))), (197, .d (slT ell 1 Bs)), (198, .d (.v (.int .i64 ((2 : Nat) : Int)))), (199, .d (.v (.int .i64 ((j : Nat) : Int)))), (31, .d (slT En.dv 3 Bs[j])), (207, .d (slT idv 1 Is)), (208, .d (.v (.int .i64 ((3 : Nat) : Int)))), (209, .d (.v (.int .i64 ((q : Nat) : Int))))]) (fun q => [(1, .dead), (2, .dead), (3, .dead), (7, .dead), (8, .dead)]) (0) (Nat.zero_le _) ⟨⟨rfl, rfl⟩, ⟨rfl, rfl⟩, ⟨rfl, rfl⟩, ⟨rfl, rfl⟩, ⟨rfl, rfl⟩, ⟨rfl, rfl⟩, ⟨rfl, rfl⟩, ⟨rfl, rfl⟩, ⟨rfl, rfl⟩, ⟨rfl, rfl⟩, ⟨rfl, rfl⟩, ⟨rfl, rfl⟩, ⟨rfl, rfl⟩, ⟨rfl, rfl⟩, ⟨rfl, rfl⟩, ⟨rfl, rfl⟩, ⟨rfl, rfl⟩, ⟨rfl, rfl⟩, trivial⟩ ⟨.inl rfl, .inl rfl, .inl rfl, .inl rfl, .inl rfl, trivial⟩ (fun q hQ => ?_)
            refine .seq ?_
            refine .region ?_
            refine .step rfl (.bin rfl rfl rfl rfl) ?_
            refine .nil ?_
            refine .next ?_
            refine .seq ?_
            refine .cond rfl (fun h18 => ?_) (fun h18 => ?_)
            ·skip
             have hq3 : q < 3 := by have q := of_decide_eq_true h18; (try dsimp only at q); omega
             have hqi : q < Is.length := by omega
             have hib := hIb (by omega) _ (List.getElem_mem hqi)
             refine .skip ?_
             refine .next ?_
             refine .seq ?_
             refine .block ?_
             refine .seq ?_
             refine .region ?_
             refine .step rfl (.idx (Is[q]) rfl rfl rfl rfl et52 (fun _ => rfl) (Int.natCast_nonneg _) (get_nat hqi)) ?_
             refine .step rfl (.lde rfl rfl rfl rfl tk3) ?_
             refine .step rfl (.assign rfl rfl) ?_
             refine .nil ?_
             refine .next ?_
             refine .seq ?_
             obtain ⟨R1, ok, hR⟩ : ∃ R1 ok, addR D Is[q] Bs[j] = (R1, ok) := ⟨_, _, rfl⟩
             have hRc : chainK none R1 := by have := addR_chain hc Is[q] Bs[j]; rwa [hR] at this
             have hRl : R1.length ≤ 1048577 := by have q1 := addR_len D Is[q] Bs[j]; have q2 := hbb _ (List.getElem_mem hjb); rw [hR] at q1; have q1 : R1.length ≤ D.length + Bs[j].length := q1; have q3 : Bs[j].length ≤ 10 := hb10 _ (List.getElem_mem hjb); omega
             have hRk : ∀ k ∈ R1, knFit k := kn_fit hRc (by have := addR_fit hib hDf Bs[j]; rwa [hR] at this)
             have cA : PC Try.prog 15 [slT Kn.dv 4 D, .v (.int .i64 Is[q]), slT En.dv 3 Bs[j]] (.tp [slT Kn.dv 4 R1, .v (.bool ok)]) := by have q := addp_pc D Is[q] Bs[j] (by omega) (hbb _ (List.getElem_mem hjb)); rwa [addP_right hc, hR] at q
             have cB : PC Try.prog 20 [slT Kn.dv 4 D, .v (.int .i64 Is[q]), slT En.dv 3 Bs[j]] (.tp [slT Kn.dv 4 R1, .v (.bool ok)]) := by have q := add_pc D Is[q] Bs[j] (by omega) (hbb _ (List.getElem_mem hjb)); rwa [hR] at q
             have cR : PF Try.prog 18 [slT Kn.dv 4 R1] (.v (.bool true)) := by have q := right_pf R1 hRl; rwa [right_iff.2 hRc] at q
             refine .region ?_
             refine .step rfl (.move rfl rfl) ?_
             refine .step rfl (.move rfl rfl) ?_
             refine .step rfl (.move rfl rfl) ?_
             refine .step rfl (.callc rfl cf15 rfl (cA)) ?_
             refine .step rfl (.move rfl rfl) ?_
             refine .step rfl (.extract rfl rfl rfl rfl) ?_
             refine .step rfl (.extract rfl rfl rfl rfl) ?_
             refine .step rfl (.assign rfl rfl) ?_
             refine .step rfl (.assign rfl rfl) ?_
             refine .nil ?_
             refine .next ?_
             refine .seq ?_
             refine .region ?_
             refine .step rfl (.move rfl rfl) ?_
             refine .step rfl (.move rfl rfl) ?_
             refine .step rfl (.move rfl rfl) ?_
             refine .step rfl (.callc rfl cf20 rfl (cB)) ?_
             refine .step rfl (.move rfl rfl) ?_
             refine .step rfl (.extract rfl rfl rfl rfl) ?_
             refine .step rfl (.extract rfl rfl rfl rfl) ?_
             refine .step rfl (.assign rfl rfl) ?_
             refine .step rfl (.assign rfl rfl) ?_
             refine .nil ?_
             refine .next ?_
             refine .seq ?_
             cases ok with
             | true =>
              refine .region ?_
              refine .step rfl (.move rfl rfl) ?_
              refine .step rfl (.move rfl rfl) ?_
              refine .step rfl (.neb false rfl rfl rfl ub4 (by simp)) ?_
              refine .step rfl (.move rfl rfl) ?_
              refine .go 230 rfl rfl rfl rfl (.move rfl rfl) ?_
              refine .go 230 rfl rfl rfl rfl (.move rfl rfl) ?_
              refine .go 230 rfl rfl rfl rfl (.callf rfl cf16 rfl ⟨trivial, trivial, trivial⟩ (samek_pf R1 hRl hRk)) ?_
              refine .go 230 rfl rfl rfl rfl (.un rfl rfl rfl) ?_
              refine .step rfl (.pick rfl rfl rfl) ?_
              refine .step rfl (.move rfl rfl) ?_
              refine .go 236 rfl rfl rfl rfl (.move rfl rfl) ?_
              refine .go 236 rfl rfl rfl rfl (.move rfl rfl) ?_
              refine .go 238 rfl rfl rfl rfl (.move rfl rfl) ?_
              refine .go 238 rfl rfl rfl rfl (.callf rfl cf18 rfl ⟨trivial, trivial⟩ (cR)) ?_
              refine .go 238 rfl rfl rfl rfl (.un rfl rfl rfl) ?_
              refine .go 236 rfl rfl rfl rfl (.pick rfl rfl rfl) ?_
              refine .step rfl (.pick rfl rfl rfl) ?_
              refine .nil ?_
              refine .next ?_
              refine .cond rfl (fun h20 => absurd h20 (by decide)) (fun h20 => ?_)
              refine .skip ?_
              refine TE.blk ?_
              refine .next ?_
              refine .region ?_
              refine .step rfl (.binv (.int .i64 ((q + 1 : Nat) : Int)) rfl rfl rfl rfl (congrArg _ (by (try dsimp only); rw [IntKind.wrap_i64]; omega))) ?_
              refine .step rfl (.move rfl rfl) ?_
              refine .nil ?_
              refine TE.setv 209 (.int .i64 ((q + 1 : Nat) : Int)) rfl (congrArg _ (by first | rfl | (dsimp only; first | done | rfl | omega))) ?_
              exact TE.round id (fun _ _ e => e) (q + 1) (by omega) (by omega) ⟨⟨rfl, rfl⟩, ⟨rfl, rfl⟩, ⟨rfl, rfl⟩, ⟨rfl, rfl⟩, ⟨rfl, rfl⟩, ⟨rfl, rfl⟩, ⟨rfl, rfl⟩, ⟨rfl, rfl⟩, ⟨rfl, rfl⟩, ⟨rfl, rfl⟩, ⟨rfl, rfl⟩, ⟨rfl, rfl⟩, ⟨rfl, rfl⟩, ⟨rfl, rfl⟩, ⟨rfl, rfl⟩, ⟨rfl, rfl⟩, ⟨rfl, rfl⟩, ⟨rfl, rfl⟩, trivial⟩ ⟨.inl rfl, .inl rfl, .inl rfl, .inl rfl, .inl rfl, trivial⟩
             | false =>
              refine .region ?_
              refine .step rfl (.move rfl rfl) ?_
              refine .step rfl (.move rfl rfl) ?_
              refine .step rfl (.neb false rfl rfl rfl ub4 (by simp)) ?_
              refine .step rfl (.move rfl rfl) ?_
              refine .go 230 rfl rfl rfl rfl (.move rfl rfl) ?_
              refine .go 230 rfl rfl rfl rfl (.move rfl rfl) ?_
              refine .go 230 rfl rfl rfl rfl (.callf rfl cf16 rfl ⟨trivial, trivial, trivial⟩ (samek_pf R1 hRl hRk)) ?_
              refine .go 230 rfl rfl rfl rfl (.un rfl rfl rfl) ?_
              refine .step rfl (.pick rfl rfl rfl) ?_
              refine .step rfl (.move rfl rfl) ?_
              refine .go 236 rfl rfl rfl rfl (.move rfl rfl) ?_
              refine .go 236 rfl rfl rfl rfl (.move rfl rfl) ?_
              refine .no 238 rfl rfl rfl rfl rfl rfl rfl ?_
              refine .no 238 rfl rfl rfl rfl rfl rfl rfl ?_
              refine .no 238 rfl rfl rfl rfl rfl rfl rfl ?_
              refine .go 236 rfl rfl rfl rfl (.pick rfl rfl rfl) ?_
              refine .step rfl (.pick rfl rfl rfl) ?_
              refine .nil ?_
              refine .next ?_
              refine .cond rfl (fun h21 => absurd h21 (by decide)) (fun h21 => ?_)
              refine .skip ?_
              refine TE.blk ?_
              refine .next ?_
              refine .region ?_
              refine .step rfl (.binv (.int .i64 ((q + 1 : Nat) : Int)) rfl rfl rfl rfl (congrArg _ (by (try dsimp only); rw [IntKind.wrap_i64]; omega))) ?_
              refine .step rfl (.move rfl rfl) ?_
              refine .nil ?_
              refine TE.setv 209 (.int .i64 ((q + 1 : Nat) : Int)) rfl (congrArg _ (by first | rfl | (dsimp only; first | done | rfl | omega))) ?_
              exact TE.round id (fun _ _ e => e) (q + 1) (by omega) (by omega) ⟨⟨rfl, rfl⟩, ⟨rfl, rfl⟩, ⟨rfl, rfl⟩, ⟨rfl, rfl⟩, ⟨rfl, rfl⟩, ⟨rfl, rfl⟩, ⟨rfl, rfl⟩, ⟨rfl, rfl⟩, ⟨rfl, rfl⟩, ⟨rfl, rfl⟩, ⟨rfl, rfl⟩, ⟨rfl, rfl⟩, ⟨rfl, rfl⟩, ⟨rfl, rfl⟩, ⟨rfl, rfl⟩, ⟨rfl, rfl⟩, ⟨rfl, rfl⟩, ⟨rfl, rfl⟩, trivial⟩ ⟨.inl rfl, .inl rfl, .inl rfl, .inl rfl, .inl rfl, trivial⟩
            ·skip
             have hq3 : ¬ (q < 3) := by have q := of_decide_eq_false h18; (try dsimp only at q); omega
             refine .exit ?_
             refine TE.pass ?_
             refine TE.pass ?_
             refine TE.here ?_
             refine TE.blk ?_
             refine .next ?_
             refine .region ?_
             refine .step rfl (.binv (.int .i64 ((j + 1 : Nat) : Int)) rfl rfl rfl rfl (congrArg _ (by (try dsimp only); rw [IntKind.wrap_i64]; omega))) ?_
             refine .step rfl (.move rfl rfl) ?_
             refine .nil ?_
             refine TE.setv 199 (.int .i64 ((j + 1 : Nat) : Int)) rfl (congrArg _ (by first | rfl | (dsimp only; first | done | rfl | omega))) ?_
             exact TE.round id (fun _ _ e => e) (j + 1) (by omega) (by omega) ⟨⟨rfl, rfl⟩, ⟨rfl, rfl⟩, ⟨rfl, rfl⟩, ⟨rfl, rfl⟩, ⟨rfl, rfl⟩, ⟨rfl, rfl⟩, ⟨rfl, rfl⟩, ⟨rfl, rfl⟩, ⟨rfl, rfl⟩, ⟨rfl, rfl⟩, ⟨rfl, rfl⟩, ⟨rfl, rfl⟩, ⟨rfl, rfl⟩, ⟨rfl, rfl⟩, trivial⟩ ⟨.inl rfl, .inl rfl, .inl rfl, .inl rfl, trivial⟩
           ·skip
            have hj2 : ¬ (j < 2) := by have q := of_decide_eq_false h17; (try dsimp only at q); omega
            refine .exit ?_
            refine TE.pass ?_
            refine TE.pass ?_
            refine TE.here ?_
            refine .next ?_
            refine .seq ?_
            refine .seq ?_
            refine .region ?_
            refine .step rfl (.move rfl rfl) ?_
            refine .step rfl (.move rfl rfl) ?_
            refine .step rfl (.callf rfl cf13 rfl ⟨trivial, trivial⟩ (name_pf b)) ?_
            refine .step rfl (.buildsl 9 rfl rfl rfl ap53 zc9 rfl rfl rfl) ?_
            refine .step rfl (.leno rfl rfl rfl is53) ?_
            refine .step rfl (.move rfl rfl) ?_
            refine .nil ?_
            refine TE.frz 249 (slT stv 1 Ns) rfl rfl rfl (by rw [hN.out]; rfl) ?_
            refine TE.setv 251 (.int .i64 ((0 : Nat) : Int)) rfl (congrArg _ (by first | rfl | (dsimp only; first | done | rfl | omega))) ?_
            refine TE.setv 250 (.int .i64 ((2 : Nat) : Int)) rfl rfl ?_
            refine .next ?_
            refine .block ?_
            refine TC.loop (S := Nat) (fun j => j ≤ 2) (fun j => 2 - j) (fun j => [(0, .d (slT bdv 1 l)), (1, .d (slT Kn.dv 4 raw)), (2, .d (slT En.dv 3 bt)), (3, .d (slT bdv 1 m)), (4, .d (.v (.int .i64 ep))), (5, .d (.v (.string ⟨⟨s⟩⟩))), (6, .d (.v (.int .u8 ((b.toNat : Nat) : Int)))), (7, .d (.v (.int .u8 ((w.toNat : Nat) : Int)))), (8, .d (.v (.int .i64 v))), (19, .d (slT Kn.dv 4 D)), (24, .d (.v (.int .i64 T))), (249, .d (slT stv 1 Ns)), (250, .d (.v (.int .i64 ((2 : Nat) : Int)))), (251, .d (.v (.int .i64 ((j : Nat) : Int))))]) (fun j => [(1, .dead), (2, .dead), (3, .dead), (7, .dead), (9, .dead)]) (0) (Nat.zero_le _) ⟨⟨rfl, rfl⟩, ⟨rfl, rfl⟩, ⟨rfl, rfl⟩, ⟨rfl, rfl⟩, ⟨rfl, rfl⟩, ⟨rfl, rfl⟩, ⟨rfl, rfl⟩, ⟨rfl, rfl⟩, ⟨rfl, rfl⟩, ⟨rfl, rfl⟩, ⟨rfl, rfl⟩, ⟨rfl, rfl⟩, ⟨rfl, rfl⟩, ⟨rfl, rfl⟩, trivial⟩ ⟨.inl rfl, .inl rfl, .inl rfl, .inl rfl, .inl rfl, trivial⟩ (fun j hI => ?_)
            refine .seq ?_
            refine .region ?_
            refine .step rfl (.bin rfl rfl rfl rfl) ?_
            refine .nil ?_
            refine .next ?_
            refine .seq ?_
            refine .cond rfl (fun h22 => ?_) (fun h22 => ?_)
            ·skip
             have hj2 : j < 2 := by have q := of_decide_eq_true h22; (try dsimp only at q); omega
             have hjn : j < Ns.length := by omega
             refine .skip ?_
             refine .next ?_
             refine .seq ?_
             refine .block ?_
             refine .seq ?_
             refine .region ?_
             refine .step rfl (.idx (Ns[j]) rfl rfl rfl rfl et53 (fun _ => rfl) (Int.natCast_nonneg _) (get_nat hjn)) ?_
             refine .step rfl (.lde rfl rfl rfl rfl tk9) ?_
             refine .step rfl (.assign rfl rfl) ?_
             refine .nil ?_
             refine .next ?_
             refine .seq ?_
             have cL : PF Try.prog 21 [slT Kn.dv 4 D, .v (strV Ns[j])] (.tp [.ag (latR D Ns[j]).1.dv, .v (.bool (latR D Ns[j]).2)]) := by have q := latest_any D Ns[j] (by omega); rwa [lat_max hc] at q
             have cF : PF Try.prog 22 [slT Kn.dv 4 D, .v (strV Ns[j]), .v (.int .i64 (and7 v))] (.tp [.ag (findR D Ns[j] (and7 v)).1.dv, .v (.bool (findR D Ns[j] (and7 v)).2)]) := by have q := find_any D Ns[j] (and7 v) (by omega); rwa [findP_eq (chain_srt hc)] at q
             refine .region ?_
             refine .step rfl (.move rfl rfl) ?_
             refine .step rfl (.move rfl rfl) ?_
             refine .step rfl (.callf rfl cf21 rfl ⟨trivial, trivial, trivial⟩ (cL)) ?_
             refine .step rfl (.move rfl rfl) ?_
             refine .step rfl (.extract rfl rfl rfl rfl) ?_
             refine .step rfl (.extract rfl rfl rfl rfl) ?_
             refine .step rfl (.alloc 10 rfl rfl zc32 rfl) ?_
             refine .step rfl (.store rfl rfl rfl sz32 rfl rfl) ?_
             refine .step rfl (.assign rfl rfl) ?_
             refine .nil ?_
             refine .next ?_
             refine .seq ?_
             refine .region ?_
             refine .step rfl (.move rfl rfl) ?_
             refine .step rfl (.move rfl rfl) ?_
             refine .step rfl (.callf rfl cf12 rfl ⟨trivial, trivial, trivial⟩ (rlatest_any D Ns[j] (by omega))) ?_
             refine .step rfl (.move rfl rfl) ?_
             refine .step rfl (.extract rfl rfl rfl rfl) ?_
             refine .step rfl (.extract rfl rfl rfl rfl) ?_
             refine .step rfl (.alloc 11 rfl rfl zc32 rfl) ?_
             refine .step rfl (.store rfl rfl rfl sz32 rfl rfl) ?_
             refine .step rfl (.assign rfl rfl) ?_
             refine .nil ?_
             refine .next ?_
             refine .seq ?_
             refine .region ?_
             refine .step rfl (.move rfl rfl) ?_
             refine .step rfl (.move rfl rfl) ?_
             refine .step rfl (.move rfl rfl) ?_
             refine .step rfl (.bits (and7 v) rfl rfl rfl rfl (rfl)) ?_
             refine .step rfl (.callf rfl cf22 rfl ⟨trivial, trivial, trivial, trivial⟩ (cF)) ?_
             refine .step rfl (.move rfl rfl) ?_
             refine .step rfl (.extract rfl rfl rfl rfl) ?_
             refine .step rfl (.extract rfl rfl rfl rfl) ?_
             refine .step rfl (.alloc 12 rfl rfl zc32 rfl) ?_
             refine .step rfl (.store rfl rfl rfl sz32 rfl rfl) ?_
             refine .step rfl (.assign rfl rfl) ?_
             refine .nil ?_
             refine .next ?_
             refine .seq ?_
             refine .region ?_
             refine .step rfl (.move rfl rfl) ?_
             refine .step rfl (.move rfl rfl) ?_
             refine .step rfl (.move rfl rfl) ?_
             refine .step rfl (.bits (and7 v) rfl rfl rfl rfl (rfl)) ?_
             refine .step rfl (.callf rfl cf23 rfl ⟨trivial, trivial, trivial, trivial⟩ (rfind_any D Ns[j] (and7 v) (by omega))) ?_
             refine .step rfl (.move rfl rfl) ?_
             refine .step rfl (.extract rfl rfl rfl rfl) ?_
             refine .step rfl (.extract rfl rfl rfl rfl) ?_
             refine .step rfl (.alloc 13 rfl rfl zc32 rfl) ?_
             refine .step rfl (.store rfl rfl rfl sz32 rfl rfl) ?_
             refine .step rfl (.assign rfl rfl) ?_
             refine .nil ?_
             refine .next ?_
             refine .seq ?_
             refine .region ?_
             refine .step rfl (.ldpm (ds := (latR D Ns[j]).1.dv) rfl rfl rfl rfl rfl rfl tk32) ?_
             refine .step rfl (.ldpm (ds := (latR D Ns[j]).1.dv) rfl rfl rfl rfl rfl rfl tk32) ?_
             refine .step rfl (.nek (a := (latR D Ns[j]).1) (b := (latR D Ns[j]).1) false (by simp) (fit_lat hkf _) (fit_lat hkf _) rfl rfl rfl qk32) ?_
             refine .step rfl (.move rfl rfl) ?_
             refine .go 286 rfl rfl rfl rfl (.move rfl rfl) ?_
             refine .go 286 rfl rfl rfl rfl (.move rfl rfl) ?_
             refine .go 286 rfl rfl rfl rfl (.neb false rfl rfl rfl ub4 (by simp)) ?_
             refine .step rfl (.pick rfl rfl rfl) ?_
             refine .step rfl (.move rfl rfl) ?_
             refine .go 291 rfl rfl rfl rfl (.ldpm (ds := (findR D Ns[j] (and7 v)).1.dv) rfl rfl rfl rfl rfl rfl tk32) ?_
             refine .go 291 rfl rfl rfl rfl (.ldpm (ds := (findR D Ns[j] (and7 v)).1.dv) rfl rfl rfl rfl rfl rfl tk32) ?_
             refine .go 291 rfl rfl rfl rfl (.nek (a := (findR D Ns[j] (and7 v)).1) (b := (findR D Ns[j] (and7 v)).1) false (by simp) (fit_find hkf _ _) (fit_find hkf _ _) rfl rfl rfl qk32) ?_
             refine .step rfl (.pick rfl rfl rfl) ?_
             refine .step rfl (.move rfl rfl) ?_
             refine .go 296 rfl rfl rfl rfl (.move rfl rfl) ?_
             refine .go 296 rfl rfl rfl rfl (.move rfl rfl) ?_
             refine .go 296 rfl rfl rfl rfl (.neb false rfl rfl rfl ub4 (by simp)) ?_
             refine .step rfl (.pick rfl rfl rfl) ?_
             refine .nil ?_
             refine .next ?_
             refine .cond rfl (fun h23 => absurd h23 (by decide)) (fun h23 => ?_)
             refine .skip ?_
             refine TE.blk ?_
             refine .next ?_
             refine .region ?_
             refine .step rfl (.binv (.int .i64 ((j + 1 : Nat) : Int)) rfl rfl rfl rfl (congrArg _ (by (try dsimp only); rw [IntKind.wrap_i64]; omega))) ?_
             refine .step rfl (.move rfl rfl) ?_
             refine .nil ?_
             refine TE.setv 251 (.int .i64 ((j + 1 : Nat) : Int)) rfl (congrArg _ (by first | rfl | (dsimp only; first | done | rfl | omega))) ?_
             exact TE.round id (fun _ _ e => e) (j + 1) (by omega) (by omega) ⟨⟨rfl, rfl⟩, ⟨rfl, rfl⟩, ⟨rfl, rfl⟩, ⟨rfl, rfl⟩, ⟨rfl, rfl⟩, ⟨rfl, rfl⟩, ⟨rfl, rfl⟩, ⟨rfl, rfl⟩, ⟨rfl, rfl⟩, ⟨rfl, rfl⟩, ⟨rfl, rfl⟩, ⟨rfl, rfl⟩, ⟨rfl, rfl⟩, ⟨rfl, rfl⟩, trivial⟩ ⟨.inl rfl, .inl rfl, .inl rfl, .inl rfl, .inl rfl, trivial⟩
            ·skip
             have hj2 : ¬ (j < 2) := by have q := of_decide_eq_false h22; (try dsimp only at q); omega
             refine .exit ?_
             refine TE.pass ?_
             refine TE.pass ?_
             refine TE.here ?_
             refine .next ?_
             refine .seq ?_
             have cI : ∀ e, PC Try.prog 10 [slT Kn.dv 4 D, .v (.int .i64 e)] (slT It.dv 64 (setR (itsK e D) [])) := fun e => by have q := items_pc D e (by omega) (kn_in hc); rwa [setA_sr] at q
             have hil : ∀ e, (setR (itsK e D) []).length ≤ 1048577 := fun e => by have := setR_len (itsK e D) []; have := itsK_le e D; simp at *; omega
             refine .region ?_
             refine .step rfl (.move rfl rfl) ?_
             refine .step rfl (.move rfl rfl) ?_
             refine .step rfl (.callc rfl cf10 rfl (cI _)) ?_
             refine .step rfl (.move rfl rfl) ?_
             refine .step rfl (.move rfl rfl) ?_
             refine .step rfl (.callf rfl cf24 rfl ⟨trivial, trivial, trivial⟩ (ritems_pf D _ (by omega) (kn_in hc))) ?_
             refine .step rfl (.callf rfl cf17 rfl ⟨trivial, trivial, trivial⟩ (samei_pf _ (hil _))) ?_
             refine .step rfl (.move rfl rfl) ?_
             refine .go 309 rfl rfl rfl rfl (.move rfl rfl) ?_
             refine .go 309 rfl rfl rfl rfl (.move rfl rfl) ?_
             refine .go 309 rfl rfl rfl rfl (.callc rfl cf10 rfl (cI _)) ?_
             refine .go 309 rfl rfl rfl rfl (.move rfl rfl) ?_
             refine .go 309 rfl rfl rfl rfl (.move rfl rfl) ?_
             refine .go 309 rfl rfl rfl rfl (.callf rfl cf24 rfl ⟨trivial, trivial, trivial⟩ (ritems_pf D _ (by omega) (kn_in hc))) ?_
             refine .go 309 rfl rfl rfl rfl (.callf rfl cf17 rfl ⟨trivial, trivial, trivial⟩ (samei_pf _ (hil _))) ?_
             refine .step rfl (.pick rfl rfl rfl) ?_
             refine .step rfl (.move rfl rfl) ?_
             refine .go 318 rfl rfl rfl rfl (.move rfl rfl) ?_
             refine .go 318 rfl rfl rfl rfl (.move rfl rfl) ?_
             refine .go 318 rfl rfl rfl rfl (.bin rfl rfl rfl rfl) ?_
             refine .go 318 rfl rfl rfl rfl (.callc rfl cf10 rfl (cI _)) ?_
             refine .go 318 rfl rfl rfl rfl (.move rfl rfl) ?_
             refine .go 318 rfl rfl rfl rfl (.move rfl rfl) ?_
             refine .go 318 rfl rfl rfl rfl (.bin rfl rfl rfl rfl) ?_
             refine .go 318 rfl rfl rfl rfl (.callf rfl cf24 rfl ⟨trivial, trivial, trivial⟩ (ritems_pf D _ (by omega) (kn_in hc))) ?_
             refine .go 318 rfl rfl rfl rfl (.callf rfl cf17 rfl ⟨trivial, trivial, trivial⟩ (samei_pf _ (hil _))) ?_
             refine .step rfl (.pick rfl rfl rfl) ?_
             refine .step rfl (.assign rfl rfl) ?_
             refine .nil ?_
             refine .next ?_
             refine .ret ?_
             exact TE.retf rfl rfl rfl trivial
       ·skip
        refine .seq ?_
        refine .region ?_
        refine .step rfl (.move rfl rfl) ?_
        refine .step rfl (.leno rfl rfl rfl is24) ?_
        refine .step rfl (.bin rfl rfl rfl rfl) ?_
        refine .nil ?_
        refine .next ?_
        refine .cond rfl (fun h24 => ?_) (fun h24 => ?_)
        ·skip
         have h0 : 0 < D.length := by have q := of_decide_eq_true h24; (try dsimp only at q); omega
         have hib : b.toNat % D.length < D.length := Nat.mod_lt _ h0
         refine .seq ?_
         refine .region ?_
         refine .step rfl (.move rfl rfl) ?_
         refine .step rfl (.conviv (((b.toNat : Nat) : Int)) rfl rfl uk5 uk3 (IntKind.wrap_i64 _ ▸ (by have := b.toNat_lt; omega))) ?_
         refine .step rfl (.move rfl rfl) ?_
         refine .step rfl (.leno rfl rfl rfl is24) ?_
         refine .step rfl (.rem (((b.toNat % D.length : Nat) : Int)) rfl rfl rfl (by omega) (by rw [Int.tmod_eq_emod_of_nonneg (by omega)]; omega)) ?_
         refine .step rfl (.assign rfl rfl) ?_
         refine .nil ?_
         refine .next ?_
         refine .seq ?_
         refine .region ?_
         refine .step rfl (.move rfl rfl) ?_
         refine .step rfl (.rem (((w.toNat % 5 : Nat) : Int)) rfl rfl rfl (by decide) (by rw [Int.tmod_eq_emod_of_nonneg (by omega)]; omega)) ?_
         refine .nil ?_
         refine .next ?_
         refine .block ?_
         refine .seq ?_
         by_cases w0 : w.toNat % 5 = 0
         ·skip
          refine .region ?_
          refine .step rfl (.binv (.bool true) rfl rfl rfl rfl (congrArg Value.bool (decide_eq_true (by omega)))) ?_
          refine .step rfl (.assign rfl rfl) ?_
          refine .nil ?_
          refine .next ?_
          refine .cond rfl (fun h26 => ?_) (fun h26 => absurd h26 (by decide))
          refine .region ?_
          refine .step rfl (.move rfl rfl) ?_
          refine .step rfl (.move rfl rfl) ?_
          refine .step rfl (.move rfl rfl) ?_
          refine .step rfl (.idxo rfl rfl rfl rfl rfl et24 (Int.natCast_nonneg _) (by omega)) ?_
          refine .step rfl (.fieldp rfl rfl rfl rfl fo32_1) ?_
          refine .step rfl (.storef (xs := D) (enc := Kn.dv) (sz := 4) (i := (b.toNat % D.length)) (k := 3) ⟨D[b.toNat % D.length].nm, D[b.toNat % D.length].ver, D[b.toNat % D.length].key, v⟩ rfl rfl rfl rfl rfl (fun _ => rfl) sz3 rfl hib (Nat.le_of_ble_eq_true rfl) rfl) ?_
          refine .nil ?_
          refine TE.blk ?_
          refine TE.frz 20 (slT Kn.dv 4 Y) rfl rfl (kn_cells _ _ (by simp)) (by rw [hY.out, yF_at h0 hib]; simp only [w0, if_true]; exact sl_set ..) ?_
          exact TE.joinf (trivial) ⟨⟨rfl, rfl⟩, ⟨rfl, rfl⟩, ⟨rfl, rfl⟩, ⟨rfl, rfl⟩, ⟨rfl, rfl⟩, ⟨rfl, rfl⟩, ⟨rfl, rfl⟩, ⟨rfl, rfl⟩, ⟨rfl, rfl⟩, ⟨rfl, rfl⟩, ⟨rfl, rfl⟩, trivial⟩ ⟨.inl rfl, trivial⟩
         ·skip
          refine .region ?_
          refine .step rfl (.binv (.bool false) rfl rfl rfl rfl (congrArg Value.bool (decide_eq_false (by omega)))) ?_
          refine .step rfl (.assign rfl rfl) ?_
          refine .nil ?_
          refine .next ?_
          refine .cond rfl (fun h27 => absurd h27 (by decide)) (fun h27 => ?_)
          refine .seq ?_
          by_cases w1 : w.toNat % 5 = 1
          ·skip
           refine .region ?_
           refine .step rfl (.binv (.bool true) rfl rfl rfl rfl (congrArg Value.bool (decide_eq_true (by omega)))) ?_
           refine .step rfl (.assign rfl rfl) ?_
           refine .nil ?_
           refine .next ?_
           refine .cond rfl (fun h29 => ?_) (fun h29 => absurd h29 (by decide))
           refine .region ?_
           refine .step rfl (.move rfl rfl) ?_
           refine .step rfl (.move rfl rfl) ?_
           refine .step rfl (.move rfl rfl) ?_
           refine .step rfl (.bits (and7 v) rfl rfl rfl rfl (rfl)) ?_
           refine .step rfl (.idxo rfl rfl rfl rfl rfl et24 (Int.natCast_nonneg _) (by omega)) ?_
           refine .step rfl (.fieldp rfl rfl rfl rfl fo32_0) ?_
           refine .step rfl (.fieldp rfl rfl rfl rfl fo30_1) ?_
           refine .step rfl (.storef (xs := D) (enc := Kn.dv) (sz := 4) (i := (b.toNat % D.length)) (k := 1) ⟨D[b.toNat % D.length].nm, and7 v, D[b.toNat % D.length].key, D[b.toNat % D.length].ep⟩ rfl rfl rfl rfl rfl (fun _ => rfl) sz3 rfl hib (Nat.le_of_ble_eq_true rfl) rfl) ?_
           refine .nil ?_
           refine TE.blk ?_
           refine TE.frz 20 (slT Kn.dv 4 Y) rfl rfl (kn_cells _ _ (by simp)) (by rw [hY.out, yF_at h0 hib]; simp only [w0, w1, if_true, if_false]; exact sl_set ..) ?_
           exact TE.joinf (trivial) ⟨⟨rfl, rfl⟩, ⟨rfl, rfl⟩, ⟨rfl, rfl⟩, ⟨rfl, rfl⟩, ⟨rfl, rfl⟩, ⟨rfl, rfl⟩, ⟨rfl, rfl⟩, ⟨rfl, rfl⟩, ⟨rfl, rfl⟩, ⟨rfl, rfl⟩, ⟨rfl, rfl⟩, trivial⟩ ⟨.inl rfl, trivial⟩
          ·skip
           refine .region ?_
           refine .step rfl (.binv (.bool false) rfl rfl rfl rfl (congrArg Value.bool (decide_eq_false (by omega)))) ?_
           refine .step rfl (.assign rfl rfl) ?_
           refine .nil ?_
           refine .next ?_
           refine .cond rfl (fun h30 => absurd h30 (by decide)) (fun h30 => ?_)
           refine .seq ?_
           by_cases w2 : w.toNat % 5 = 2
           ·skip
            refine .region ?_
            refine .step rfl (.binv (.bool true) rfl rfl rfl rfl (congrArg Value.bool (decide_eq_true (by omega)))) ?_
            refine .step rfl (.assign rfl rfl) ?_
            refine .nil ?_
            refine .next ?_
            refine .cond rfl (fun h32 => ?_) (fun h32 => absurd h32 (by decide))
            refine .region ?_
            refine .step rfl (.move rfl rfl) ?_
            refine .step rfl (.move rfl rfl) ?_
            refine .step rfl (.move rfl rfl) ?_
            refine .step rfl (.idxo rfl rfl rfl rfl rfl et24 (Int.natCast_nonneg _) (by omega)) ?_
            refine .step rfl (.fieldp rfl rfl rfl rfl fo32_0) ?_
            refine .step rfl (.fieldp rfl rfl rfl rfl fo30_0) ?_
            refine .step rfl (.storef (xs := D) (enc := Kn.dv) (sz := 4) (i := (b.toNat % D.length)) (k := 0) ⟨s, D[b.toNat % D.length].ver, D[b.toNat % D.length].key, D[b.toNat % D.length].ep⟩ rfl rfl rfl rfl rfl (fun _ => rfl) sz9 rfl hib (Nat.le_of_ble_eq_true rfl) rfl) ?_
            refine .nil ?_
            refine TE.blk ?_
            refine TE.frz 20 (slT Kn.dv 4 Y) rfl rfl (kn_cells _ _ (by simp)) (by rw [hY.out, yF_at h0 hib]; simp only [w0, w1, w2, if_true, if_false]; exact sl_set ..) ?_
            exact TE.joinf (trivial) ⟨⟨rfl, rfl⟩, ⟨rfl, rfl⟩, ⟨rfl, rfl⟩, ⟨rfl, rfl⟩, ⟨rfl, rfl⟩, ⟨rfl, rfl⟩, ⟨rfl, rfl⟩, ⟨rfl, rfl⟩, ⟨rfl, rfl⟩, ⟨rfl, rfl⟩, ⟨rfl, rfl⟩, trivial⟩ ⟨.inl rfl, trivial⟩
           ·skip
            refine .region ?_
            refine .step rfl (.binv (.bool false) rfl rfl rfl rfl (congrArg Value.bool (decide_eq_false (by omega)))) ?_
            refine .step rfl (.assign rfl rfl) ?_
            refine .nil ?_
            refine .next ?_
            refine .cond rfl (fun h33 => absurd h33 (by decide)) (fun h33 => ?_)
            refine .seq ?_
            by_cases w3 : w.toNat % 5 = 3
            ·skip
             refine .region ?_
             refine .step rfl (.binv (.bool true) rfl rfl rfl rfl (congrArg Value.bool (decide_eq_true (by omega)))) ?_
             refine .step rfl (.assign rfl rfl) ?_
             refine .nil ?_
             refine .next ?_
             refine .cond rfl (fun h35 => ?_) (fun h35 => absurd h35 (by decide))
             refine .region ?_
             refine .step rfl (.move rfl rfl) ?_
             refine .step rfl (.move rfl rfl) ?_
             refine .step rfl (.move rfl rfl) ?_
             refine .step rfl (.conviv (u64w v) rfl rfl uk3 uk28 (rfl)) ?_
             refine .step rfl (.idxo rfl rfl rfl rfl rfl et24 (Int.natCast_nonneg _) (by omega)) ?_
             refine .step rfl (.fieldp rfl rfl rfl rfl fo32_0) ?_
             refine .step rfl (.fieldp rfl rfl rfl rfl fo30_2) ?_
             refine .step rfl (.storef (xs := D) (enc := Kn.dv) (sz := 4) (i := (b.toNat % D.length)) (k := 2) ⟨D[b.toNat % D.length].nm, D[b.toNat % D.length].ver, u64w v, D[b.toNat % D.length].ep⟩ rfl rfl rfl rfl rfl (fun _ => rfl) sz28 rfl hib (Nat.le_of_ble_eq_true rfl) rfl) ?_
             refine .nil ?_
             refine TE.blk ?_
             refine TE.frz 20 (slT Kn.dv 4 Y) rfl rfl (kn_cells _ _ (by simp)) (by rw [hY.out, yF_at h0 hib]; simp only [w0, w1, w2, w3, if_true, if_false]; exact sl_set ..) ?_
             exact TE.joinf (trivial) ⟨⟨rfl, rfl⟩, ⟨rfl, rfl⟩, ⟨rfl, rfl⟩, ⟨rfl, rfl⟩, ⟨rfl, rfl⟩, ⟨rfl, rfl⟩, ⟨rfl, rfl⟩, ⟨rfl, rfl⟩, ⟨rfl, rfl⟩, ⟨rfl, rfl⟩, ⟨rfl, rfl⟩, trivial⟩ ⟨.inl rfl, trivial⟩
            ·skip
             refine .region ?_
             refine .step rfl (.binv (.bool false) rfl rfl rfl rfl (congrArg Value.bool (decide_eq_false (by omega)))) ?_
             refine .step rfl (.assign rfl rfl) ?_
             refine .nil ?_
             refine .next ?_
             refine .cond rfl (fun h36 => absurd h36 (by decide)) (fun h36 => ?_)
             refine .draw mixed [Ro.mk _ (Eff.mk (some (87, _)) []) [], Ro.mk _ (Eff.mk (some (88, _)) []) [], Ro.mk _ (Eff.mk (some (89, _)) []) [], Ro.mk _ (Eff.mk (some (90, _)) []) [], Ro.mk _ (Eff.mk (some (91, _)) []) [], Ro.mk _ (Eff.mk (some (92, _)) []) [1], Ro.mk _ (Eff.mk (some (93, _)) []) [1], Ro.mk _ (Eff.mk (some (94, _)) []) [], Ro.mk _ (Eff.mk (some (95, _)) []) [1], Ro.mk _ (Eff.mk (some (96, _)) []) [1], Ro.mk _ (Eff.mk (some (97, _)) []) [1], Ro.mk _ (Eff.mk none [(1, _)]) [1], Ro.mk _ (Eff.mk (some (98, _)) []) [1], Ro.mk _ (Eff.mk none [(1, _)]) [1]] rfl ⟨(fun _ _ => .move rfl rfl), (fun _ _ => .move rfl rfl), (fun _ _ => .move rfl rfl), (fun _ _ => .move rfl rfl), (fun _ _ => .move rfl rfl), (fun _ _ => .idxo rfl rfl rfl rfl rfl et24 (Int.natCast_nonneg _) (by omega)), (fun _ _ => .ldpm rfl rfl rfl rfl (flat_at kn_len D hib) (rfl) tk32), (fun _ _ => .move rfl rfl), (fun _ _ => .idxo rfl rfl rfl rfl rfl et24 (by decide) (by omega)), (fun _ _ => .ldpm rfl rfl rfl rfl (flat_at kn_len D h0) (rfl) tk32), (fun _ _ => .idxo rfl rfl rfl rfl rfl et24 (by decide) (by omega)), (fun _ _ => .storer (xs := D) (enc := Kn.dv) (D[b.toNat % D.length]) rfl rfl rfl rfl rfl rfl (fun _ => rfl) sz32 rfl (h0)), (fun _ _ => .idxo rfl rfl rfl rfl rfl et24 (Int.natCast_nonneg _) (by omega)), (fun _ _ => .storer (xs := D.set 0 D[b.toNat % D.length]) (enc := Kn.dv) (D[0]) rfl rfl rfl rfl rfl rfl (fun _ => rfl) sz32 rfl (by rw [List.length_set]; exact hib)), trivial⟩ (by kernel_rfl) ?_
             refine TE.blk ?_
             refine TE.frz 20 (slT Kn.dv 4 Y) rfl rfl (kn_cells _ _ (by simp)) (by rw [hY.out, yF_at h0 hib]; simp only [w0, w1, w2, w3, if_false]; exact sl_set2 ..) ?_
             exact TE.joinf (trivial) ⟨⟨rfl, rfl⟩, ⟨rfl, rfl⟩, ⟨rfl, rfl⟩, ⟨rfl, rfl⟩, ⟨rfl, rfl⟩, ⟨rfl, rfl⟩, ⟨rfl, rfl⟩, ⟨rfl, rfl⟩, ⟨rfl, rfl⟩, ⟨rfl, rfl⟩, ⟨rfl, rfl⟩, trivial⟩ ⟨.inl rfl, trivial⟩
        ·skip
         have h0 : ¬ (0 < D.length) := by have q := of_decide_eq_false h24; (try dsimp only at q); omega
         refine .skip ?_
         refine TE.frz 20 (slT Kn.dv 4 Y) rfl rfl (kn_cells _ _ rfl) (by rw [hY.out, yF_nil h0] <;> rfl) ?_
         exact TE.joinf (trivial) ⟨⟨rfl, rfl⟩, ⟨rfl, rfl⟩, ⟨rfl, rfl⟩, ⟨rfl, rfl⟩, ⟨rfl, rfl⟩, ⟨rfl, rfl⟩, ⟨rfl, rfl⟩, ⟨rfl, rfl⟩, ⟨rfl, rfl⟩, ⟨rfl, rfl⟩, ⟨rfl, rfl⟩, trivial⟩ ⟨.inl rfl, trivial⟩

end Go.Proofs.Ythidepbffhhkmaa
