/-
  HeadTells.
-/
import Derived.Test.YteapoemockimfaaZHp
import Derived.Test.YteapoemockimfaaZGe
import Derived.Test.YteapoemockimfaaZEv
namespace Go.Proofs.Yteapoemockimfaa
set_option linter.unusedVariables false
set_option linter.unusedSimpArgs false
open Go.RowKit Pl
set_option maxRecDepth 100000
set_option maxHeartbeats 3200000
theorem et46 : elt Try.prog 46 = some (24, 1) := by kernel_rfl
theorem qt28 : eqT Try.prog 28 = some hdks := by kernel_rfl
theorem tk24 : tyk Try.prog 24 = some none := by kernel_rfl
theorem ub4 : ubl Try.prog 4 = true := by kernel_rfl
theorem hbent_pf (h : Hd) (w : UInt8) (v : Int) (x : H) : PF Try.prog 9 [.ag (h).dv, .v (.int .u8 ((w.toNat : Nat) : Int)), .v (.int .i64 v), .ag (hdv (x))] (.ag (bentH h w v x).dv) := by
 refine PF.enter (fn := Try.f9) Try.func9 rfl Try.ntmps9 rfl (fun w0 => .w ?_)
 refine .g 3 1 rfl ?_
 refine TE.frzb 7 rfl rfl rfl rfl ?_
 by_cases n0 : w.toNat % 7 = 0
 ·skip
  have e : bentH h w v x = { h with ep := v } := by unfold bentH; rw [if_pos (by omega)]
  refine .t 1 4 rfl rfl (.rem (0) rfl rfl rfl (by decide) (by rw [Int.tmod_eq_emod_of_nonneg (by omega)]; omega)) ?_
  refine .t 0 4 rfl rfl (.bv (.bool true) rfl (rfl)) ?_
  refine .g 5 4 rfl ?_
  refine TE.obj 1 (.box 28 (Hd.dv { h with ep := v })) rfl rfl ?_
  refine .t 0 4 rfl rfl (.lp (Hd.dv { h with ep := v }) rfl) ?_
  rw [e]
  exact .z 1 4 rfl (TE.retf rfl rfl rfl (pl_hd _))
 ·skip
  by_cases n1 : w.toNat % 7 = 1
  ·skip
   have e : bentH h w v x = { h with tk := v } := by unfold bentH; rw [if_neg (by omega), if_pos (by omega)]
   refine .t 1 4 rfl rfl (.rem (1) rfl rfl rfl (by decide) (by rw [Int.tmod_eq_emod_of_nonneg (by omega)]; omega)) ?_
   refine .t 0 4 rfl rfl (.bv (.bool false) rfl (rfl)) ?_
   refine .t 2 4 rfl rfl (.bv (.bool true) rfl (rfl)) ?_
   refine .g 5 4 rfl ?_
   refine TE.obj 1 (.box 28 (Hd.dv { h with tk := v })) rfl rfl ?_
   refine .t 0 4 rfl rfl (.lp (Hd.dv { h with tk := v }) rfl) ?_
   rw [e]
   exact .z 1 4 rfl (TE.retf rfl rfl rfl (pl_hd _))
  ·skip
   by_cases n2 : w.toNat % 7 = 2
   ·skip
    have e : bentH h w v x = { h with ct := v } := by unfold bentH; rw [if_neg (by omega), if_neg (by omega), if_pos (by omega)]
    refine .t 1 4 rfl rfl (.rem (2) rfl rfl rfl (by decide) (by rw [Int.tmod_eq_emod_of_nonneg (by omega)]; omega)) ?_
    refine .t 0 4 rfl rfl (.bv (.bool false) rfl (rfl)) ?_
    refine .t 2 4 rfl rfl (.bv (.bool false) rfl (rfl)) ?_
    refine .t 2 4 rfl rfl (.bv (.bool true) rfl (rfl)) ?_
    refine .g 5 4 rfl ?_
    refine TE.obj 1 (.box 28 (Hd.dv { h with ct := v })) rfl rfl ?_
    refine .t 0 4 rfl rfl (.lp (Hd.dv { h with ct := v }) rfl) ?_
    rw [e]
    exact .z 1 4 rfl (TE.retf rfl rfl rfl (pl_hd _))
   ·skip
    by_cases n3 : w.toNat % 7 = 3
    ·skip
     have e : bentH h w v x = { h with root := x } := by unfold bentH; rw [if_neg (by omega), if_neg (by omega), if_neg (by omega), if_pos (by omega)]
     refine .t 1 4 rfl rfl (.rem (3) rfl rfl rfl (by decide) (by rw [Int.tmod_eq_emod_of_nonneg (by omega)]; omega)) ?_
     refine .t 0 4 rfl rfl (.bv (.bool false) rfl (rfl)) ?_
     refine .t 2 4 rfl rfl (.bv (.bool false) rfl (rfl)) ?_
     refine .t 2 4 rfl rfl (.bv (.bool false) rfl (rfl)) ?_
     refine .t 2 4 rfl rfl (.bv (.bool true) rfl (rfl)) ?_
     refine .t 2 4 rfl rfl (.lm (hdv x) rfl) ?_
     refine .g 2 4 rfl ?_
     refine TE.obj 1 (.box 28 (Hd.dv { h with root := x })) rfl rfl ?_
     refine .t 0 4 rfl rfl (.lp (Hd.dv { h with root := x }) rfl) ?_
     rw [e]
     exact .z 1 4 rfl (TE.retf rfl rfl rfl (pl_hd _))
    ·skip
     by_cases n4 : w.toNat % 7 = 4
     ·skip
      have e : bentH h w v x = { h with log := x } := by unfold bentH; rw [if_neg (by omega), if_neg (by omega), if_neg (by omega), if_neg (by omega), if_pos (by omega)]
      refine .t 1 4 rfl rfl (.rem (4) rfl rfl rfl (by decide) (by rw [Int.tmod_eq_emod_of_nonneg (by omega)]; omega)) ?_
      refine .t 0 4 rfl rfl (.bv (.bool false) rfl (rfl)) ?_
      refine .t 2 4 rfl rfl (.bv (.bool false) rfl (rfl)) ?_
      refine .t 2 4 rfl rfl (.bv (.bool false) rfl (rfl)) ?_
      refine .t 2 4 rfl rfl (.bv (.bool false) rfl (rfl)) ?_
      refine .t 2 4 rfl rfl (.bv (.bool true) rfl (rfl)) ?_
      refine .t 2 4 rfl rfl (.lm (hdv x) rfl) ?_
      refine .g 2 4 rfl ?_
      refine TE.obj 1 (.box 28 (Hd.dv { h with log := x })) rfl rfl ?_
      refine .t 0 4 rfl rfl (.lp (Hd.dv { h with log := x }) rfl) ?_
      rw [e]
      exact .z 1 4 rfl (TE.retf rfl rfl rfl (pl_hd _))
     ·skip
      by_cases n5 : w.toNat % 7 = 5
      ·skip
       have e : bentH h w v x = { h with r := u64w v } := by unfold bentH; rw [if_neg (by omega), if_neg (by omega), if_neg (by omega), if_neg (by omega), if_neg (by omega), if_pos (by omega)]
       refine .t 1 4 rfl rfl (.rem (5) rfl rfl rfl (by decide) (by rw [Int.tmod_eq_emod_of_nonneg (by omega)]; omega)) ?_
       refine .t 0 4 rfl rfl (.bv (.bool false) rfl (rfl)) ?_
       refine .t 2 4 rfl rfl (.bv (.bool false) rfl (rfl)) ?_
       refine .t 2 4 rfl rfl (.bv (.bool false) rfl (rfl)) ?_
       refine .t 2 4 rfl rfl (.bv (.bool false) rfl (rfl)) ?_
       refine .t 2 4 rfl rfl (.bv (.bool false) rfl (rfl)) ?_
       refine .t 2 4 rfl rfl (.bv (.bool true) rfl (rfl)) ?_
       refine .t 3 4 rfl rfl (.cv (u64w v) rfl (rfl)) ?_
       refine .g 3 4 rfl ?_
       refine TE.obj 1 (.box 28 (Hd.dv { h with r := u64w v })) rfl rfl ?_
       refine .t 0 4 rfl rfl (.lp (Hd.dv { h with r := u64w v }) rfl) ?_
       rw [e]
       exact .z 1 4 rfl (TE.retf rfl rfl rfl (pl_hd _))
      ·skip
       have e : bentH h w v x = { h with s := u64w v } := by unfold bentH; rw [if_neg (by omega), if_neg (by omega), if_neg (by omega), if_neg (by omega), if_neg (by omega), if_neg (by omega)]
       refine .t 1 4 rfl rfl (.rem (6) rfl rfl rfl (by decide) (by rw [Int.tmod_eq_emod_of_nonneg (by omega)]; omega)) ?_
       refine .t 0 4 rfl rfl (.bv (.bool false) rfl (rfl)) ?_
       refine .t 2 4 rfl rfl (.bv (.bool false) rfl (rfl)) ?_
       refine .t 2 4 rfl rfl (.bv (.bool false) rfl (rfl)) ?_
       refine .t 2 4 rfl rfl (.bv (.bool false) rfl (rfl)) ?_
       refine .t 2 4 rfl rfl (.bv (.bool false) rfl (rfl)) ?_
       refine .t 2 4 rfl rfl (.bv (.bool false) rfl (rfl)) ?_
       refine .t 3 4 rfl rfl (.cv (u64w v) rfl (rfl)) ?_
       refine .g 3 4 rfl ?_
       refine TE.obj 1 (.box 28 (Hd.dv { h with s := u64w v })) rfl rfl ?_
       refine .t 0 4 rfl rfl (.lp (Hd.dv { h with s := u64w v }) rfl) ?_
       rw [e]
       exact .z 1 4 rfl (TE.retf rfl rfl rfl (pl_hd _))
theorem hknown_pf : PF Try.prog 6 [] (.v (.bool true)) := by
 have k5 := h0_fit
 obtain ⟨g, hg⟩ : ∃ g, g = signH 5 h0 := ⟨_, rfl⟩
 have gr := h0_right
 have g5 := h0_five
 have g6 := h0_six
 rw [← hg] at k5 gr g5 g6
 have c0 : PF Try.prog 16 [.v (.int .u64 5), .ag h0.dv] (.ag g.dv) := by rw [hg]; exact sign_pf 5 h0 ⟨by decide, by decide⟩
 have c1 := puth_pc g k5.2.2.2
 rw [if_pos gr, if_pos gr] at c1
 have c2 := hread_pc (putH g) (by rw [putH_len]; decide)
 rw [read_putH gr k5.2.2.2] at c2
 have c3 := puth_pc zeroHd ⟨⟨by decide, by decide⟩, ⟨by decide, by decide⟩⟩
 rw [if_neg (by decide), if_neg (by decide)] at c3
 have c4 := chk_pf (pubF 5) g ⟨(pubF_bd 5).1, Int.lt_trans (pubF_bd 5).2 (by decide)⟩ k5.2.2.2
 rw [g5] at c4
 have c5 := chk_pf (pubF 6) g ⟨(pubF_bd 6).1, Int.lt_trans (pubF_bd 6).2 (by decide)⟩ k5.2.2.2
 rw [g6] at c5
 clear hg g5 g6
 refine PF.enter (fn := Try.f6) Try.func6 rfl Try.ntmps6 rfl (fun w0 => .w ?_)
 refine .t 1 1 rfl rfl (.bd (h0.dv) rfl) ?_
 refine .t 0 1 rfl rfl (.cf (c0) rfl) ?_
 refine .t 2 1 rfl rfl (.lp (g.dv) rfl) ?_
 refine .t 0 2 rfl rfl (.cc (c1) rfl) ?_
 refine .t 6 2 rfl rfl (.cc (c2) rfl) ?_
 refine .t 6 2 rfl rfl (.bd (zeroHd.dv) rfl) ?_
 refine .t 0 3 rfl rfl (.cc (c3) rfl) ?_
 refine .d 5 3 rfl ?_
 refine .v 1 3 [] rfl rfl (fun _ _ => .bv (.bool true) rfl (rfl)) ?_
 refine .v 2 3 [] rfl rfl (fun _ _ => .bv (.bool true) rfl (rfl)) ?_
 refine .v 2 3 [2] rfl rfl (fun _ _ => .lp (g.dv) rfl) ?_
 refine .v 0 3 [1] rfl rfl (fun _ _ => .lp (g.dv) rfl) ?_
 refine .v 0 3 [] rfl rfl (fun _ _ => .eqs true (by simp) (fit_hd k5) (fit_hd k5) rfl rfl rfl qt28) ?_
 refine .v 4 3 [] rfl rfl (fun _ _ => .bv (.bool true) rfl (congrArg Value.bool (decide_eq_true (by rw [putH_len]; rfl)))) ?_
 refine .v 2 3 [] rfl rfl (fun _ _ => .cf (rpub_pf 5 ⟨by decide, by decide⟩) rfl) ?_
 refine .v 0 3 [1] rfl rfl (fun _ _ => .lp (g.dv) rfl) ?_
 refine .v 0 3 [] rfl rfl (fun _ _ => .cf (c4) rfl) ?_
 refine .v 2 3 [] rfl rfl (fun _ _ => .cf (rpub_pf 6 ⟨by decide, by decide⟩) rfl) ?_
 refine .v 0 3 [1] rfl rfl (fun _ _ => .lp (g.dv) rfl) ?_
 refine .v 0 3 [] rfl rfl (fun _ _ => .cf (c5) rfl) ?_
 refine .v 4 3 [] rfl rfl (fun _ _ => .bv (.bool true) rfl (rfl)) ?_
 refine .y 2 3 rfl (by kernel_rfl) ?_
 exact .z 0 3 rfl (TE.retf rfl rfl rfl (okv rfl))
theorem headTells_pf (raw : Hd) (l : List UInt8) (k w : UInt8) (v : Int) (x : H) (sec y : Int) (w0 : hdFit raw) (wv : -9223372036854775808 ≤ v ∧ v < 9223372036854775808) (ws : 0 ≤ sec ∧ sec < 18446744073709551616) (wy : 0 ≤ y ∧ y < 18446744073709551616) : PF Try.prog 3 [.ag (raw).dv, slT bdv 1 l, .v (.int .u8 ((k.toNat : Nat) : Int)), .v (.int .u8 ((w.toNat : Nat) : Int)), .v (.int .i64 v), .ag (hdv (x)), .v (.int .u64 sec), .v (.int .u64 y)] (.v (.bool true)) := by
 have hk := k.toNat_lt
 refine PF.enter (fn := Try.f3) Try.func3 rfl Try.ntmps3 rfl (fun w0 => .w ?_)
 refine .g 3 1 rfl ?_
 refine TE.frzb 8 rfl rfl rfl rfl ?_
 refine TE.frzb 13 rfl rfl rfl rfl ?_
 refine .t 0 3 rfl rfl (.cf (hknown_pf) rfl) ?_
 refine .q 5 3 rfl rfl (fun h2 => ?_) (fun h2 => ?_)
 ·skip
  have hl : 6 < l.length := by have q := of_decide_eq_true h2; (try dsimp only at q); omega
  exact .z 1 3 rfl (TE.retf rfl rfl rfl (okv rfl))
 ·skip
  have hl : ¬ (6 < l.length) := by have q := of_decide_eq_false h2; (try dsimp only at q); omega
  refine .t 1 3 rfl rfl (.cv (((k.toNat : Nat) : Int)) rfl (by rw [IntKind.wrap_i64]; omega)) ?_
  refine .t 0 3 rfl rfl (.bv (.int .i64 ((k.toNat + 1 : Nat) : Int)) rfl (congrArg _ (by rw [IntKind.wrap_i64]; omega))) ?_
  refine .t 1 3 rfl rfl (.cv (((k.toNat : Nat) : Int)) rfl (by rw [IntKind.wrap_i64]; omega)) ?_
  refine .t 0 3 rfl rfl (.bv (.int .i64 ((k.toNat * 3 : Nat) : Int)) rfl (congrArg _ (by rw [IntKind.wrap_i64]; omega))) ?_
  refine .t 1 3 rfl rfl (.rem (((k.toNat % 8 : Nat) : Int)) rfl rfl rfl (by decide) (by rw [Int.tmod_eq_emod_of_nonneg (by omega)]; omega)) ?_
  refine .t 0 3 rfl rfl (.cv (((k.toNat % 8 : Nat) : Int)) rfl (by rw [IntKind.wrap_i64]; omega)) ?_
  refine .t 0 3 rfl rfl (.bv (.int .i64 ((k.toNat % 8 + 1 : Nat) : Int)) rfl (congrArg _ (by rw [IntKind.wrap_i64]; omega))) ?_
  refine .t 0 3 rfl rfl (.lm (hdv x) rfl) ?_
  refine .t 0 3 rfl rfl (.bd (Hd.dv ⟨((k.toNat + 1 : Nat) : Int), ((k.toNat * 3 : Nat) : Int), ((k.toNat % 8 + 1 : Nat) : Int), x, zeroH, 0, 0⟩) rfl) ?_
  refine .t 0 3 rfl rfl (.cf (rsign_pf 5 _ ⟨by decide, by decide⟩) rfl) ?_
  refine .g 2 3 rfl ?_
  refine TE.obj 3 (.box 28 (signH 5 ⟨((k.toNat + 1 : Nat) : Int), ((k.toNat * 3 : Nat) : Int), ((k.toNat % 8 + 1 : Nat) : Int), x, zeroH, 0, 0⟩).dv) rfl rfl ?_
  refine .t 1 4 rfl rfl (.cc (epochs_pc 5 ⟨by decide, by decide⟩ l (by omega)) rfl) ?_
  refine .g 10 4 rfl ?_
  refine .jn [(0, .d (.ag (raw).dv)), (1, .d (slT bdv 1 l)), (2, .d (.v (.int .u8 ((k.toNat : Nat) : Int)))), (3, .d (.v (.int .u8 ((w.toNat : Nat) : Int)))), (4, .d (.v (.int .i64 v))), (5, .d (.ag (hdv (x)))), (6, .d (.v (.int .u64 sec))), (7, .d (.v (.int .u64 y))), (8, .d (.el raw.dv)), (13, .d (.el (hdv x))), (17, .ptr 3 0)] [(3, .box 28 (seatH l k x).dv)] ?_ ?_
  ·skip
   have hsf := seatH_fit (l := l) (by omega) k x
   obtain ⟨hd, hhd⟩ : ∃ hd, hd = seatH l k x := ⟨_, rfl⟩
   rw [← hhd] at hsf ⊢
   have f1 := bentH_fit hsf wv w x
   have f2 := bentH_fit hsf (v := andI v) (andI_bd v) w x
   obtain ⟨b1, hb1⟩ : ∃ b, b = bentH hd w v x := ⟨_, rfl⟩
   obtain ⟨b2, hb2⟩ : ∃ b, b = bentH hd w (andI v) x := ⟨_, rfl⟩
   rw [← hb1] at f1
   rw [← hb2] at f2
   have cb1 := hbent_pf hd w v x
   have cb2 := hbent_pf hd w (andI v) x
   rw [← hb1] at cb1
   rw [← hb2] at cb2
   obtain ⟨Z, hZ⟩ : ∃ Z, Z = [raw, hd, b1, b2] := ⟨_, rfl⟩
   have hZf : ∀ z ∈ Z, hdFit z := by rw [hZ]; intro z hz; simp only [List.mem_cons, List.not_mem_nil, or_false] at hz; rcases hz with rfl | rfl | rfl | rfl <;> assumption
   have hZl : Z.length = 4 := by rw [hZ]; rfl
   refine .d 0 4 rfl ?_
   refine .v 0 4 [] rfl rfl (fun _ _ => .lm (raw.dv) rfl) ?_
   refine .v 0 4 [3] rfl rfl (fun _ _ => .lp ((hd).dv) rfl) ?_
   refine .v 0 4 [3] rfl rfl (fun _ _ => .lp ((hd).dv) rfl) ?_
   refine .v 2 4 [] rfl rfl (fun _ _ => .lm (hdv x) rfl) ?_
   refine .v 0 4 [] rfl rfl (fun _ _ => .cf (cb1) rfl) ?_
   refine .v 0 4 [3] rfl rfl (fun _ _ => .lp ((hd).dv) rfl) ?_
   refine .v 2 4 [] rfl rfl (fun _ _ => .bits (andI v) rfl rfl rfl rfl (rfl)) ?_
   refine .v 0 4 [] rfl rfl (fun _ _ => .lm (hdv x) rfl) ?_
   refine .v 0 4 [] rfl rfl (fun _ _ => .cf (cb2) rfl) ?_
   refine .t 0 4 (E := ⟨some (79, _), [(4, _)]⟩) [4] rfl rfl (fun _ _ => .bb ([raw, hd, b1, b2].flatMap Hd.dv) 4 rfl) ?_
   refine .y 2 5 rfl (by kernel_rfl) ?_
   refine TE.frz 79 (slT Hd.dv 69 (Z)) rfl rfl rfl (by rw [hZ]; rfl) ?_
   refine TE.setv 80 (.int .i64 ((Z.length : Nat) : Int)) rfl (congrArg _ (by rw [hZl])) ?_
   refine TE.setv 81 (.int .i64 ((0 : Nat) : Int)) rfl (congrArg _ (by first | rfl | (dsimp only; first | done | rfl | omega))) ?_
   refine .lo (T := Nat) 0 5 rfl (fun i => i ≤ Z.length) (fun i => Z.length - i) [0, 1, 2, 3, 4, 5, 6, 7] [] (fun i => [(8, .d (.el raw.dv)), (13, .d (.el (hdv x))), (79, .d (slT Hd.dv 69 (Z))), (80, .d (.v (.int .i64 ((Z.length : Nat) : Int)))), (81, .d (.v (.int .i64 ((i : Nat) : Int))))]) (fun i => []) (0) rfl rfl (Nat.zero_le _) rfl rfl rfl (fun i hI => ?_)
   refine .q 1 5 rfl rfl (fun h3 => ?_) (fun h3 => ?_)
   ·skip
    have hi : i < Z.length := by have q := of_decide_eq_true h3; (try dsimp only at q); omega
    obtain ⟨z, hzi⟩ : ∃ z, z = Z[i] := ⟨_, rfl⟩
    have hz : hdFit z := by rw [hzi]; exact hZf _ (List.getElem_mem hi)
    have cP := puth_pc z hz.2.2.2
    have cQ := rputh_pc z hz.2.2.2
    obtain ⟨pz, hpz⟩ : ∃ p, p = (if rightH z = true then putH z else []) := ⟨_, rfl⟩
    obtain ⟨ez, hez⟩ : ∃ e : Int, e = (if rightH z = true then 0 else 23) := ⟨_, rfl⟩
    rw [← hpz, ← hez] at cP cQ
    refine .t 0 5 rfl rfl (.idx (Z[i]) rfl rfl rfl rfl et34 (fun _ => rfl) (Int.natCast_nonneg _) (get_nat hi)) ?_
    refine .t 0 5 rfl rfl (.lm ((Z[i]).dv) rfl) ?_
    refine .g 2 5 rfl ?_
    refine TE.obj 5 (.box 28 z.dv) rfl (by rw [hzi]; rfl) ?_
    refine .t 0 6 rfl rfl (.lp ((z).dv) rfl) ?_
    refine .t 0 6 rfl rfl (.cc (cP) rfl) ?_
    refine .t 5 6 rfl rfl (.lp ((z).dv) rfl) ?_
    refine .t 0 6 rfl rfl (.cc (cQ) rfl) ?_
    refine .d 5 6 rfl ?_
    refine .v 2 6 [] rfl rfl (fun _ _ => .bv (.bool false) rfl (congrArg Value.bool (by simp))) ?_
    refine .v 2 6 [] rfl rfl (fun _ _ => .convbd (l := pz) rfl rfl u829 us9) ?_
    refine .v 1 6 [] rfl rfl (fun _ _ => .convbd (l := pz) rfl rfl u829 us9) ?_
    refine .v 0 6 [] rfl rfl (fun _ _ => .bv (.bool false) rfl (congrArg Value.bool (by simp))) ?_
    refine .v 2 6 [5] rfl rfl (fun _ _ => .lp ((z).dv) rfl) ?_
    refine .v 0 6 [] rfl rfl (fun _ _ => .cf (right_pf z) rfl) ?_
    refine .v 0 6 [5] rfl rfl (fun _ _ => .lp ((z).dv) rfl) ?_
    refine .v 0 6 [] rfl rfl (fun _ _ => .cf (rright_pf z) rfl) ?_
    refine .v 0 6 [] rfl rfl (fun _ _ => .neb (p := rightH z) (q := rightH z) false rfl rfl rfl ub4 (by simp)) ?_
    refine .v 2 6 [5] rfl rfl (fun _ _ => .lp ((z).dv) rfl) ?_
    refine .v 0 6 [] rfl rfl (fun _ _ => .cf (msg_pf z) rfl) ?_
    refine .v 0 6 [] rfl rfl (fun _ _ => .convbd (l := msgB z) rfl rfl u829 us9) ?_
    refine .v 0 6 [5] rfl rfl (fun _ _ => .lp ((z).dv) rfl) ?_
    refine .v 0 6 [] rfl rfl (fun _ _ => .cf (rmsg_pf z) rfl) ?_
    refine .v 0 6 [] rfl rfl (fun _ _ => .convbd (l := msgB z) rfl rfl u829 us9) ?_
    refine .v 0 6 [] rfl rfl (fun _ _ => .bv (.bool false) rfl (congrArg Value.bool (by simp))) ?_
    refine .v 3 6 [5] rfl rfl (fun _ _ => .lp ((z).dv) rfl) ?_
    refine .v 0 6 [] rfl rfl (fun _ _ => .cf (sign_pf sec z ws) rfl) ?_
    refine .v 1 6 [5] rfl rfl (fun _ _ => .lp ((z).dv) rfl) ?_
    refine .v 0 6 [] rfl rfl (fun _ _ => .cf (rsign_pf sec z ws) rfl) ?_
    refine .v 0 6 [] rfl rfl (fun _ _ => .nes false (by simp) (fit_hd (fit_sign sec hz)) (fit_hd (fit_sign sec hz)) rfl rfl rfl qt28) ?_
    refine .y 1 6 rfl (by kernel_rfl) ?_
    refine .t 2 6 rfl rfl (.cf (rpub_pf 5 ⟨by decide, by decide⟩) rfl) ?_
    refine .t 0 6 rfl rfl (.bb ([y, pubF 5].flatMap udv) 6 rfl) ?_
    refine .g 2 7 rfl ?_
    obtain ⟨Y, hY⟩ : ∃ Y, Y = [y, pubF 5] := ⟨_, rfl⟩
    have hYf : ∀ p ∈ Y, u64I p := by rw [hY]; intro p hp; simp only [List.mem_cons, List.not_mem_nil, or_false] at hp; rcases hp with rfl | rfl; exact wy; exact ⟨(pubF_bd 5).1, Int.lt_trans (pubF_bd 5).2 (by decide)⟩
    have hYl : Y.length = 2 := by rw [hY]; rfl
    refine TE.frz 132 (slT udv 1 Y) rfl rfl rfl (by rw [hY]; rfl) ?_
    refine TE.setv 133 (.int .i64 ((Y.length : Nat) : Int)) rfl (congrArg _ (by rw [hYl])) ?_
    refine TE.setv 134 (.int .i64 ((0 : Nat) : Int)) rfl (congrArg _ (by first | rfl | (dsimp only; first | done | rfl | omega))) ?_
    refine .lo (T := Nat) 0 7 rfl (fun j => j ≤ Y.length) (fun j => Y.length - j) [0, 1, 2, 3, 4, 5, 6, 7] [] (fun j => [(8, .d (.el raw.dv)), (13, .d (.el (hdv x))), (79, .d (slT Hd.dv 69 (Z))), (80, .d (.v (.int .i64 ((Z.length : Nat) : Int)))), (81, .d (.v (.int .i64 ((i : Nat) : Int)))), (22, .ptr 5 0), (25, .d (slT bdv 1 pz)), (26, .d (.v (.int .i64 ez))), (132, .d (slT udv 1 Y)), (133, .d (.v (.int .i64 ((Y.length : Nat) : Int)))), (134, .d (.v (.int .i64 ((j : Nat) : Int))))]) (fun j => [(5, .box 28 z.dv)]) (0) rfl rfl (Nat.zero_le _) rfl rfl rfl (fun j hI => ?_)
    refine .q 1 7 rfl rfl (fun h5 => ?_) (fun h5 => ?_)
    ·skip
     have hj : j < Y.length := by have q := of_decide_eq_true h5; (try dsimp only at q); omega
     obtain ⟨p, hpj⟩ : ∃ p, p = Y[j] := ⟨_, rfl⟩
     have hp : u64I p := by rw [hpj]; exact hYf _ (List.getElem_mem hj)
     refine .t 0 7 rfl rfl (.idx (Y[j]) rfl rfl rfl rfl et46 (fun _ => rfl) (Int.natCast_nonneg _) (get_nat hj)) ?_
     refine .t 0 7 rfl rfl (.lde (X := .v (.int .u64 p)) rfl rfl rfl (by rw [hpj]; rfl) tk24) ?_
     refine .d 1 7 rfl ?_
     refine .v 1 7 [5] rfl rfl (fun _ _ => .lp ((z).dv) rfl) ?_
     refine .v 0 7 [] rfl rfl (fun _ _ => .cf (chk_pf p z hp hz.2.2.2) rfl) ?_
     refine .v 1 7 [5] rfl rfl (fun _ _ => .lp ((z).dv) rfl) ?_
     refine .v 0 7 [] rfl rfl (fun _ _ => .cf (rchk_pf p z hp hz.2.2.2) rfl) ?_
     refine .v 0 7 [] rfl rfl (fun _ _ => .neb (p := checkH p z) (q := checkH p z) false rfl rfl rfl ub4 (by simp)) ?_
     refine .y 0 7 rfl (by kernel_rfl) ?_
     refine .t 1 7 rfl rfl (.bv (.int .i64 ((j + 1 : Nat) : Int)) rfl (congrArg _ (by rw [IntKind.wrap_i64]; omega))) ?_
     refine .g 1 7 rfl ?_
     refine TE.setv 134 (.int .i64 ((j + 1 : Nat) : Int)) rfl (congrArg _ (by first | rfl | (dsimp only; first | done | rfl | omega))) ?_
     exact .rd 0 7 id (fun _ _ e => e) rfl (j + 1) hj (by omega) rfl rfl rfl
    ·skip
     have hj : ¬ (j < Y.length) := by have q := of_decide_eq_false h5; (try dsimp only at q); omega
     refine .q 2 7 rfl rfl (fun h7 => ?_) (fun h7 => ?_)
     ·skip
      refine .t 0 7 rfl rfl (.bv (.int .i64 ((i + 1 : Nat) : Int)) rfl (congrArg _ (by rw [IntKind.wrap_i64]; omega))) ?_
      refine .g 1 7 rfl ?_
      refine TE.setv 81 (.int .i64 ((i + 1 : Nat) : Int)) rfl (congrArg _ (by first | rfl | (dsimp only; first | done | rfl | omega))) ?_
      exact .rd 0 7 id (fun _ _ e => e) rfl (i + 1) hi (by omega) rfl rfl rfl
     ·skip
      have he : ez = 0 := by simpa using h7
      have hR : rightH z = true := by rw [hez] at he; by_cases hq : rightH z = true; exact hq; rw [if_neg hq] at he; exact absurd he (by decide)
      have hp1 : pz = putH z := by rw [hpz, if_pos hR]
      have cR := hread_pc (putH z) (by rw [putH_len]; decide)
      rw [read_putH hR hz.2.2.2, ← hp1] at cR
      refine .t 1 7 rfl rfl (.cc (cR) rfl) ?_
      refine .g 6 7 rfl ?_
      refine TE.obj 7 (.box 28 z.dv) rfl rfl ?_
      refine .t 1 8 rfl rfl (.bv (.bool false) rfl (rfl)) ?_
      refine .t 1 8 rfl rfl (.lp ((z).dv) rfl) ?_
      refine .t 0 8 rfl rfl (.lp ((z).dv) rfl) ?_
      refine .t 0 8 rfl rfl (.nes false (by simp) (fit_hd hz) (fit_hd hz) rfl rfl rfl qt28) ?_
      refine .t 2 8 rfl rfl (.bv (.int .i64 ((i + 1 : Nat) : Int)) rfl (congrArg _ (by rw [IntKind.wrap_i64]; omega))) ?_
      refine .g 1 8 rfl ?_
      refine TE.setv 81 (.int .i64 ((i + 1 : Nat) : Int)) rfl (congrArg _ (by first | rfl | (dsimp only; first | done | rfl | omega))) ?_
      exact .rd 0 8 id (fun _ _ e => e) rfl (i + 1) hi (by omega) rfl rfl rfl
   ·skip
    have hi : ¬ (i < Z.length) := by have q := of_decide_eq_false h3; (try dsimp only at q); omega
    exact .z 1 8 rfl (TE.retf rfl rfl rfl (okv rfl))
  ·skip
   refine .q 0 8 rfl rfl (fun h9 => ?_) (fun h9 => ?_)
   ·skip
    have hn : 0 < (epsR 5 l).hs.length := by have q := of_decide_eq_true h9; (try dsimp only at q); omega
    have hm := Nat.mod_lt k.toNat hn
    have hel := (epsR_ok 5 l).hs
    refine .t 2 8 rfl rfl (.cv (((k.toNat : Nat) : Int)) rfl (by rw [IntKind.wrap_i64]; omega)) ?_
    refine .t 2 8 rfl rfl (.rem (((k.toNat % (epsR 5 l).hs.length : Nat) : Int)) rfl rfl rfl (by omega) (by rw [Int.tmod_eq_emod_of_nonneg (by omega)]; omega)) ?_
    refine .t 0 8 rfl rfl (.idx ((epsR 5 l).hs[k.toNat % (epsR 5 l).hs.length]) rfl rfl rfl rfl et34 (fun _ => rfl) (Int.natCast_nonneg _) (get_nat hm)) ?_
    refine .t 0 8 rfl rfl (.lm (((epsR 5 l).hs[k.toNat % (epsR 5 l).hs.length]).dv) rfl) ?_
    refine .g 1 8 rfl ?_
    refine TE.obj 3 (.box 28 ((epsR 5 l).hs[k.toNat % (epsR 5 l).hs.length]).dv) rfl rfl ?_
    refine TE.obj 3 (.box 28 (seatH l k x).dv) rfl (by unfold seatH; rw [dif_pos hn]) ?_
    exact .je 0 8 rfl rfl rfl rfl
   ·skip
    have hn : ¬ (0 < (epsR 5 l).hs.length) := by have q := of_decide_eq_false h9; (try dsimp only at q); omega
    refine TE.obj 3 (.box 28 (seatH l k x).dv) rfl (by unfold seatH; rw [dif_neg hn]) ?_
    exact .je 0 8 rfl rfl rfl rfl
end Go.Proofs.Yteapoemockimfaa

