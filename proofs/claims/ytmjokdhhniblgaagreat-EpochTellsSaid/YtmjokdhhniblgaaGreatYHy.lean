import Derived.Test.YtmjokdhhniblgaaGreatYHx
import Derived.Test.YtmjokdhhniblgaaGreatYGk
import Derived.Test.YtmjokdhhniblgaaGreatYEv
/-
  EpochTells.
-/
namespace Go.Proofs.YtmjokdhhniblgaaGreat
set_option linter.unusedVariables false
set_option linter.unusedSimpArgs false
open Go.RowKit Pl
set_option maxRecDepth 100000
set_option maxHeartbeats 3200000
theorem cf19 : cfn Tryz.prog 19 = true := by kernel_rfl
theorem et45 : elt Tryz.prog 45 = some (23, 1) := by kernel_rfl
theorem et46 : elt Tryz.prog 46 = some (2, 1) := by kernel_rfl
theorem et57 : elt Tryz.prog 57 = some (24, 1) := by kernel_rfl
theorem is23 : isSl Tryz.prog 23 = some true := by kernel_rfl
theorem sz24 : szt Tryz.prog 24 = some 1 := by kernel_rfl
theorem tk24 : tyk Tryz.prog 24 = some none := by kernel_rfl
theorem ub4 : ubl Tryz.prog 4 = true := by kernel_rfl
theorem epochTells_pf (l m : List UInt8) (raw : List En) (tick sec y : Int) (h : Hd) (w a : UInt8) (wt : -9223372036854775808 ≤ tick ∧ tick < 9223372036854775808) (ws : 0 ≤ sec ∧ sec < 18446744073709551616) (wy : 0 ≤ y ∧ y < 18446744073709551616) (wh : hdFit h) : PF Tryz.prog 3 [slT bdv 1 l, slT bdv 1 m, slT En.dv 3 (raw), .v (.int .i64 tick), .v (.int .u64 sec), .v (.int .u64 y), .ag h.dv, .v (.int .u8 ((w.toNat : Nat) : Int)), .v (.int .u8 ((a.toNat : Nat) : Int))] (.v (.bool true)) := by
 have hw := w.toNat_lt
 have ha := a.toNat_lt
 refine PF.enter (fn := Tryz.f3) Tryz.func3 rfl Tryz.ntmps3 rfl (fun w0 => .w ?_)
 refine .g 2 1 rfl ?_
 refine TE.frzb 15 rfl rfl rfl rfl ?_
 refine .t 0 2 rfl rfl (.cf (eknown_pf) rfl) ?_
 by_cases c1 : 6 < l.length
 ·skip
  refine .t 4 2 rfl rfl (.bv (.bool true) rfl (congrArg Value.bool (decide_eq_true (by omega)))) ?_
  exact .z 12 2 rfl (TE.retf rfl rfl rfl (okv rfl))
 ·skip
  by_cases c2 : 10 < m.length
  ·skip
   refine .t 4 2 rfl rfl (.bv (.bool false) rfl (congrArg Value.bool (decide_eq_false (by omega)))) ?_
   refine .t 3 2 rfl rfl (.bv (.bool true) rfl (congrArg Value.bool (decide_eq_true (by omega)))) ?_
   exact .z 8 2 rfl (TE.retf rfl rfl rfl (okv rfl))
  ·skip
   by_cases c3 : 10 < raw.length
   ·skip
    refine .t 4 2 rfl rfl (.bv (.bool false) rfl (congrArg Value.bool (decide_eq_false (by omega)))) ?_
    refine .t 3 2 rfl rfl (.bv (.bool false) rfl (congrArg Value.bool (decide_eq_false (by omega)))) ?_
    refine .t 4 2 rfl rfl (.bv (.bool true) rfl (congrArg Value.bool (decide_eq_true (by omega)))) ?_
    exact .z 3 2 rfl (TE.retf rfl rfl rfl (okv rfl))
   ·skip
    refine .t 4 2 rfl rfl (.bv (.bool false) rfl (congrArg Value.bool (decide_eq_false (by omega)))) ?_
    refine .t 3 2 rfl rfl (.bv (.bool false) rfl (congrArg Value.bool (decide_eq_false (by omega)))) ?_
    refine .t 4 2 rfl rfl (.bv (.bool false) rfl (congrArg Value.bool (decide_eq_false (by omega)))) ?_
    refine .t 3 2 rfl rfl (.cc (epochs_pc 5 ⟨by decide, by decide⟩ l (by omega)) rfl) ?_
    refine .g 7 2 rfl ?_
    obtain ⟨s, hs0⟩ : ∃ s, s = epsR 5 l := ⟨_, rfl⟩
    have si : EpsIn s l.length := by rw [hs0]; exact eps_in l (by omega)
    have sh := si.hsl
    have sk := si.knl
    have sb := lastT_bd si
    refine TE.set 20 (.d (slT Kn.dv 4 (s.kn))) rfl (by rw [hs0]) ?_
    refine TE.set 21 (.d (slT Hd.dv 69 (s.hs))) rfl (by rw [hs0]) ?_
    refine .g 1 2 rfl ?_
    refine TE.own0 22 2 38 3 rfl rfl ?_
    refine .g 1 3 rfl ?_
    refine TE.setv 23 (.int .i64 ((0 : Nat) : Int)) rfl (congrArg _ (by first | rfl | (dsimp only; first | done | rfl | omega))) ?_
    refine TE.set 22 (.ow 2 (entsD s.kn (m.take (0))).length 3) rfl rfl ?_
    refine TE.obj 2 (.row 38 3 ((entsD s.kn (m.take (0))).flatMap En.dv)) rfl rfl ?_
    refine .lo (T := Nat) 0 3 rfl (fun i => i ≤ m.length) (fun i => m.length - i) [0, 1, 2, 3, 4, 5, 6, 7, 8] [] (fun i => [(15, .d (.el h.dv)), (20, .d (slT Kn.dv 4 (s.kn))), (21, .d (slT Hd.dv 69 (s.hs))), (22, .ow 2 (entsD s.kn (m.take (i))).length 3), (23, .d (.v (.int .i64 ((i : Nat) : Int))))]) (fun i => [(2, .row 38 3 ((entsD s.kn (m.take (i))).flatMap En.dv))]) (0) rfl rfl (Nat.zero_le _) rfl rfl rfl (fun i hI => ?_)
    refine .q 4 3 rfl rfl (fun h9 => ?_) (fun h9 => ?_)
    ·skip
     have hi : i < m.length := by have q := of_decide_eq_true h9; (try dsimp only at q); omega
     have hel := entsD_len s.kn (m.take i)
     rw [List.length_take, Nat.min_eq_left (by omega)] at hel
     refine .t 3 3 rfl rfl (.idx (m[i]) rfl rfl rfl rfl et22 (fun _ => rfl) (Int.natCast_nonneg _) (get_nat hi)) ?_
     refine .t 1 3 rfl rfl (.cf (name_pf m[i]) rfl) ?_
     refine .t 0 3 rfl rfl (.cf (rlatest_any s.kn (nameL ((m[i].toNat : Nat) : Int)) (by omega)) rfl) ?_
     refine .g 6 3 rfl ?_
     refine TE.frzb 24 rfl rfl rfl rfl ?_
     refine .d 0 4 rfl ?_
     refine .v 3 4 [] rfl rfl (fun _ _ => .idx (m[i]) rfl rfl rfl rfl et22 (fun _ => rfl) (Int.natCast_nonneg _) (get_nat hi)) ?_
     refine .v 4 4 [] rfl rfl (fun _ _ => .bv (.int .i64 (i64w ((latR s.kn (nameL ((m[i].toNat : Nat) : Int))).1.ver + 1))) rfl (rfl)) ?_
     refine .v 0 4 [] rfl rfl (fun _ _ => .cf (entry_pf m[i] (i64w ((latR s.kn (nameL ((m[i].toNat : Nat) : Int))).1.ver + 1))) rfl) ?_
     refine .t 0 4 (E := ⟨some (96, _), [(4, _)]⟩) [4] rfl rfl (fun _ _ => .bb ([pendE s.kn m[i]].flatMap En.dv) 4 rfl) ?_
     refine .t 0 5 (E := ⟨some (97, _), [(2, .dead), (5, _)]⟩) [2, 4, 5] rfl rfl (fun _ _ => .ap 5 rfl (flat_length (sz := 3) (enc := En.dv) (fun _ => rfl) _) rfl (by omega) (by omega)) ?_
     refine .y 1 6 rfl (by kernel_rfl) ?_
     refine .t 1 6 rfl rfl (.bv (.int .i64 ((i + 1 : Nat) : Int)) rfl (congrArg _ (by (try dsimp only); rw [IntKind.wrap_i64]; omega))) ?_
     refine .g 1 6 rfl ?_
     refine TE.set 22 (.ow 5 (entsD s.kn (m.take (i + 1))).length 3) rfl (by rw [entsD_snoc hi]; simp) ?_
     refine TE.obj 5 (.row 38 3 ((entsD s.kn (m.take (i + 1))).flatMap En.dv)) rfl (by rw [entsD_snoc hi, List.flatMap_append]) ?_
     refine TE.setv 23 (.int .i64 ((i + 1 : Nat) : Int)) rfl (congrArg _ (by first | rfl | (dsimp only; first | done | rfl | omega))) ?_
     exact .rd 0 6 (swp 2 5) (swp_inj 2 5) rfl (i + 1) hi (by omega) rfl rfl rfl
    ·skip
     have hi : ¬ (i < m.length) := by have q := of_decide_eq_false h9; (try dsimp only at q); omega
     obtain ⟨bt, hbt⟩ : ∃ bt, bt = entsD s.kn m := ⟨_, rfl⟩
     have hbl : bt.length ≤ 10 := by rw [hbt, entsD_len]; omega
     refine TE.frz 22 (slT En.dv 3 (bt)) rfl rfl (flat_length (sz := 3) (enc := En.dv) (fun _ => rfl) _) (by rw [hbt, List.take_of_length_le (by omega)]) ?_
     refine .g 4 6 rfl ?_
     refine .jn [(0, .d (slT bdv 1 l)), (1, .d (slT bdv 1 m)), (2, .d (slT En.dv 3 (raw))), (3, .d (.v (.int .i64 tick))), (4, .d (.v (.int .u64 sec))), (5, .d (.v (.int .u64 y))), (6, .d (.ag h.dv)), (7, .d (.v (.int .u8 ((w.toNat : Nat) : Int)))), (8, .d (.v (.int .u8 ((a.toNat : Nat) : Int)))), (15, .d (.el h.dv)), (20, .d (slT Kn.dv 4 (s.kn))), (21, .d (slT Hd.dv 69 (s.hs))), (22, .d (slT En.dv 3 (bt))), (26, .d (.v (.int .i64 (lastT s.hs))))] [] ?_ ?_
     ·skip
      refine .t 2 6 rfl rfl (.bb ([bt, raw].flatMap ell) 6 rfl) ?_
      refine .g 2 7 rfl ?_
      obtain ⟨Bs, hB⟩ : ∃ x, x = [bt, raw] := ⟨_, rfl⟩
      have hBl : Bs.length = 2 := by rw [hB]; rfl
      refine TE.frz 110 (slT ell 1 Bs) rfl rfl rfl (by rw [hB]; rfl) ?_
      refine TE.setv 111 (.int .i64 ((Bs.length : Nat) : Int)) rfl (congrArg _ (by rw [hBl])) ?_
      refine TE.setv 112 (.int .i64 ((0 : Nat) : Int)) rfl (congrArg _ (by first | rfl | (dsimp only; first | done | rfl | omega))) ?_
      have hBb : ∀ z ∈ Bs, z.length ≤ 10 := fun z hz => by rw [hB] at hz; simp only [List.mem_cons, List.not_mem_nil, or_false] at hz; rcases hz with rfl | rfl <;> omega
      refine .lo (T := Nat) 0 7 rfl (fun j => True) (fun j => Bs.length - j) [0, 1, 2, 3, 4, 5, 6, 7, 8] [] (fun j => [(15, .d (.el h.dv)), (20, .d (slT Kn.dv 4 (s.kn))), (21, .d (slT Hd.dv 69 (s.hs))), (22, .d (slT En.dv 3 (bt))), (26, .d (.v (.int .i64 (lastT s.hs)))), (110, .d (slT ell 1 Bs)), (111, .d (.v (.int .i64 ((Bs.length : Nat) : Int)))), (112, .d (.v (.int .i64 ((j : Nat) : Int))))]) (fun j => []) (0) rfl rfl trivial rfl rfl rfl (fun j hIj => ?_)
      refine .q 1 7 rfl rfl (fun h10 => ?_) (fun h10 => ?_)
      ·skip
       have hj : j < Bs.length := by have q := of_decide_eq_true h10; (try dsimp only at q); omega
       have hb10 := hBb _ (List.getElem_mem hj)
       refine .t 0 7 rfl rfl (.idx (Bs[j]) rfl rfl rfl rfl et45 (fun _ => rfl) (Int.natCast_nonneg _) (get_nat hj)) ?_
       refine .t 5 7 rfl rfl (.rem (((a.toNat % 4 : Nat) : Int)) rfl rfl rfl (by decide) (by rw [Int.tmod_eq_emod_of_nonneg (by omega)]; omega)) ?_
       refine .t 0 7 rfl rfl (.cv (((a.toNat % 4 : Nat) : Int)) rfl (by rw [IntKind.wrap_i64]; omega)) ?_
       refine .t 0 7 rfl rfl (.bv (.int .i64 (lastT s.hs + ((a.toNat % 4 : Nat) : Int))) rfl (congrArg _ (by rw [IntKind.wrap_i64]; omega))) ?_
       refine .t 0 7 rfl rfl (.bv (.int .i64 (lastT s.hs + ((a.toNat % 4 : Nat) : Int) - 1)) rfl (congrArg _ (by rw [IntKind.wrap_i64]; omega))) ?_
       refine .t 0 7 rfl rfl (.bb ([tick, lastT s.hs + ((a.toNat % 4 : Nat) : Int) - 1].flatMap idv) 7 rfl) ?_
       refine .g 2 8 rfl ?_
       obtain ⟨Ts, hT⟩ : ∃ x, x = [tick, lastT s.hs + ((a.toNat % 4 : Nat) : Int) - 1] := ⟨_, rfl⟩
       have hTl : Ts.length = 2 := by rw [hT]; rfl
       refine TE.frz 123 (slT idv 1 Ts) rfl rfl rfl (by rw [hT]; rfl) ?_
       refine TE.setv 124 (.int .i64 ((Ts.length : Nat) : Int)) rfl (congrArg _ (by rw [hTl])) ?_
       refine TE.setv 125 (.int .i64 ((0 : Nat) : Int)) rfl (congrArg _ (by first | rfl | (dsimp only; first | done | rfl | omega))) ?_
       refine .lo (T := Nat) 0 8 rfl (fun q => True) (fun q => Ts.length - q) [0, 1, 2, 3, 4, 5, 6, 7, 8] [] (fun q => [(15, .d (.el h.dv)), (20, .d (slT Kn.dv 4 (s.kn))), (21, .d (slT Hd.dv 69 (s.hs))), (22, .d (slT En.dv 3 (bt))), (26, .d (.v (.int .i64 (lastT s.hs)))), (28, .d (slT En.dv 3 (Bs[j]))), (110, .d (slT ell 1 Bs)), (111, .d (.v (.int .i64 ((Bs.length : Nat) : Int)))), (112, .d (.v (.int .i64 ((j : Nat) : Int)))), (123, .d (slT idv 1 Ts)), (124, .d (.v (.int .i64 ((Ts.length : Nat) : Int)))), (125, .d (.v (.int .i64 ((q : Nat) : Int))))]) (fun q => []) (0) rfl rfl trivial rfl rfl rfl (fun q hIq => ?_)
       refine .q 1 8 rfl rfl (fun h11 => ?_) (fun h11 => ?_)
       ·skip
        have hq : q < Ts.length := by have q := of_decide_eq_true h11; (try dsimp only at q); omega
        refine .t 0 8 rfl rfl (.idx (Ts[q]) rfl rfl rfl rfl et46 (fun _ => rfl) (Int.natCast_nonneg _) (get_nat hq)) ?_
        obtain ⟨R, hR⟩ : ∃ R, R = buildB sec s.kn s.hs Bs[j] Ts[q] := ⟨_, rfl⟩
        have cP := build_pc sec ws s.kn s.hs Bs[j] Ts[q] (by omega) (by omega) (by omega) si.chain si.ok
        have cQ := rbuild_pc sec ws s.kn s.hs Bs[j] Ts[q] (by omega) (by omega) (by omega) (kn_in si.chain) si.ok
        rw [← hR] at cP cQ
        obtain ⟨r1, r2, r3, r4, r5⟩ := bb_ok si (by omega) (by omega) hR
        refine .t 7 8 rfl rfl (.cc (cP) rfl) ?_
        refine .g 8 8 rfl ?_
        refine TE.frzb 31 rfl rfl rfl rfl ?_
        refine .t 5 9 rfl rfl (.cc (cQ) rfl) ?_
        refine .g 8 9 rfl ?_
        refine TE.frzb 34 rfl rfl rfl rfl ?_
        refine .t 2 10 rfl rfl (.bv (.bool false) rfl (congrArg Value.bool (by simp))) ?_
        refine .t 1 10 rfl rfl (.lm (R.1.dv) rfl) ?_
        refine .t 0 10 rfl rfl (.lm (R.1.dv) rfl) ?_
        refine .t 0 10 rfl rfl (.cf (samep_pf R.1 r1 (by omega) r3) rfl) ?_
        refine .t 5 10 rfl rfl (.cf (samek_pf R.2.1 r4 r5) rfl) ?_
        refine .t 3 10 rfl rfl (.bv (.int .i64 ((q + 1 : Nat) : Int)) rfl (congrArg _ (by (try dsimp only); rw [IntKind.wrap_i64]; omega))) ?_
        refine .g 1 10 rfl ?_
        refine TE.setv 125 (.int .i64 ((q + 1 : Nat) : Int)) rfl (congrArg _ (by first | rfl | (dsimp only; first | done | rfl | omega))) ?_
        exact .rd 0 10 id (fun _ _ e => e) rfl (q + 1) trivial (by omega) rfl rfl rfl
       ·skip
        have hq : ¬ (q < Ts.length) := by have q := of_decide_eq_false h11; (try dsimp only at q); omega
        refine .t 0 10 rfl rfl (.bv (.int .i64 ((j + 1 : Nat) : Int)) rfl (congrArg _ (by (try dsimp only); rw [IntKind.wrap_i64]; omega))) ?_
        refine .g 1 10 rfl ?_
        refine TE.setv 112 (.int .i64 ((j + 1 : Nat) : Int)) rfl (congrArg _ (by first | rfl | (dsimp only; first | done | rfl | omega))) ?_
        exact .rd 0 10 id (fun _ _ e => e) rfl (j + 1) trivial (by omega) rfl rfl rfl
      ·skip
       have hj : ¬ (j < Bs.length) := by have q := of_decide_eq_false h10; (try dsimp only at q); omega
       obtain ⟨R, hR⟩ : ∃ R, R = buildB 5 s.kn s.hs bt (lastT s.hs + 1) := ⟨_, rfl⟩
       have cQ := rbuild_pc 5 ⟨by decide, by decide⟩ s.kn s.hs bt (lastT s.hs + 1) (by omega) (by omega) (by omega) (kn_in si.chain) si.ok
       rw [← hR] at cQ
       obtain ⟨q1, q2, _, _, _⟩ := bb_ok si (by omega) (by omega) hR
       refine .t 4 10 rfl rfl (.bv (.int .i64 (lastT s.hs + 1)) rfl (congrArg _ (by rw [IntKind.wrap_i64]; omega))) ?_
       refine .t 0 10 rfl rfl (.cc (cQ) rfl) ?_
       refine .g 8 10 rfl ?_
       refine TE.frzb 37 rfl rfl rfl rfl ?_
       obtain ⟨Q, hQ⟩ : ∃ Q, Q = R.1 := ⟨_, rfl⟩
       refine TE.set 37 (.d (.el Q.dv)) rfl (by rw [hQ]; rfl) ?_
       rw [← hQ] at q1 q2
       refine .du 0 11 4 3 12 11 [11] rfl rfl rfl (fun _ _ => .append0 11 rfl rfl rfl ap23 rfl rfl trivial (flat_one (fun _ => rfl) _) (by omega) (by omega)) (fun _ => rfl) (fun _ => by kernel_rfl) (fun u u' j x y hx hy hb hj => ?_) (fun u => ?_)
       ·skip
        rcases j with _ | _ | _ | _ | _ | _ | _ | _ | j
        ·exact Option.some.inj (hx.symm.trans (Eq.trans rfl hy))
        ·exact Option.some.inj (hx.symm.trans (Eq.trans rfl hy))
        ·exact Option.some.inj (hx.symm.trans (Eq.trans rfl hy))
        ·exact Option.some.inj (hx.symm.trans (Eq.trans rfl hy))
        ·exact absurd rfl hj
        ·exact absurd (hb.symm.trans (show _ = true from by kernel_rfl)) (by decide)
        ·exact Option.some.inj (hx.symm.trans (Eq.trans rfl hy))
        ·exact absurd (hb.symm.trans (show _ = true from by kernel_rfl)) (by decide)
        ·exact absurd (hx.symm.trans (show _ = none from rfl)) (by simp)
       refine TE.obj 12 (.box 48 (Hd.dv (Q.hd) ++ [.v (.slice u.1 (Q.es.length : Nat) u.2)])) rfl rfl ?_
       refine .jne [(0, .d (slT bdv 1 l)), (1, .d (slT bdv 1 m)), (2, .d (slT En.dv 3 (raw))), (3, .d (.v (.int .i64 tick))), (4, .d (.v (.int .u64 sec))), (5, .d (.v (.int .u64 y))), (6, .d (.ag h.dv)), (7, .d (.v (.int .u8 ((w.toNat : Nat) : Int)))), (8, .d (.v (.int .u8 ((a.toNat : Nat) : Int)))), (15, .d (.el h.dv)), (20, .d (slT Kn.dv 4 (s.kn))), (21, .d (slT Hd.dv 69 (s.hs))), (37, .d (.el Q.dv)), (40, .ptr 12 0)] [(12, .box 48 (bentW Q h w a tick).dv)] ?_ ?_
       ·skip
        have z1 := bentW_fit q1 wh wt w a
        have z2 := bentW_len Q h w a tick
        obtain ⟨Zp, hZp⟩ : ∃ z, z = bentW Q h w a tick := ⟨_, rfl⟩
        rw [← hZp] at z1 z2 ⊢
        refine .t 0 13 rfl rfl (.lm (Q.dv) rfl) ?_
        refine .t 0 13 rfl rfl (.lp (Zp.dv) rfl) ?_
        refine .t 0 13 rfl rfl (.lm (h.dv) rfl) ?_
        refine .t 1 13 rfl rfl (.bd (Pub.dv ⟨h, raw⟩) rfl) ?_
        refine .t 0 13 rfl rfl (.bb ([Q, Zp, ⟨h, raw⟩].flatMap Pub.dv) 13 rfl) ?_
        refine .g 2 14 rfl ?_
        obtain ⟨Xs, hX⟩ : ∃ x, x = [Q, Zp, ⟨h, raw⟩] := ⟨_, rfl⟩
        have hXl : Xs.length = 3 := by rw [hX]; rfl
        refine TE.frz 266 (slT Pub.dv 70 Xs) rfl rfl rfl (by rw [hX]; rfl) ?_
        refine TE.setv 267 (.int .i64 ((Xs.length : Nat) : Int)) rfl (congrArg _ (by rw [hXl])) ?_
        refine TE.setv 268 (.int .i64 ((0 : Nat) : Int)) rfl (congrArg _ (by first | rfl | (dsimp only; first | done | rfl | omega))) ?_
        have hXb : ∀ z ∈ Xs, hdFit z.hd ∧ z.es.length ≤ 1000 := fun z hz => by rw [hX] at hz; simp only [List.mem_cons, List.not_mem_nil, or_false] at hz; rcases hz with rfl | rfl | rfl; exact ⟨q1, q2⟩; exact ⟨z1, by omega⟩; exact ⟨wh, by show raw.length ≤ 1000; omega⟩
        refine .lo (T := Nat) 0 14 rfl (fun j => True) (fun j => Xs.length - j) [0, 1, 2, 3, 4, 5, 6, 7, 8] [] (fun j => [(15, .d (.el h.dv)), (20, .d (slT Kn.dv 4 (s.kn))), (21, .d (slT Hd.dv 69 (s.hs))), (266, .d (slT Pub.dv 70 (Xs))), (267, .d (.v (.int .i64 ((Xs.length : Nat) : Int)))), (268, .d (.v (.int .i64 ((j : Nat) : Int))))]) (fun j => []) (0) rfl rfl trivial rfl rfl rfl (fun j hIj => ?_)
        refine .q 1 14 rfl rfl (fun h13 => ?_) (fun h13 => ?_)
        ·skip
         have hj : j < Xs.length := by have q := of_decide_eq_true h13; (try dsimp only at q); omega
         have hx := hXb _ (List.getElem_mem hj)
         refine .t 0 14 rfl rfl (.idx (Xs[j]) rfl rfl rfl rfl et32 (fun _ => rfl) (Int.natCast_nonneg _) (get_nat hj)) ?_
         refine .t 0 14 rfl rfl (.lm ((Xs[j]).dv) rfl) ?_
         refine .g 2 14 rfl ?_
         refine TE.frzb 42 rfl rfl rfl rfl ?_
         refine .t 1 15 rfl rfl (.cf (rpub_pf 5 ⟨by decide, by decide⟩) rfl) ?_
         refine .t 0 15 rfl rfl (.bb ([y, pubF 5].flatMap udv) 15 rfl) ?_
         refine .g 2 16 rfl ?_
         obtain ⟨Ys, hY⟩ : ∃ x, x = [y, pubF 5] := ⟨_, rfl⟩
         have hYl : Ys.length = 2 := by rw [hY]; rfl
         refine TE.frz 274 (slT udv 1 Ys) rfl rfl rfl (by rw [hY]; rfl) ?_
         refine TE.setv 275 (.int .i64 ((Ys.length : Nat) : Int)) rfl (congrArg _ (by rw [hYl])) ?_
         refine TE.setv 276 (.int .i64 ((0 : Nat) : Int)) rfl (congrArg _ (by first | rfl | (dsimp only; first | done | rfl | omega))) ?_
         have hYb : ∀ z ∈ Ys, u64I z := fun z hz => by rw [hY] at hz; simp only [List.mem_cons, List.not_mem_nil, or_false] at hz; rcases hz with rfl | rfl; exact wy; exact ⟨(pubF_bd 5).1, Int.lt_trans (pubF_bd 5).2 (by decide)⟩
         refine .lo (T := Nat) 0 16 rfl (fun k => True) (fun k => Ys.length - k) [0, 1, 2, 3, 4, 5, 6, 7, 8] [] (fun k => [(15, .d (.el h.dv)), (20, .d (slT Kn.dv 4 (s.kn))), (21, .d (slT Hd.dv 69 (s.hs))), (42, .d (.el (Xs[j]).dv)), (266, .d (slT Pub.dv 70 (Xs))), (267, .d (.v (.int .i64 ((Xs.length : Nat) : Int)))), (268, .d (.v (.int .i64 ((j : Nat) : Int)))), (274, .d (slT udv 1 Ys)), (275, .d (.v (.int .i64 ((Ys.length : Nat) : Int)))), (276, .d (.v (.int .i64 ((k : Nat) : Int))))]) (fun k => []) (0) rfl rfl trivial rfl rfl rfl (fun k hIk => ?_)
         refine .q 1 16 rfl rfl (fun h14 => ?_) (fun h14 => ?_)
         ·skip
          have hk : k < Ys.length := by have q := of_decide_eq_true h14; (try dsimp only at q); omega
          have hy := hYb _ (List.getElem_mem hk)
          refine .t 0 16 rfl rfl (.idx (Ys[k]) rfl rfl rfl rfl et57 (fun _ => rfl) (Int.natCast_nonneg _) (get_nat hk)) ?_
          obtain ⟨R, hR⟩ : ∃ R, R = checkV Ys[k] s.kn s.hs Xs[j] := ⟨_, rfl⟩
          have cP := check_pc Ys[k] hy s.kn s.hs Xs[j] (by omega) (by omega) hx.2 si.chain si.ok hx.1
          have cQ := rcheck_pc Ys[k] hy s.kn s.hs Xs[j] (by omega) (by omega) hx.2 si.chain si.ok hx.1
          rw [← hR] at cP cQ
          obtain ⟨r4, r5⟩ := cv_ok si (by omega) hx.2 hR
          refine .t 5 16 rfl rfl (.lm ((Xs[j]).dv) rfl) ?_
          refine .t 0 16 rfl rfl (.cc (cP) rfl) ?_
          refine .t 8 16 rfl rfl (.lm ((Xs[j]).dv) rfl) ?_
          refine .t 0 16 rfl rfl (.cc (cQ) rfl) ?_
          refine .t 7 16 rfl rfl (.neb (p := R.2) (q := R.2) false rfl rfl rfl ub4 (by simp)) ?_
          refine .t 3 16 rfl rfl (.cf (samek_pf R.1 r4 r5) rfl) ?_
          refine .t 3 16 rfl rfl (.bv (.int .i64 ((k + 1 : Nat) : Int)) rfl (congrArg _ (by (try dsimp only); rw [IntKind.wrap_i64]; omega))) ?_
          refine .g 1 16 rfl ?_
          refine TE.setv 276 (.int .i64 ((k + 1 : Nat) : Int)) rfl (congrArg _ (by first | rfl | (dsimp only; first | done | rfl | omega))) ?_
          exact .rd 0 16 id (fun _ _ e => e) rfl (k + 1) trivial (by omega) rfl rfl rfl
         ·skip
          have hk : ¬ (k < Ys.length) := by have q := of_decide_eq_false h14; (try dsimp only at q); omega
          refine .t 0 16 rfl rfl (.bv (.int .i64 ((j + 1 : Nat) : Int)) rfl (congrArg _ (by (try dsimp only); rw [IntKind.wrap_i64]; omega))) ?_
          refine .g 1 16 rfl ?_
          refine TE.setv 268 (.int .i64 ((j + 1 : Nat) : Int)) rfl (congrArg _ (by first | rfl | (dsimp only; first | done | rfl | omega))) ?_
          exact .rd 0 16 id (fun _ _ e => e) rfl (j + 1) trivial (by omega) rfl rfl rfl
        ·skip
         have hj : ¬ (j < Xs.length) := by have q := of_decide_eq_false h13; (try dsimp only at q); omega
         have hok1 : ∀ g ∈ [h], g.ok := fun g hg => by rw [List.mem_singleton] at hg; rw [hg]; exact wh.2.2.2
         refine .d 0 16 rfl ?_
         refine .t 1 16 (E := ⟨some (308, _), [(16, _)]⟩) [16] rfl rfl (fun _ _ => .co 16 (leaves_po s.hs (by omega) si.ok) rfl) ?_
         refine .t 1 17 (E := ⟨some (310, _), [(17, _)]⟩) [17] rfl rfl (fun _ _ => .co 17 (rleaves_po s.hs (by omega) si.ok) rfl) ?_
         refine .v 0 18 [16, 17] rfl rfl (fun _ _ => .callf rfl cf19 rfl ⟨okA_len rfl (flat_length (sz := 32) (enc := hdv) (fun _ => rfl) _), okA_len rfl (flat_length (sz := 32) (enc := hdv) (fun _ => rfl) _), trivial⟩ (samehs_pf (s.hs.map hleaf) (by simp; omega))) ?_
         refine .v 1 18 [] rfl rfl (fun _ _ => .lm (h.dv) rfl) ?_
         refine .t 0 18 (E := ⟨some (314, _), [(18, _)]⟩) [18] rfl rfl (fun _ _ => .bb ([h].flatMap Hd.dv) 18 rfl) ?_
         refine .t 0 19 (E := ⟨some (315, _), [(19, _)]⟩) [18, 19] rfl rfl (fun _ _ => .callo 19 rfl rfl cf20 rfl ⟨okA_c rfl rfl, trivial⟩ (leaves_po [h] (show 1 ≤ 1048576 by decide) hok1)) ?_
         refine .v 0 20 [] rfl rfl (fun _ _ => .lm (h.dv) rfl) ?_
         refine .t 0 20 (E := ⟨some (317, _), [(20, _)]⟩) [20] rfl rfl (fun _ _ => .bb ([h].flatMap Hd.dv) 20 rfl) ?_
         refine .t 0 21 (E := ⟨some (318, _), [(21, _)]⟩) [20, 21] rfl rfl (fun _ _ => .callo 21 rfl rfl cf21 rfl ⟨okA_c rfl rfl, trivial⟩ (rleaves_po [h] (show 1 ≤ 1048576 by decide) hok1)) ?_
         refine .v 0 22 [19, 21] rfl rfl (fun _ _ => .callf rfl cf19 rfl ⟨okA_len rfl (flat_length (sz := 32) (enc := hdv) (fun _ => rfl) _), okA_len rfl (flat_length (sz := 32) (enc := hdv) (fun _ => rfl) _), trivial⟩ (samehs_pf ([h].map hleaf) (show 1 ≤ 1048577 by decide))) ?_
         refine .y 2 22 rfl (by kernel_rfl) ?_
         exact .z 0 22 rfl (TE.retf rfl rfl rfl (okv rfl))
       ·skip
        by_cases n0 : w.toNat % 8 = 0
        ·skip
         refine .t 1 22 rfl rfl (.rem (0) rfl rfl rfl (by decide) (by rw [Int.tmod_eq_emod_of_nonneg (by omega)]; omega)) ?_
         refine .t 0 22 rfl rfl (.bv (.bool true) rfl (rfl)) ?_
         refine .t 3 22 rfl rfl (.lm (hdv h.root) rfl) ?_
         refine .g 3 22 rfl ?_
         refine TE.obj 12 (.box 48 (Hd.dv ({ Q.hd with root := h.root }) ++ [.v (.slice u.1 (Q.es.length : Nat) u.2)])) rfl rfl ?_
         have e1 : bentHd Q.hd h w a tick = { Q.hd with root := h.root } := by simp [bentHd, n0]
         have e2 : bentEs Q.es w a = Q.es := by simp [bentEs, n0]
         refine TE.cellf 12 69 11 (Pub.dv ⟨{ Q.hd with root := h.root }, Q.es⟩) rfl rfl rfl (by rw [flat_length (sz := 3) (enc := En.dv) (fun _ => rfl)]) (rfl) ?_
         refine TE.obj 12 (.box 48 (bentW Q h w a tick).dv) rfl (by unfold bentW; rw [e1, e2]) ?_
         exact .je 0 22 rfl rfl rfl rfl
        ·skip
         by_cases n1 : w.toNat % 8 = 1
         ·skip
          refine .t 1 22 rfl rfl (.rem (1) rfl rfl rfl (by decide) (by rw [Int.tmod_eq_emod_of_nonneg (by omega)]; omega)) ?_
          refine .t 0 22 rfl rfl (.bv (.bool false) rfl (rfl)) ?_
          refine .t 2 22 rfl rfl (.bv (.bool true) rfl (rfl)) ?_
          refine .t 3 22 rfl rfl (.lm (hdv h.log) rfl) ?_
          refine .g 3 22 rfl ?_
          refine TE.obj 12 (.box 48 (Hd.dv ({ Q.hd with log := h.log }) ++ [.v (.slice u.1 (Q.es.length : Nat) u.2)])) rfl rfl ?_
          have e1 : bentHd Q.hd h w a tick = { Q.hd with log := h.log } := by simp [bentHd, n0, n1]
          have e2 : bentEs Q.es w a = Q.es := by simp [bentEs, n0, n1]
          refine TE.cellf 12 69 11 (Pub.dv ⟨{ Q.hd with log := h.log }, Q.es⟩) rfl rfl rfl (by rw [flat_length (sz := 3) (enc := En.dv) (fun _ => rfl)]) (rfl) ?_
          refine TE.obj 12 (.box 48 (bentW Q h w a tick).dv) rfl (by unfold bentW; rw [e1, e2]) ?_
          exact .je 0 22 rfl rfl rfl rfl
         ·skip
          by_cases n2 : w.toNat % 8 = 2
          ·skip
           refine .t 1 22 rfl rfl (.rem (2) rfl rfl rfl (by decide) (by rw [Int.tmod_eq_emod_of_nonneg (by omega)]; omega)) ?_
           refine .t 0 22 rfl rfl (.bv (.bool false) rfl (rfl)) ?_
           refine .t 2 22 rfl rfl (.bv (.bool false) rfl (rfl)) ?_
           refine .t 2 22 rfl rfl (.bv (.bool true) rfl (rfl)) ?_
           refine .g 6 22 rfl ?_
           refine TE.obj 12 (.box 48 (Hd.dv ({ Q.hd with tk := tick }) ++ [.v (.slice u.1 (Q.es.length : Nat) u.2)])) rfl rfl ?_
           have e1 : bentHd Q.hd h w a tick = { Q.hd with tk := tick } := by simp [bentHd, n0, n1, n2]
           have e2 : bentEs Q.es w a = Q.es := by simp [bentEs, n0, n1, n2]
           refine TE.cellf 12 69 11 (Pub.dv ⟨{ Q.hd with tk := tick }, Q.es⟩) rfl rfl rfl (by rw [flat_length (sz := 3) (enc := En.dv) (fun _ => rfl)]) (rfl) ?_
           refine TE.obj 12 (.box 48 (bentW Q h w a tick).dv) rfl (by unfold bentW; rw [e1, e2]) ?_
           exact .je 0 22 rfl rfl rfl rfl
          ·skip
           by_cases n3 : w.toNat % 8 = 3
           ·skip
            refine .t 1 22 rfl rfl (.rem (3) rfl rfl rfl (by decide) (by rw [Int.tmod_eq_emod_of_nonneg (by omega)]; omega)) ?_
            refine .t 0 22 rfl rfl (.bv (.bool false) rfl (rfl)) ?_
            refine .t 2 22 rfl rfl (.bv (.bool false) rfl (rfl)) ?_
            refine .t 2 22 rfl rfl (.bv (.bool false) rfl (rfl)) ?_
            refine .t 2 22 rfl rfl (.bv (.bool true) rfl (rfl)) ?_
            refine .t 6 22 rfl rfl (.rem (((a.toNat % 3 : Nat) : Int)) rfl rfl rfl (by decide) (by rw [Int.tmod_eq_emod_of_nonneg (by omega)]; omega)) ?_
            refine .t 0 22 rfl rfl (.cv (((a.toNat % 3 : Nat) : Int)) rfl (by rw [IntKind.wrap_i64]; omega)) ?_
            refine .t 0 22 rfl rfl (.bv (.int .i64 (((a.toNat % 3 : Nat) : Int) - 1)) rfl (congrArg _ (by rw [IntKind.wrap_i64]; omega))) ?_
            refine .t 0 22 rfl rfl (.bv (.int .i64 (IntKind.i64.wrap (Q.hd.ep + (((a.toNat % 3 : Nat) : Int) - 1)))) rfl (rfl)) ?_
            refine .g 3 22 rfl ?_
            refine TE.obj 12 (.box 48 (Hd.dv ({ Q.hd with ep := IntKind.i64.wrap (Q.hd.ep + (((a.toNat % 3 : Nat) : Int) - 1)) }) ++ [.v (.slice u.1 (Q.es.length : Nat) u.2)])) rfl rfl ?_
            have e1 : bentHd Q.hd h w a tick = { Q.hd with ep := IntKind.i64.wrap (Q.hd.ep + (((a.toNat % 3 : Nat) : Int) - 1)) } := by simp [bentHd, n0, n1, n2, n3]
            have e2 : bentEs Q.es w a = Q.es := by simp [bentEs, n0, n1, n2, n3]
            refine TE.cellf 12 69 11 (Pub.dv ⟨{ Q.hd with ep := IntKind.i64.wrap (Q.hd.ep + (((a.toNat % 3 : Nat) : Int) - 1)) }, Q.es⟩) rfl rfl rfl (by rw [flat_length (sz := 3) (enc := En.dv) (fun _ => rfl)]) (rfl) ?_
            refine TE.obj 12 (.box 48 (bentW Q h w a tick).dv) rfl (by unfold bentW; rw [e1, e2]) ?_
            exact .je 0 22 rfl rfl rfl rfl
           ·skip
            by_cases n4 : w.toNat % 8 = 4
            ·skip
             refine .t 1 22 rfl rfl (.rem (4) rfl rfl rfl (by decide) (by rw [Int.tmod_eq_emod_of_nonneg (by omega)]; omega)) ?_
             refine .t 0 22 rfl rfl (.bv (.bool false) rfl (rfl)) ?_
             refine .t 2 22 rfl rfl (.bv (.bool false) rfl (rfl)) ?_
             refine .t 2 22 rfl rfl (.bv (.bool false) rfl (rfl)) ?_
             refine .t 2 22 rfl rfl (.bv (.bool false) rfl (rfl)) ?_
             refine .t 2 22 rfl rfl (.bv (.bool true) rfl (rfl)) ?_
             refine .t 4 22 rfl rfl (.lenn (g := 11) rfl rfl rfl is23) ?_
             refine .q 1 22 rfl rfl (fun h36 => ?_) (fun h36 => ?_)
             ·skip
              have hq0 : 0 < Q.es.length := by have q := of_decide_eq_true h36; (try dsimp only at q); omega
              have hix : a.toNat % Q.es.length < Q.es.length := Nat.mod_lt _ hq0
              refine .d 0 22 rfl ?_
              refine .v 3 22 [] rfl rfl (fun _ _ => .cv (((a.toNat : Nat) : Int)) rfl (by rw [IntKind.wrap_i64]; omega)) ?_
              refine .v 2 22 [11] rfl rfl (fun _ _ => .lenn (g := 11) rfl rfl rfl is23) ?_
              refine .v 0 22 [] rfl rfl (fun _ _ => .rem (((a.toNat % Q.es.length : Nat) : Int)) rfl rfl rfl (by omega) (by rw [Int.tmod_eq_emod_of_nonneg (by omega)]; omega)) ?_
              refine .v 0 22 [11] rfl rfl (fun _ _ => .idxn (g := 11) rfl rfl rfl rfl et23 (Int.natCast_nonneg _) (by omega)) ?_
              refine .v 1 22 [11] rfl rfl (fun _ _ => .ldp (X := .v (.int .u64 (Q.es[a.toNat % Q.es.length]'hix).key)) rfl rfl rfl rfl (by rw [Int.toNat_natCast]; exact flat_cell en_len Q.es (a.toNat % Q.es.length) 2 hix (by decide)) tk24) ?_
              refine .v 0 22 [] rfl rfl (fun _ _ => .bv (.int .u64 (IntKind.u64.wrap ((Q.es[a.toNat % Q.es.length]'hix).key + 1))) rfl (rfl)) ?_
              refine .v 0 22 [11] rfl rfl (fun _ _ => .idxn (g := 11) rfl rfl rfl rfl et23 (Int.natCast_nonneg _) (by omega)) ?_
              refine .t 1 22 (E := ⟨none, [(11, _)]⟩) [11] rfl rfl (fun _ _ => .storeg rfl rfl rfl rfl sz24 rfl (by rw [flat_length (sz := 3) (enc := En.dv) (fun _ => rfl), Int.toNat_natCast]; show _ + 2 + 1 ≤ _; omega)) ?_
              refine .y 0 22 rfl (by kernel_rfl) ?_
              refine TE.obj 11 (.nrow (.slice u.1 (Q.es.length : Nat) u.2) Q.es.length 38 3 ((keyE1 Q.es (a.toNat % Q.es.length)).flatMap En.dv)) rfl (by rw [← keyE1_flat hix]; rfl) ?_
              have e1 : bentHd Q.hd h w a tick = Q.hd := by simp [bentHd, n0, n1, n2, n3, n4]
              have e2 : bentEs Q.es w a = keyE1 Q.es (a.toNat % Q.es.length) := by simp [bentEs, n0, n1, n2, n3, n4]
              refine TE.cellf 12 69 11 (Pub.dv ⟨Q.hd, keyE1 Q.es (a.toNat % Q.es.length)⟩) rfl rfl rfl (by rw [flat_length (sz := 3) (enc := En.dv) (fun _ => rfl)]; rw [keyE1_len]) (by show _ = Hd.dv Q.hd ++ [DV.sl 3 (keyE1 Q.es (a.toNat % Q.es.length)).length ((keyE1 Q.es (a.toNat % Q.es.length)).flatMap En.dv)]; rw [keyE1_len]; rfl) ?_
              refine TE.obj 12 (.box 48 (bentW Q h w a tick).dv) rfl (by unfold bentW; rw [e1, e2]) ?_
              exact .je 0 22 rfl rfl rfl rfl
             ·skip
              have hq0 : ¬ (0 < Q.es.length) := by have q := of_decide_eq_false h36; (try dsimp only at q); omega
              have e1 : bentHd Q.hd h w a tick = Q.hd := by simp [bentHd, n0, n1, n2, n3, n4]
              have e2 : bentEs Q.es w a = Q.es := by have hz : Q.es = [] := List.eq_nil_of_length_eq_zero (by omega); simp [bentEs, n4, hz, keyE1]
              refine TE.cellf 12 69 11 (Pub.dv ⟨Q.hd, Q.es⟩) rfl rfl rfl (by rw [flat_length (sz := 3) (enc := En.dv) (fun _ => rfl)]) (rfl) ?_
              refine TE.obj 12 (.box 48 (bentW Q h w a tick).dv) rfl (by unfold bentW; rw [e1, e2]) ?_
              exact .je 0 22 rfl rfl rfl rfl
            ·skip
             by_cases n5 : w.toNat % 8 = 5
             ·skip
              refine .t 1 22 rfl rfl (.rem (5) rfl rfl rfl (by decide) (by rw [Int.tmod_eq_emod_of_nonneg (by omega)]; omega)) ?_
              refine .t 0 22 rfl rfl (.bv (.bool false) rfl (rfl)) ?_
              refine .t 2 22 rfl rfl (.bv (.bool false) rfl (rfl)) ?_
              refine .t 2 22 rfl rfl (.bv (.bool false) rfl (rfl)) ?_
              refine .t 2 22 rfl rfl (.bv (.bool false) rfl (rfl)) ?_
              refine .t 2 22 rfl rfl (.bv (.bool false) rfl (rfl)) ?_
              refine .t 2 22 rfl rfl (.bv (.bool true) rfl (rfl)) ?_
              refine .t 4 22 rfl rfl (.lenn (g := 11) rfl rfl rfl is23) ?_
              refine .q 1 22 rfl rfl (fun h44 => ?_) (fun h44 => ?_)
              ·skip
               have hq1 : 1 < Q.es.length := by have q := of_decide_eq_true h44; (try dsimp only at q); omega
               obtain ⟨x0, x1, r, hes⟩ : ∃ x0 x1 r, Q.es = x0 :: x1 :: r := by match hE : Q.es, hq1 with | x0 :: x1 :: r, _ => exact ⟨x0, x1, r, rfl⟩
               refine TE.obj 11 (.nrow (.slice u.1 (Q.es.length : Nat) u.2) Q.es.length 38 3 ((x0 :: x1 :: r).flatMap En.dv)) rfl (by rw [← hes]) ?_
               refine .d 0 22 rfl ?_
               refine .v 6 22 [11] rfl rfl (fun _ _ => .idxn (g := 11) rfl rfl rfl rfl et23 (show (0 : Int) ≤ 1 by decide) (show (1 : Int) < ((Q.es.length : Nat) : Int) by omega)) ?_
               refine .v 3 22 [11] rfl rfl (fun _ _ => .idxn (g := 11) rfl rfl rfl rfl et23 (show (0 : Int) ≤ 0 by decide) (show (0 : Int) < ((Q.es.length : Nat) : Int) by omega)) ?_
               refine .v 1 22 [11] rfl rfl (fun _ _ => .idxn (g := 11) rfl rfl rfl rfl et23 (show (0 : Int) ≤ 0 by decide) (show (0 : Int) < ((Q.es.length : Nat) : Int) by omega)) ?_
               refine .v 1 22 [11] rfl rfl (fun _ _ => .idxn (g := 11) rfl rfl rfl rfl et23 (show (0 : Int) ≤ 1 by decide) (show (1 : Int) < ((Q.es.length : Nat) : Int) by omega)) ?_
               refine .y 1 22 rfl (by kernel_rfl) ?_
               refine TE.obj 11 (.nrow (.slice u.1 (Q.es.length : Nat) u.2) Q.es.length 38 3 ((x1 :: x0 :: r).flatMap En.dv)) rfl (by rw [hes]; rfl) ?_
               have e1 : bentHd Q.hd h w a tick = Q.hd := by simp [bentHd, n0, n1, n2, n3, n4, n5]
               have e2 : bentEs Q.es w a = x1 :: x0 :: r := by rw [hes]; simp [bentEs, n5, swapE]
               refine TE.cellf 12 69 11 (Pub.dv ⟨Q.hd, x1 :: x0 :: r⟩) rfl rfl rfl (by rw [flat_length (sz := 3) (enc := En.dv) (fun _ => rfl)]; rw [hes]; rfl) (by show _ = Hd.dv Q.hd ++ [DV.sl 3 (x1 :: x0 :: r).length ((x1 :: x0 :: r).flatMap En.dv)]; rw [show (x1 :: x0 :: r).length = Q.es.length by rw [hes]; rfl]; rfl) ?_
               refine TE.obj 12 (.box 48 (bentW Q h w a tick).dv) rfl (by unfold bentW; rw [e1, e2]) ?_
               exact .je 0 22 rfl rfl rfl rfl
              ·skip
               have hq1 : ¬ (1 < Q.es.length) := by have q := of_decide_eq_false h44; (try dsimp only at q); omega
               have e1 : bentHd Q.hd h w a tick = Q.hd := by simp [bentHd, n0, n1, n2, n3, n4, n5]
               have e2 : bentEs Q.es w a = Q.es := by simp [bentEs, n5, swapE_short hq1]
               refine TE.cellf 12 69 11 (Pub.dv ⟨Q.hd, Q.es⟩) rfl rfl rfl (by rw [flat_length (sz := 3) (enc := En.dv) (fun _ => rfl)]) (rfl) ?_
               refine TE.obj 12 (.box 48 (bentW Q h w a tick).dv) rfl (by unfold bentW; rw [e1, e2]) ?_
               exact .je 0 22 rfl rfl rfl rfl
             ·skip
              by_cases n6 : w.toNat % 8 = 6
              ·skip
               refine .t 1 22 rfl rfl (.rem (6) rfl rfl rfl (by decide) (by rw [Int.tmod_eq_emod_of_nonneg (by omega)]; omega)) ?_
               refine .t 0 22 rfl rfl (.bv (.bool false) rfl (rfl)) ?_
               refine .t 2 22 rfl rfl (.bv (.bool false) rfl (rfl)) ?_
               refine .t 2 22 rfl rfl (.bv (.bool false) rfl (rfl)) ?_
               refine .t 2 22 rfl rfl (.bv (.bool false) rfl (rfl)) ?_
               refine .t 2 22 rfl rfl (.bv (.bool false) rfl (rfl)) ?_
               refine .t 2 22 rfl rfl (.bv (.bool false) rfl (rfl)) ?_
               refine .t 2 22 rfl rfl (.bv (.bool true) rfl (rfl)) ?_
               refine .t 3 22 rfl rfl (.lm (sgdv h.r h.s) rfl) ?_
               refine .g 3 22 rfl ?_
               refine TE.obj 12 (.box 48 (Hd.dv ({ Q.hd with r := h.r, s := h.s }) ++ [.v (.slice u.1 (Q.es.length : Nat) u.2)])) rfl rfl ?_
               have e1 : bentHd Q.hd h w a tick = { Q.hd with r := h.r, s := h.s } := by simp [bentHd, n0, n1, n2, n3, n4, n5, n6]
               have e2 : bentEs Q.es w a = Q.es := by simp [bentEs, n0, n1, n2, n3, n4, n5, n6]
               refine TE.cellf 12 69 11 (Pub.dv ⟨{ Q.hd with r := h.r, s := h.s }, Q.es⟩) rfl rfl rfl (by rw [flat_length (sz := 3) (enc := En.dv) (fun _ => rfl)]) (rfl) ?_
               refine TE.obj 12 (.box 48 (bentW Q h w a tick).dv) rfl (by unfold bentW; rw [e1, e2]) ?_
               exact .je 0 22 rfl rfl rfl rfl
              ·skip
               refine .t 1 22 rfl rfl (.rem (7) rfl rfl rfl (by decide) (by rw [Int.tmod_eq_emod_of_nonneg (by omega)]; omega)) ?_
               refine .t 0 22 rfl rfl (.bv (.bool false) rfl (rfl)) ?_
               refine .t 2 22 rfl rfl (.bv (.bool false) rfl (rfl)) ?_
               refine .t 2 22 rfl rfl (.bv (.bool false) rfl (rfl)) ?_
               refine .t 2 22 rfl rfl (.bv (.bool false) rfl (rfl)) ?_
               refine .t 2 22 rfl rfl (.bv (.bool false) rfl (rfl)) ?_
               refine .t 2 22 rfl rfl (.bv (.bool false) rfl (rfl)) ?_
               refine .t 2 22 rfl rfl (.bv (.bool false) rfl (rfl)) ?_
               refine .t 2 22 rfl rfl (.lm (h.dv) rfl) ?_
               refine .g 2 22 rfl ?_
               refine TE.obj 12 (.box 48 (Hd.dv (h) ++ [.v (.slice u.1 (Q.es.length : Nat) u.2)])) rfl rfl ?_
               have e1 : bentHd Q.hd h w a tick = h := by simp [bentHd, n0, n1, n2, n3, n4, n5, n6]
               have e2 : bentEs Q.es w a = Q.es := by simp [bentEs, n0, n1, n2, n3, n4, n5, n6]
               refine TE.cellf 12 69 11 (Pub.dv ⟨h, Q.es⟩) rfl rfl rfl (by rw [flat_length (sz := 3) (enc := En.dv) (fun _ => rfl)]) (rfl) ?_
               refine TE.obj 12 (.box 48 (bentW Q h w a tick).dv) rfl (by unfold bentW; rw [e1, e2]) ?_
               exact .je 0 22 rfl rfl rfl rfl
     ·skip
      refine .q 0 22 rfl rfl (fun h60 => ?_) (fun h60 => ?_)
      ·skip
       have hp : 0 < s.hs.length := by have q := of_decide_eq_true h60; (try dsimp only at q); omega
       have hp1 : s.hs.length - 1 < s.hs.length := by omega
       refine .t 3 22 rfl rfl (.bv (.int .i64 ((s.hs.length - 1 : Nat) : Int)) rfl (congrArg _ (by (try dsimp only); rw [IntKind.wrap_i64]; omega))) ?_
       refine .t 0 22 rfl rfl (.idx (s.hs[s.hs.length - 1]'hp1) rfl rfl rfl rfl et34 (fun _ => rfl) (Int.natCast_nonneg _) (get_nat hp1)) ?_
       refine .g 3 22 rfl ?_
       refine TE.setv 26 (.int .i64 (lastT s.hs)) rfl (by unfold lastT; rw [last_at hp]) ?_
       exact .je 0 22 rfl rfl rfl rfl
      ·skip
       have hp : ¬ (0 < s.hs.length) := by have q := of_decide_eq_false h60; (try dsimp only at q); omega
       have hz : s.hs = [] := List.eq_nil_of_length_eq_zero (by omega)
       refine TE.setv 26 (.int .i64 (lastT s.hs)) rfl (by unfold lastT; rw [hz]; rfl) ?_
       exact .je 0 22 rfl rfl rfl rfl
end Go.Proofs.YtmjokdhhniblgaaGreat

