import Derived.Test.YtdjcclcejmeheaaGreatZGu
import Derived.Test.YtdjcclcejmeheaaGreatZEv
/-
  RedeemTells.
-/
namespace Go.Proofs.YtdjcclcejmeheaaGreat
set_option linter.unusedVariables false
set_option linter.unusedSimpArgs false
open Go.RowKit Pl
set_option maxRecDepth 100000
set_option maxHeartbeats 3200000
theorem ar47 : arr Tryz.prog 47 = some (3, 1) := by kernel_rfl
theorem et48 : elt Tryz.prog 48 = some (47, 3) := by kernel_rfl
theorem et49 : elt Tryz.prog 49 = some (24, 1) := by kernel_rfl
theorem tk24 : tyk Tryz.prog 24 = some none := by kernel_rfl
theorem redeemTells_pf (l : List UInt8) (k i : UInt8) (tick : Int) (a b c : List UInt8) (what : UInt8) (pos : UInt16) (x : UInt8) (y : Int) (w3 : -9223372036854775808 ≤ tick ∧ tick < 9223372036854775808) (w10 : 0 ≤ y ∧ y < 18446744073709551616) : PF Tryz.prog 3 [slT bdv 1 (l), .v (.int .u8 ((k.toNat : Nat) : Int)), .v (.int .u8 ((i.toNat : Nat) : Int)), .v (.int .i64 tick), slT bdv 1 (a), slT bdv 1 (b), slT bdv 1 (c), .v (.int .u8 ((what.toNat : Nat) : Int)), .v (.int .u16 ((pos.toNat : Nat) : Int)), .v (.int .u8 ((x.toNat : Nat) : Int)), .v (.int .u64 y)] (.v (.bool true)) := by
 have hk := k.toNat_lt
 have hi8 := i.toNat_lt
 have hp16 := pos.toNat_lt
 have hx8 := x.toNat_lt
 refine PF.enter (fn := Tryz.f3) Tryz.func3 rfl Tryz.ntmps3 rfl (fun w0 => .w ?_)
 refine .t 1 1 rfl rfl (.cf (rknown_pf) rfl) ?_
 by_cases g0 : 6 < l.length
 ·skip
  refine .t 4 1 rfl rfl (.bv (.bool true) rfl (congrArg Value.bool (decide_eq_true (by omega)))) ?_
  exact .z 17 1 rfl (TE.retf rfl rfl rfl (okv rfl))
 ·skip
  by_cases g1 : 200 < a.length
  ·skip
   refine .t 4 1 rfl rfl (.bv (.bool false) rfl (congrArg Value.bool (decide_eq_false (by omega)))) ?_
   refine .t 3 1 rfl rfl (.bv (.bool true) rfl (congrArg Value.bool (decide_eq_true (by omega)))) ?_
   exact .z 13 1 rfl (TE.retf rfl rfl rfl (okv rfl))
  ·skip
   by_cases g2 : 200 < b.length
   ·skip
    refine .t 4 1 rfl rfl (.bv (.bool false) rfl (congrArg Value.bool (decide_eq_false (by omega)))) ?_
    refine .t 3 1 rfl rfl (.bv (.bool false) rfl (congrArg Value.bool (decide_eq_false (by omega)))) ?_
    refine .t 4 1 rfl rfl (.bv (.bool true) rfl (congrArg Value.bool (decide_eq_true (by omega)))) ?_
    exact .z 8 1 rfl (TE.retf rfl rfl rfl (okv rfl))
   ·skip
    by_cases g3 : 200 < c.length
    ·skip
     refine .t 4 1 rfl rfl (.bv (.bool false) rfl (congrArg Value.bool (decide_eq_false (by omega)))) ?_
     refine .t 3 1 rfl rfl (.bv (.bool false) rfl (congrArg Value.bool (decide_eq_false (by omega)))) ?_
     refine .t 4 1 rfl rfl (.bv (.bool false) rfl (congrArg Value.bool (decide_eq_false (by omega)))) ?_
     refine .t 4 1 rfl rfl (.bv (.bool true) rfl (congrArg Value.bool (decide_eq_true (by omega)))) ?_
     exact .z 3 1 rfl (TE.retf rfl rfl rfl (okv rfl))
    ·skip
     obtain ⟨s, hsE⟩ : ∃ s, s = epsR 5 l := ⟨_, rfl⟩
     have si : EpsIn s l.length := by rw [hsE]; exact eps_in l (by omega)
     have sr : ∀ q ∈ s.kn, rightE q.nm q.ver q.key = true := by rw [hsE]; exact eps_right l (by omega)
     have skn : knIn s.kn := by rw [hsE]; exact (epsR_ok 5 l).knI
     have hpos : 0 < s.hs.length → 0 < s.kn.length := by rw [hsE]; exact eps_pos l (by omega)
     have cE := epochs_pc 5 ⟨by decide, by decide⟩ l (by omega)
     rw [← hsE] at cE
     have hsl := si.hsl
     have hkl := si.knl
     refine .t 4 1 rfl rfl (.bv (.bool false) rfl (congrArg Value.bool (decide_eq_false (by omega)))) ?_
     refine .t 3 1 rfl rfl (.bv (.bool false) rfl (congrArg Value.bool (decide_eq_false (by omega)))) ?_
     refine .t 4 1 rfl rfl (.bv (.bool false) rfl (congrArg Value.bool (decide_eq_false (by omega)))) ?_
     refine .t 4 1 rfl rfl (.bv (.bool false) rfl (congrArg Value.bool (decide_eq_false (by omega)))) ?_
     refine .t 3 1 rfl rfl (.cc (cE) rfl) ?_
     refine .q 10 1 rfl rfl (fun h11 => ?_) (fun h11 => ?_)
     ·skip
      skip
      refine .t 4 1 rfl rfl (.cf (redeem_pf y w10 a b c (by omega) (by omega) (by omega)) rfl) ?_
      refine .t 4 1 rfl rfl (.cf (rredeem_pf y w10 a b c (by omega) (by omega) (by omega)) rfl) ?_
      refine .t 0 1 rfl rfl (.bv (.bool true) rfl (congrArg Value.bool (decide_eq_true rfl))) ?_
      exact .z 1 1 rfl (TE.retf rfl rfl rfl (okv rfl))
     ·skip
      have hn : 0 < s.hs.length := by have q := of_decide_eq_false h11; (try dsimp only at q); omega
      have hkn := hpos hn
      have hm1 := Nat.mod_lt i.toNat hkn
      have hm2 := Nat.mod_lt k.toNat hn
      obtain ⟨q, hq⟩ : ∃ q, q = s.kn[i.toNat % s.kn.length]'hm1 := ⟨_, rfl⟩
      have hqr := sr q (by rw [hq]; exact List.getElem_mem _)
      obtain ⟨e, he⟩ : ∃ e : En, e = ⟨q.nm, q.ver, q.key⟩ := ⟨_, rfl⟩
      have her : rightE e.nm e.ver e.key = true := by rw [he]; exact hqr
      have hnm : e.nm.length ≤ 1048576 := Nat.le_trans (rightE_u her).1 (by decide)
      obtain ⟨h, hh⟩ : ∃ h, h = s.hs[k.toNat % s.hs.length]'hm2 := ⟨_, rfl⟩
      have hho : h.ok := by rw [hh]; exact si.ok _ (List.getElem_mem _)
      have hhr := of_decide_eq_true (show rightH h = true by rw [hh]; exact si.right _ (List.getElem_mem _))
      have h31 := and31_bd tick
      obtain ⟨Hb, hHb⟩ : ∃ z, z = putH h := ⟨_, rfl⟩
      obtain ⟨X, hX⟩ : ∃ z, z = putB (paperX s.kn h e) := ⟨_, rfl⟩
      obtain ⟨P, hP⟩ : ∃ z, z = paperP e (and31 tick) := ⟨_, rfl⟩
      have cP : PC Tryz.prog 11 [slT Kn.dv 4 (s.kn), slT Hd.dv 69 (s.hs), .ag e.dv, .v (.int .i64 ((k.toNat : Nat) : Int)), .v (.int .i64 ((and31 tick)))] (.tp [slT bdv 1 (P), slT bdv 1 (Hb), slT bdv 1 (X)]) := by have z := papers_pc s.kn s.hs e k.toNat (and31 tick) (by omega) skn hn (by omega) si.ok hnm (by omega); rw [← hh, ← hP, ← hHb, ← hX] at z; exact z
      obtain ⟨PL, hPL⟩ : ∃ z, z = paperP e (max (h.tk - 40 - ((x.toNat % 3 : Nat) : Int) + 1) 0) := ⟨_, rfl⟩
      have cQ : PC Tryz.prog 11 [slT Kn.dv 4 (s.kn), slT Hd.dv 69 (s.hs), .ag e.dv, .v (.int .i64 ((k.toNat : Nat) : Int)), .v (.int .i64 ((max (h.tk - 40 - ((x.toNat % 3 : Nat) : Int) + 1) 0)))] (.tp [slT bdv 1 (PL), slT bdv 1 (Hb), slT bdv 1 (X)]) := by have z := papers_pc s.kn s.hs e k.toNat (max (h.tk - 40 - ((x.toNat % 3 : Nat) : Int) + 1) 0) (by omega) skn hn (by omega) si.ok hnm (by omega); rw [← hh, ← hPL, ← hHb, ← hX] at z; exact z
      have lP : 0 < P.length ∧ P.length ≤ 89 := by rw [hP]; exact ⟨paperP_pos her h31.1 (by omega), paperP_len _ _⟩
      have lPL : PL.length ≤ 89 := by rw [hPL]; exact paperP_len _ _
      have lH : Hb.length = 105 := by rw [hHb, putH_len]
      have lX : 80 ≤ X.length ∧ X.length ≤ 8272 := by rw [hX]; exact paperX_len _ _ _
      have hcP : pos.toNat % P.length < P.length := Nat.mod_lt _ (by omega)
      have hcH : pos.toNat % Hb.length < Hb.length := Nat.mod_lt _ (by omega)
      have hcX : pos.toNat % X.length < X.length := Nat.mod_lt _ (by omega)
      refine .t 2 1 rfl rfl (.cv (((i.toNat : Nat) : Int)) rfl (by rw [IntKind.wrap_i64]; omega)) ?_
      refine .t 2 1 rfl rfl (.rem (((i.toNat % s.kn.length : Nat) : Int)) rfl rfl rfl (by omega) (emod_nat)) ?_
      refine .t 0 1 rfl rfl (.idx (q) rfl rfl rfl rfl et27 (fun _ => rfl) (Int.natCast_nonneg _) (hq ▸ get_nat hm1)) ?_
      refine .t 1 1 rfl rfl (.lm (En.dv ⟨q.nm, q.ver, q.key⟩) rfl) ?_
      refine .g 2 1 rfl ?_
      refine TE.obj 1 (.box 35 e.dv) rfl (by rw [he]; rfl) ?_
      refine .t 2 2 rfl rfl (.lp (e.dv) rfl) ?_
      refine .t 1 2 rfl rfl (.cv (((k.toNat : Nat) : Int)) rfl (by rw [IntKind.wrap_i64]; omega)) ?_
      refine .t 1 2 rfl rfl (.bits (and31 tick) rfl rfl rfl rfl (rfl)) ?_
      refine .t 0 2 rfl rfl (.cc (cP) rfl) ?_
      refine .d 7 2 rfl ?_
      refine .v 2 2 [1] rfl rfl (fun _ _ => .lp (e.dv) rfl) ?_
      refine .v 1 2 [] rfl rfl (fun _ _ => .cv (((k.toNat : Nat) : Int)) rfl (by rw [IntKind.wrap_i64]; omega)) ?_
      refine .v 2 2 [] rfl rfl (fun _ _ => .cv (((k.toNat : Nat) : Int)) rfl (by rw [IntKind.wrap_i64]; omega)) ?_
      refine .v 2 2 [] rfl rfl (fun _ _ => .rem (((k.toNat % s.hs.length : Nat) : Int)) rfl rfl rfl (by omega) (emod_nat)) ?_
      refine .v 0 2 [] rfl rfl (fun _ _ => .idx (h) rfl rfl rfl rfl et28 (fun _ => rfl) (Int.natCast_nonneg _) (hh ▸ get_nat hm2)) ?_
      refine .v 2 2 [] rfl rfl (fun _ _ => .bv (.int .i64 (h.tk - 40)) rfl (congrArg _ (by rw [IntKind.wrap_i64]; omega))) ?_
      refine .v 1 2 [] rfl rfl (fun _ _ => .rem (((x.toNat % 3 : Nat) : Int)) rfl rfl rfl (by decide) (emod_nat)) ?_
      refine .v 0 2 [] rfl rfl (fun _ _ => .cv (((x.toNat % 3 : Nat) : Int)) rfl (by rw [IntKind.wrap_i64]; omega)) ?_
      refine .v 0 2 [] rfl rfl (fun _ _ => .bv (.int .i64 (h.tk - 40 - ((x.toNat % 3 : Nat) : Int))) rfl (congrArg _ (by rw [IntKind.wrap_i64]; omega))) ?_
      refine .v 0 2 [] rfl rfl (fun _ _ => .bv (.int .i64 (h.tk - 40 - ((x.toNat % 3 : Nat) : Int) + 1)) rfl (congrArg _ (by rw [IntKind.wrap_i64]; omega))) ?_
      refine .v 1 2 [] rfl rfl (fun _ _ => .cc (cQ) rfl) ?_
      refine .y 7 2 rfl (by kernel_rfl) ?_
      refine .t 1 2 rfl rfl (.append0 2 rfl rfl rfl ap22 rfl rfl trivial (flat_one (fun _ => rfl) _) (by omega) (by omega)) ?_
      refine .t 1 3 rfl rfl (.append0 3 rfl rfl rfl ap22 rfl rfl trivial (flat_one (fun _ => rfl) _) (by omega) (by omega)) ?_
      refine .t 1 4 rfl rfl (.append0 4 rfl rfl rfl ap22 rfl rfl trivial (flat_one (fun _ => rfl) _) (by omega) (by omega)) ?_
      refine .t 4 5 rfl rfl (.rem (((what.toNat % 3 : Nat) : Int)) rfl rfl rfl (by decide) (emod_nat)) ?_
      refine .q 2 5 rfl rfl (fun h12 => ?_) (fun h12 => ?_)
      ·skip
       skip
       refine .t 2 5 rfl rfl (.cv (((pos.toNat : Nat) : Int)) rfl (by rw [IntKind.wrap_i64]; omega)) ?_
       refine .t 2 5 rfl rfl (.rem (((pos.toNat % P.length : Nat) : Int)) rfl rfl rfl (by omega) (emod_nat)) ?_
       refine .t 0 5 rfl rfl (.ixo rfl (Int.natCast_nonneg _) (Int.ofNat_lt.2 hcP)) ?_
       refine .t 0 5 rfl rfl (.ldp rfl rfl rfl rfl (by rw [Nat.mul_one, Int.toNat_natCast]; exact bd_at hcP) tk5) ?_
       refine .t 1 5 rfl rfl (.bits ((((P[pos.toNat % P.length]'hcP ^^^ x) : UInt8).toNat : Int)) rfl rfl rfl rfl (u8_xor _ _)) ?_
       refine .t 0 5 rfl rfl (.ixo rfl (Int.natCast_nonneg _) (Int.ofNat_lt.2 hcP)) ?_
       refine .t 0 5 rfl rfl (.storer (xs := P) (enc := bdv) ((P[pos.toNat % P.length]'hcP ^^^ x)) rfl rfl rfl rfl rfl rfl (fun _ => rfl) sz5 rfl (hcP)) ?_
       obtain ⟨P2, hP2⟩ : ∃ z, z = P.set (pos.toNat % P.length) (P[pos.toNat % P.length]'hcP ^^^ x) := ⟨_, rfl⟩
       have lP2 : P2.length = P.length := by rw [hP2, List.length_set]
       refine TE.frz 33 (slT bdv 1 (P2)) rfl rfl (by rw [flat_length (sz := 1) (fun _ => rfl), List.length_set]) (by unfold slT; rw [lP2, hP2]; rfl) ?_
       obtain ⟨H2, hH2⟩ : ∃ z, z = Hb := ⟨_, rfl⟩
       have lH2 : H2.length = Hb.length := by rw [hH2]
       refine TE.frz 34 (slT bdv 1 (H2)) rfl rfl (by rw [flat_length (sz := 1) (fun _ => rfl)]) (by unfold slT; rw [lH2, hH2]) ?_
       obtain ⟨X2, hX2⟩ : ∃ z, z = X := ⟨_, rfl⟩
       have lX2 : X2.length = X.length := by rw [hX2]
       refine TE.frz 35 (slT bdv 1 (X2)) rfl rfl (by rw [flat_length (sz := 1) (fun _ => rfl)]) (by unfold slT; rw [lX2, hX2]) ?_
       refine .t 0 5 rfl rfl (.cf (rpub_pf 5 ⟨by decide, by decide⟩) rfl) ?_
       refine .t 4 5 rfl rfl (.bd (trd (P, Hb, X)) rfl) ?_
       refine .t 3 5 rfl rfl (.bd (trd (P2, H2, X2)) rfl) ?_
       refine .t 3 5 rfl rfl (.bd (trd (a, b, c)) rfl) ?_
       refine .t 3 5 rfl rfl (.bd (trd (P, Hb, c)) rfl) ?_
       refine .t 3 5 rfl rfl (.bd (trd (P, b, X)) rfl) ?_
       refine .t 3 5 rfl rfl (.bd (trd (PL, Hb, X)) rfl) ?_
       refine .t 0 5 rfl rfl (.bb ([(P, Hb, X), (P2, H2, X2), (a, b, c), (P, Hb, c), (P, b, X), (PL, Hb, X)].flatMap trd) 5 rfl) ?_
       refine .g 2 6 rfl ?_
       obtain ⟨Z, hZ⟩ : ∃ Z, Z = [(P, Hb, X), (P2, H2, X2), (a, b, c), (P, Hb, c), (P, b, X), (PL, Hb, X)] := ⟨_, rfl⟩
       have hZa : ∀ z ∈ Z, z.1.length ≤ 1099511627776 ∧ z.2.1.length ≤ 1099511627776 ∧ z.2.2.length ≤ 1099511627776 := by rw [hZ]; intro z hz; simp only [List.mem_cons, List.not_mem_nil, or_false] at hz; rcases hz with rfl | rfl | rfl | rfl | rfl | rfl <;> refine ⟨?_, ?_, ?_⟩ <;> dsimp only <;> omega
       have hZl : Z.length = 6 := by rw [hZ]; rfl
       refine TE.frz 198 (slT trd 3 Z) rfl rfl rfl (by rw [hZ]; rfl) ?_
       refine TE.setv 199 (.int .i64 ((Z.length : Nat) : Int)) rfl (congrArg _ (by rw [hZl])) ?_
       refine TE.setv 200 (.int .i64 ((0 : Nat) : Int)) rfl (congrArg _ (by first | rfl | (dsimp only; first | done | rfl | omega))) ?_
       clear hZ
       refine .lo (T := Nat) 0 6 rfl (fun u => u ≤ Z.length) (fun u => Z.length - u) [0, 1, 2, 3, 4, 5, 6, 7, 8, 9, 10] [] (fun u => [(36, .f (.v (.int .u64 (pubF 5)))), (198, .d (slT trd 3 Z)), (199, .d (.v (.int .i64 ((Z.length : Nat) : Int)))), (200, .d (.v (.int .i64 ((u : Nat) : Int))))]) (fun u => []) (0) rfl rfl (Nat.zero_le _) rfl rfl rfl (fun u hI => ?_)
       refine .q 1 6 rfl rfl (fun h13 => ?_) (fun h13 => ?_)
       ·skip
        have hu : u < Z.length := by have q := of_decide_eq_true h13; (try dsimp only at q); omega
        obtain ⟨z, hz⟩ : ∃ z, z = Z[u] := ⟨_, rfl⟩
        have hzl := hZa z (by rw [hz]; exact List.getElem_mem hu)
        refine .t 0 6 rfl rfl (.idx (Z[u]) rfl rfl rfl rfl et48 (fun _ => rfl) (Int.natCast_nonneg _) (get_nat hu)) ?_
        refine .t 0 6 rfl rfl (.lm (trd Z[u]) rfl) ?_
        refine .g 2 6 rfl ?_
        refine TE.obj 6 (.box 47 (trd z)) rfl (by rw [hz]; rfl) ?_
        refine .t 2 7 rfl rfl (.bb ([pubF 5, y].flatMap udv) 7 rfl) ?_
        refine .g 2 8 rfl ?_
        obtain ⟨Y, hY⟩ : ∃ Y, Y = [pubF 5, y] := ⟨_, rfl⟩
        have hYf : ∀ p ∈ Y, u64I p := by rw [hY]; intro p hp; simp only [List.mem_cons, List.not_mem_nil, or_false] at hp; rcases hp with rfl | rfl; exact ⟨(pubF_bd 5).1, Int.lt_trans (pubF_bd 5).2 (by decide)⟩; exact w10
        have hYl : Y.length = 2 := by rw [hY]; rfl
        refine TE.frz 206 (slT udv 1 Y) rfl rfl rfl (by rw [hY]; rfl) ?_
        refine TE.setv 207 (.int .i64 ((Y.length : Nat) : Int)) rfl (congrArg _ (by rw [hYl])) ?_
        refine TE.setv 208 (.int .i64 ((0 : Nat) : Int)) rfl (congrArg _ (by first | rfl | (dsimp only; first | done | rfl | omega))) ?_
        refine .lo (T := Nat) 0 8 rfl (fun j => j ≤ Y.length) (fun j => Y.length - j) [0, 1, 2, 3, 4, 5, 6, 7, 8, 9, 10] [] (fun j => [(36, .f (.v (.int .u64 (pubF 5)))), (198, .d (slT trd 3 Z)), (199, .d (.v (.int .i64 ((Z.length : Nat) : Int)))), (200, .d (.v (.int .i64 ((u : Nat) : Int)))), (38, .ptr 6 0), (206, .d (slT udv 1 Y)), (207, .d (.v (.int .i64 ((Y.length : Nat) : Int)))), (208, .d (.v (.int .i64 ((j : Nat) : Int))))]) (fun j => [(6, .box 47 (trd z))]) (0) rfl rfl (Nat.zero_le _) rfl rfl rfl (fun j hI => ?_)
        refine .q 1 8 rfl rfl (fun h14 => ?_) (fun h14 => ?_)
        ·skip
         have hj : j < Y.length := by have q := of_decide_eq_true h14; (try dsimp only at q); omega
         obtain ⟨w, hw⟩ : ∃ w, w = Y[j] := ⟨_, rfl⟩
         have hwu := hYf w (by rw [hw]; exact List.getElem_mem hj)
         refine .t 0 8 rfl rfl (.idx (Y[j]) rfl rfl rfl rfl et49 (fun _ => rfl) (Int.natCast_nonneg _) (get_nat hj)) ?_
         refine .t 0 8 rfl rfl (.lde (X := .v (.int .u64 w)) rfl rfl rfl (by rw [hw]; rfl) tk24) ?_
         refine .d 1 8 rfl ?_
         refine .v 1 8 [6] rfl rfl (fun _ _ => .idxp rfl rfl rfl rfl rfl ar47 (by decide) (by decide)) ?_
         refine .v 1 8 [6] rfl rfl (fun _ _ => .idxp rfl rfl rfl rfl rfl ar47 (by decide) (by decide)) ?_
         refine .v 1 8 [6] rfl rfl (fun _ _ => .idxp rfl rfl rfl rfl rfl ar47 (by decide) (by decide)) ?_
         refine .v 1 8 [] rfl rfl (fun _ _ => .cf (redeem_pf w hwu (z.1) (z.2.1) (z.2.2) hzl.1 hzl.2.1 hzl.2.2) rfl) ?_
         refine .v 1 8 [6] rfl rfl (fun _ _ => .idxp rfl rfl rfl rfl rfl ar47 (by decide) (by decide)) ?_
         refine .v 1 8 [6] rfl rfl (fun _ _ => .idxp rfl rfl rfl rfl rfl ar47 (by decide) (by decide)) ?_
         refine .v 1 8 [6] rfl rfl (fun _ _ => .idxp rfl rfl rfl rfl rfl ar47 (by decide) (by decide)) ?_
         refine .v 1 8 [] rfl rfl (fun _ _ => .cf (rredeem_pf w hwu (z.1) (z.2.1) (z.2.2) hzl.1 hzl.2.1 hzl.2.2) rfl) ?_
         refine .v 0 8 [] rfl rfl (fun _ _ => .bv (.bool false) rfl (congrArg Value.bool (by simp))) ?_
         refine .y 0 8 rfl (by kernel_rfl) ?_
         refine .t 1 8 rfl rfl (.bv (.int .i64 ((j + 1 : Nat) : Int)) rfl (congrArg _ (by rw [IntKind.wrap_i64]; omega))) ?_
         refine .g 1 8 rfl ?_
         refine TE.setv 208 (.int .i64 ((j + 1 : Nat) : Int)) rfl (congrArg _ (by first | rfl | (dsimp only; first | done | rfl | omega))) ?_
         exact .rd 0 8 id (fun _ _ e => e) rfl (j + 1) (by omega) (by omega) rfl rfl rfl
        ·skip
         have hj : ¬ (j < Y.length) := by have q := of_decide_eq_false h14; (try dsimp only at q); omega
         refine .t 0 8 rfl rfl (.bv (.int .i64 ((u + 1 : Nat) : Int)) rfl (congrArg _ (by rw [IntKind.wrap_i64]; omega))) ?_
         refine .g 1 8 rfl ?_
         refine TE.setv 200 (.int .i64 ((u + 1 : Nat) : Int)) rfl (congrArg _ (by first | rfl | (dsimp only; first | done | rfl | omega))) ?_
         exact .rd 0 8 id (fun _ _ e => e) rfl (u + 1) (by omega) (by omega) rfl rfl rfl
       ·skip
        have hu : ¬ (u < Z.length) := by have q := of_decide_eq_false h13; (try dsimp only at q); omega
        exact .z 1 8 rfl (TE.retf rfl rfl rfl (okv rfl))
      ·skip
       skip
       refine .q 2 8 rfl rfl (fun h16 => ?_) (fun h16 => ?_)
       ·skip
        skip
        refine .t 2 8 rfl rfl (.cv (((pos.toNat : Nat) : Int)) rfl (by rw [IntKind.wrap_i64]; omega)) ?_
        refine .t 2 8 rfl rfl (.rem (((pos.toNat % Hb.length : Nat) : Int)) rfl rfl rfl (by omega) (emod_nat)) ?_
        refine .t 0 8 rfl rfl (.ixo rfl (Int.natCast_nonneg _) (Int.ofNat_lt.2 hcH)) ?_
        refine .t 0 8 rfl rfl (.ldp rfl rfl rfl rfl (by rw [Nat.mul_one, Int.toNat_natCast]; exact bd_at hcH) tk5) ?_
        refine .t 1 8 rfl rfl (.bits ((((Hb[pos.toNat % Hb.length]'hcH ^^^ x) : UInt8).toNat : Int)) rfl rfl rfl rfl (u8_xor _ _)) ?_
        refine .t 0 8 rfl rfl (.ixo rfl (Int.natCast_nonneg _) (Int.ofNat_lt.2 hcH)) ?_
        refine .t 0 8 rfl rfl (.storer (xs := Hb) (enc := bdv) ((Hb[pos.toNat % Hb.length]'hcH ^^^ x)) rfl rfl rfl rfl rfl rfl (fun _ => rfl) sz5 rfl (hcH)) ?_
        obtain ⟨P2, hP2⟩ : ∃ z, z = P := ⟨_, rfl⟩
        have lP2 : P2.length = P.length := by rw [hP2]
        refine TE.frz 33 (slT bdv 1 (P2)) rfl rfl (by rw [flat_length (sz := 1) (fun _ => rfl)]) (by unfold slT; rw [lP2, hP2]) ?_
        obtain ⟨H2, hH2⟩ : ∃ z, z = Hb.set (pos.toNat % Hb.length) (Hb[pos.toNat % Hb.length]'hcH ^^^ x) := ⟨_, rfl⟩
        have lH2 : H2.length = Hb.length := by rw [hH2, List.length_set]
        refine TE.frz 34 (slT bdv 1 (H2)) rfl rfl (by rw [flat_length (sz := 1) (fun _ => rfl), List.length_set]) (by unfold slT; rw [lH2, hH2]; rfl) ?_
        obtain ⟨X2, hX2⟩ : ∃ z, z = X := ⟨_, rfl⟩
        have lX2 : X2.length = X.length := by rw [hX2]
        refine TE.frz 35 (slT bdv 1 (X2)) rfl rfl (by rw [flat_length (sz := 1) (fun _ => rfl)]) (by unfold slT; rw [lX2, hX2]) ?_
        refine .t 0 8 rfl rfl (.cf (rpub_pf 5 ⟨by decide, by decide⟩) rfl) ?_
        refine .t 4 8 rfl rfl (.bd (trd (P, Hb, X)) rfl) ?_
        refine .t 3 8 rfl rfl (.bd (trd (P2, H2, X2)) rfl) ?_
        refine .t 3 8 rfl rfl (.bd (trd (a, b, c)) rfl) ?_
        refine .t 3 8 rfl rfl (.bd (trd (P, Hb, c)) rfl) ?_
        refine .t 3 8 rfl rfl (.bd (trd (P, b, X)) rfl) ?_
        refine .t 3 8 rfl rfl (.bd (trd (PL, Hb, X)) rfl) ?_
        refine .t 0 8 rfl rfl (.bb ([(P, Hb, X), (P2, H2, X2), (a, b, c), (P, Hb, c), (P, b, X), (PL, Hb, X)].flatMap trd) 8 rfl) ?_
        refine .g 2 9 rfl ?_
        obtain ⟨Z, hZ⟩ : ∃ Z, Z = [(P, Hb, X), (P2, H2, X2), (a, b, c), (P, Hb, c), (P, b, X), (PL, Hb, X)] := ⟨_, rfl⟩
        have hZa : ∀ z ∈ Z, z.1.length ≤ 1099511627776 ∧ z.2.1.length ≤ 1099511627776 ∧ z.2.2.length ≤ 1099511627776 := by rw [hZ]; intro z hz; simp only [List.mem_cons, List.not_mem_nil, or_false] at hz; rcases hz with rfl | rfl | rfl | rfl | rfl | rfl <;> refine ⟨?_, ?_, ?_⟩ <;> dsimp only <;> omega
        have hZl : Z.length = 6 := by rw [hZ]; rfl
        refine TE.frz 198 (slT trd 3 Z) rfl rfl rfl (by rw [hZ]; rfl) ?_
        refine TE.setv 199 (.int .i64 ((Z.length : Nat) : Int)) rfl (congrArg _ (by rw [hZl])) ?_
        refine TE.setv 200 (.int .i64 ((0 : Nat) : Int)) rfl (congrArg _ (by first | rfl | (dsimp only; first | done | rfl | omega))) ?_
        clear hZ
        refine .lo (T := Nat) 0 9 rfl (fun u => u ≤ Z.length) (fun u => Z.length - u) [0, 1, 2, 3, 4, 5, 6, 7, 8, 9, 10] [] (fun u => [(36, .f (.v (.int .u64 (pubF 5)))), (198, .d (slT trd 3 Z)), (199, .d (.v (.int .i64 ((Z.length : Nat) : Int)))), (200, .d (.v (.int .i64 ((u : Nat) : Int))))]) (fun u => []) (0) rfl rfl (Nat.zero_le _) rfl rfl rfl (fun u hI => ?_)
        refine .q 1 9 rfl rfl (fun h17 => ?_) (fun h17 => ?_)
        ·skip
         have hu : u < Z.length := by have q := of_decide_eq_true h17; (try dsimp only at q); omega
         obtain ⟨z, hz⟩ : ∃ z, z = Z[u] := ⟨_, rfl⟩
         have hzl := hZa z (by rw [hz]; exact List.getElem_mem hu)
         refine .t 0 9 rfl rfl (.idx (Z[u]) rfl rfl rfl rfl et48 (fun _ => rfl) (Int.natCast_nonneg _) (get_nat hu)) ?_
         refine .t 0 9 rfl rfl (.lm (trd Z[u]) rfl) ?_
         refine .g 2 9 rfl ?_
         refine TE.obj 9 (.box 47 (trd z)) rfl (by rw [hz]; rfl) ?_
         refine .t 2 10 rfl rfl (.bb ([pubF 5, y].flatMap udv) 10 rfl) ?_
         refine .g 2 11 rfl ?_
         obtain ⟨Y, hY⟩ : ∃ Y, Y = [pubF 5, y] := ⟨_, rfl⟩
         have hYf : ∀ p ∈ Y, u64I p := by rw [hY]; intro p hp; simp only [List.mem_cons, List.not_mem_nil, or_false] at hp; rcases hp with rfl | rfl; exact ⟨(pubF_bd 5).1, Int.lt_trans (pubF_bd 5).2 (by decide)⟩; exact w10
         have hYl : Y.length = 2 := by rw [hY]; rfl
         refine TE.frz 206 (slT udv 1 Y) rfl rfl rfl (by rw [hY]; rfl) ?_
         refine TE.setv 207 (.int .i64 ((Y.length : Nat) : Int)) rfl (congrArg _ (by rw [hYl])) ?_
         refine TE.setv 208 (.int .i64 ((0 : Nat) : Int)) rfl (congrArg _ (by first | rfl | (dsimp only; first | done | rfl | omega))) ?_
         refine .lo (T := Nat) 0 11 rfl (fun j => j ≤ Y.length) (fun j => Y.length - j) [0, 1, 2, 3, 4, 5, 6, 7, 8, 9, 10] [] (fun j => [(36, .f (.v (.int .u64 (pubF 5)))), (198, .d (slT trd 3 Z)), (199, .d (.v (.int .i64 ((Z.length : Nat) : Int)))), (200, .d (.v (.int .i64 ((u : Nat) : Int)))), (38, .ptr 9 0), (206, .d (slT udv 1 Y)), (207, .d (.v (.int .i64 ((Y.length : Nat) : Int)))), (208, .d (.v (.int .i64 ((j : Nat) : Int))))]) (fun j => [(9, .box 47 (trd z))]) (0) rfl rfl (Nat.zero_le _) rfl rfl rfl (fun j hI => ?_)
         refine .q 1 11 rfl rfl (fun h18 => ?_) (fun h18 => ?_)
         ·skip
          have hj : j < Y.length := by have q := of_decide_eq_true h18; (try dsimp only at q); omega
          obtain ⟨w, hw⟩ : ∃ w, w = Y[j] := ⟨_, rfl⟩
          have hwu := hYf w (by rw [hw]; exact List.getElem_mem hj)
          refine .t 0 11 rfl rfl (.idx (Y[j]) rfl rfl rfl rfl et49 (fun _ => rfl) (Int.natCast_nonneg _) (get_nat hj)) ?_
          refine .t 0 11 rfl rfl (.lde (X := .v (.int .u64 w)) rfl rfl rfl (by rw [hw]; rfl) tk24) ?_
          refine .d 1 11 rfl ?_
          refine .v 1 11 [9] rfl rfl (fun _ _ => .idxp rfl rfl rfl rfl rfl ar47 (by decide) (by decide)) ?_
          refine .v 1 11 [9] rfl rfl (fun _ _ => .idxp rfl rfl rfl rfl rfl ar47 (by decide) (by decide)) ?_
          refine .v 1 11 [9] rfl rfl (fun _ _ => .idxp rfl rfl rfl rfl rfl ar47 (by decide) (by decide)) ?_
          refine .v 1 11 [] rfl rfl (fun _ _ => .cf (redeem_pf w hwu (z.1) (z.2.1) (z.2.2) hzl.1 hzl.2.1 hzl.2.2) rfl) ?_
          refine .v 1 11 [9] rfl rfl (fun _ _ => .idxp rfl rfl rfl rfl rfl ar47 (by decide) (by decide)) ?_
          refine .v 1 11 [9] rfl rfl (fun _ _ => .idxp rfl rfl rfl rfl rfl ar47 (by decide) (by decide)) ?_
          refine .v 1 11 [9] rfl rfl (fun _ _ => .idxp rfl rfl rfl rfl rfl ar47 (by decide) (by decide)) ?_
          refine .v 1 11 [] rfl rfl (fun _ _ => .cf (rredeem_pf w hwu (z.1) (z.2.1) (z.2.2) hzl.1 hzl.2.1 hzl.2.2) rfl) ?_
          refine .v 0 11 [] rfl rfl (fun _ _ => .bv (.bool false) rfl (congrArg Value.bool (by simp))) ?_
          refine .y 0 11 rfl (by kernel_rfl) ?_
          refine .t 1 11 rfl rfl (.bv (.int .i64 ((j + 1 : Nat) : Int)) rfl (congrArg _ (by rw [IntKind.wrap_i64]; omega))) ?_
          refine .g 1 11 rfl ?_
          refine TE.setv 208 (.int .i64 ((j + 1 : Nat) : Int)) rfl (congrArg _ (by first | rfl | (dsimp only; first | done | rfl | omega))) ?_
          exact .rd 0 11 id (fun _ _ e => e) rfl (j + 1) (by omega) (by omega) rfl rfl rfl
         ·skip
          have hj : ¬ (j < Y.length) := by have q := of_decide_eq_false h18; (try dsimp only at q); omega
          refine .t 0 11 rfl rfl (.bv (.int .i64 ((u + 1 : Nat) : Int)) rfl (congrArg _ (by rw [IntKind.wrap_i64]; omega))) ?_
          refine .g 1 11 rfl ?_
          refine TE.setv 200 (.int .i64 ((u + 1 : Nat) : Int)) rfl (congrArg _ (by first | rfl | (dsimp only; first | done | rfl | omega))) ?_
          exact .rd 0 11 id (fun _ _ e => e) rfl (u + 1) (by omega) (by omega) rfl rfl rfl
        ·skip
         have hu : ¬ (u < Z.length) := by have q := of_decide_eq_false h17; (try dsimp only at q); omega
         exact .z 1 11 rfl (TE.retf rfl rfl rfl (okv rfl))
       ·skip
        skip
        refine .t 2 11 rfl rfl (.cv (((pos.toNat : Nat) : Int)) rfl (by rw [IntKind.wrap_i64]; omega)) ?_
        refine .t 2 11 rfl rfl (.rem (((pos.toNat % X.length : Nat) : Int)) rfl rfl rfl (by omega) (emod_nat)) ?_
        refine .t 0 11 rfl rfl (.ixo rfl (Int.natCast_nonneg _) (Int.ofNat_lt.2 hcX)) ?_
        refine .t 0 11 rfl rfl (.ldp rfl rfl rfl rfl (by rw [Nat.mul_one, Int.toNat_natCast]; exact bd_at hcX) tk5) ?_
        refine .t 1 11 rfl rfl (.bits ((((X[pos.toNat % X.length]'hcX ^^^ x) : UInt8).toNat : Int)) rfl rfl rfl rfl (u8_xor _ _)) ?_
        refine .t 0 11 rfl rfl (.ixo rfl (Int.natCast_nonneg _) (Int.ofNat_lt.2 hcX)) ?_
        refine .t 0 11 rfl rfl (.storer (xs := X) (enc := bdv) ((X[pos.toNat % X.length]'hcX ^^^ x)) rfl rfl rfl rfl rfl rfl (fun _ => rfl) sz5 rfl (hcX)) ?_
        obtain ⟨P2, hP2⟩ : ∃ z, z = P := ⟨_, rfl⟩
        have lP2 : P2.length = P.length := by rw [hP2]
        refine TE.frz 33 (slT bdv 1 (P2)) rfl rfl (by rw [flat_length (sz := 1) (fun _ => rfl)]) (by unfold slT; rw [lP2, hP2]) ?_
        obtain ⟨H2, hH2⟩ : ∃ z, z = Hb := ⟨_, rfl⟩
        have lH2 : H2.length = Hb.length := by rw [hH2]
        refine TE.frz 34 (slT bdv 1 (H2)) rfl rfl (by rw [flat_length (sz := 1) (fun _ => rfl)]) (by unfold slT; rw [lH2, hH2]) ?_
        obtain ⟨X2, hX2⟩ : ∃ z, z = X.set (pos.toNat % X.length) (X[pos.toNat % X.length]'hcX ^^^ x) := ⟨_, rfl⟩
        have lX2 : X2.length = X.length := by rw [hX2, List.length_set]
        refine TE.frz 35 (slT bdv 1 (X2)) rfl rfl (by rw [flat_length (sz := 1) (fun _ => rfl), List.length_set]) (by unfold slT; rw [lX2, hX2]; rfl) ?_
        refine .t 0 11 rfl rfl (.cf (rpub_pf 5 ⟨by decide, by decide⟩) rfl) ?_
        refine .t 4 11 rfl rfl (.bd (trd (P, Hb, X)) rfl) ?_
        refine .t 3 11 rfl rfl (.bd (trd (P2, H2, X2)) rfl) ?_
        refine .t 3 11 rfl rfl (.bd (trd (a, b, c)) rfl) ?_
        refine .t 3 11 rfl rfl (.bd (trd (P, Hb, c)) rfl) ?_
        refine .t 3 11 rfl rfl (.bd (trd (P, b, X)) rfl) ?_
        refine .t 3 11 rfl rfl (.bd (trd (PL, Hb, X)) rfl) ?_
        refine .t 0 11 rfl rfl (.bb ([(P, Hb, X), (P2, H2, X2), (a, b, c), (P, Hb, c), (P, b, X), (PL, Hb, X)].flatMap trd) 11 rfl) ?_
        refine .g 2 12 rfl ?_
        obtain ⟨Z, hZ⟩ : ∃ Z, Z = [(P, Hb, X), (P2, H2, X2), (a, b, c), (P, Hb, c), (P, b, X), (PL, Hb, X)] := ⟨_, rfl⟩
        have hZa : ∀ z ∈ Z, z.1.length ≤ 1099511627776 ∧ z.2.1.length ≤ 1099511627776 ∧ z.2.2.length ≤ 1099511627776 := by rw [hZ]; intro z hz; simp only [List.mem_cons, List.not_mem_nil, or_false] at hz; rcases hz with rfl | rfl | rfl | rfl | rfl | rfl <;> refine ⟨?_, ?_, ?_⟩ <;> dsimp only <;> omega
        have hZl : Z.length = 6 := by rw [hZ]; rfl
        refine TE.frz 198 (slT trd 3 Z) rfl rfl rfl (by rw [hZ]; rfl) ?_
        refine TE.setv 199 (.int .i64 ((Z.length : Nat) : Int)) rfl (congrArg _ (by rw [hZl])) ?_
        refine TE.setv 200 (.int .i64 ((0 : Nat) : Int)) rfl (congrArg _ (by first | rfl | (dsimp only; first | done | rfl | omega))) ?_
        clear hZ
        refine .lo (T := Nat) 0 12 rfl (fun u => u ≤ Z.length) (fun u => Z.length - u) [0, 1, 2, 3, 4, 5, 6, 7, 8, 9, 10] [] (fun u => [(36, .f (.v (.int .u64 (pubF 5)))), (198, .d (slT trd 3 Z)), (199, .d (.v (.int .i64 ((Z.length : Nat) : Int)))), (200, .d (.v (.int .i64 ((u : Nat) : Int))))]) (fun u => []) (0) rfl rfl (Nat.zero_le _) rfl rfl rfl (fun u hI => ?_)
        refine .q 1 12 rfl rfl (fun h20 => ?_) (fun h20 => ?_)
        ·skip
         have hu : u < Z.length := by have q := of_decide_eq_true h20; (try dsimp only at q); omega
         obtain ⟨z, hz⟩ : ∃ z, z = Z[u] := ⟨_, rfl⟩
         have hzl := hZa z (by rw [hz]; exact List.getElem_mem hu)
         refine .t 0 12 rfl rfl (.idx (Z[u]) rfl rfl rfl rfl et48 (fun _ => rfl) (Int.natCast_nonneg _) (get_nat hu)) ?_
         refine .t 0 12 rfl rfl (.lm (trd Z[u]) rfl) ?_
         refine .g 2 12 rfl ?_
         refine TE.obj 12 (.box 47 (trd z)) rfl (by rw [hz]; rfl) ?_
         refine .t 2 13 rfl rfl (.bb ([pubF 5, y].flatMap udv) 13 rfl) ?_
         refine .g 2 14 rfl ?_
         obtain ⟨Y, hY⟩ : ∃ Y, Y = [pubF 5, y] := ⟨_, rfl⟩
         have hYf : ∀ p ∈ Y, u64I p := by rw [hY]; intro p hp; simp only [List.mem_cons, List.not_mem_nil, or_false] at hp; rcases hp with rfl | rfl; exact ⟨(pubF_bd 5).1, Int.lt_trans (pubF_bd 5).2 (by decide)⟩; exact w10
         have hYl : Y.length = 2 := by rw [hY]; rfl
         refine TE.frz 206 (slT udv 1 Y) rfl rfl rfl (by rw [hY]; rfl) ?_
         refine TE.setv 207 (.int .i64 ((Y.length : Nat) : Int)) rfl (congrArg _ (by rw [hYl])) ?_
         refine TE.setv 208 (.int .i64 ((0 : Nat) : Int)) rfl (congrArg _ (by first | rfl | (dsimp only; first | done | rfl | omega))) ?_
         refine .lo (T := Nat) 0 14 rfl (fun j => j ≤ Y.length) (fun j => Y.length - j) [0, 1, 2, 3, 4, 5, 6, 7, 8, 9, 10] [] (fun j => [(36, .f (.v (.int .u64 (pubF 5)))), (198, .d (slT trd 3 Z)), (199, .d (.v (.int .i64 ((Z.length : Nat) : Int)))), (200, .d (.v (.int .i64 ((u : Nat) : Int)))), (38, .ptr 12 0), (206, .d (slT udv 1 Y)), (207, .d (.v (.int .i64 ((Y.length : Nat) : Int)))), (208, .d (.v (.int .i64 ((j : Nat) : Int))))]) (fun j => [(12, .box 47 (trd z))]) (0) rfl rfl (Nat.zero_le _) rfl rfl rfl (fun j hI => ?_)
         refine .q 1 14 rfl rfl (fun h21 => ?_) (fun h21 => ?_)
         ·skip
          have hj : j < Y.length := by have q := of_decide_eq_true h21; (try dsimp only at q); omega
          obtain ⟨w, hw⟩ : ∃ w, w = Y[j] := ⟨_, rfl⟩
          have hwu := hYf w (by rw [hw]; exact List.getElem_mem hj)
          refine .t 0 14 rfl rfl (.idx (Y[j]) rfl rfl rfl rfl et49 (fun _ => rfl) (Int.natCast_nonneg _) (get_nat hj)) ?_
          refine .t 0 14 rfl rfl (.lde (X := .v (.int .u64 w)) rfl rfl rfl (by rw [hw]; rfl) tk24) ?_
          refine .d 1 14 rfl ?_
          refine .v 1 14 [12] rfl rfl (fun _ _ => .idxp rfl rfl rfl rfl rfl ar47 (by decide) (by decide)) ?_
          refine .v 1 14 [12] rfl rfl (fun _ _ => .idxp rfl rfl rfl rfl rfl ar47 (by decide) (by decide)) ?_
          refine .v 1 14 [12] rfl rfl (fun _ _ => .idxp rfl rfl rfl rfl rfl ar47 (by decide) (by decide)) ?_
          refine .v 1 14 [] rfl rfl (fun _ _ => .cf (redeem_pf w hwu (z.1) (z.2.1) (z.2.2) hzl.1 hzl.2.1 hzl.2.2) rfl) ?_
          refine .v 1 14 [12] rfl rfl (fun _ _ => .idxp rfl rfl rfl rfl rfl ar47 (by decide) (by decide)) ?_
          refine .v 1 14 [12] rfl rfl (fun _ _ => .idxp rfl rfl rfl rfl rfl ar47 (by decide) (by decide)) ?_
          refine .v 1 14 [12] rfl rfl (fun _ _ => .idxp rfl rfl rfl rfl rfl ar47 (by decide) (by decide)) ?_
          refine .v 1 14 [] rfl rfl (fun _ _ => .cf (rredeem_pf w hwu (z.1) (z.2.1) (z.2.2) hzl.1 hzl.2.1 hzl.2.2) rfl) ?_
          refine .v 0 14 [] rfl rfl (fun _ _ => .bv (.bool false) rfl (congrArg Value.bool (by simp))) ?_
          refine .y 0 14 rfl (by kernel_rfl) ?_
          refine .t 1 14 rfl rfl (.bv (.int .i64 ((j + 1 : Nat) : Int)) rfl (congrArg _ (by rw [IntKind.wrap_i64]; omega))) ?_
          refine .g 1 14 rfl ?_
          refine TE.setv 208 (.int .i64 ((j + 1 : Nat) : Int)) rfl (congrArg _ (by first | rfl | (dsimp only; first | done | rfl | omega))) ?_
          exact .rd 0 14 id (fun _ _ e => e) rfl (j + 1) (by omega) (by omega) rfl rfl rfl
         ·skip
          have hj : ¬ (j < Y.length) := by have q := of_decide_eq_false h21; (try dsimp only at q); omega
          refine .t 0 14 rfl rfl (.bv (.int .i64 ((u + 1 : Nat) : Int)) rfl (congrArg _ (by rw [IntKind.wrap_i64]; omega))) ?_
          refine .g 1 14 rfl ?_
          refine TE.setv 200 (.int .i64 ((u + 1 : Nat) : Int)) rfl (congrArg _ (by first | rfl | (dsimp only; first | done | rfl | omega))) ?_
          exact .rd 0 14 id (fun _ _ e => e) rfl (u + 1) (by omega) (by omega) rfl rfl rfl
        ·skip
         have hu : ¬ (u < Z.length) := by have q := of_decide_eq_false h20; (try dsimp only at q); omega
         exact .z 1 14 rfl (TE.retf rfl rfl rfl (okv rfl))
end Go.Proofs.YtdjcclcejmeheaaGreat

