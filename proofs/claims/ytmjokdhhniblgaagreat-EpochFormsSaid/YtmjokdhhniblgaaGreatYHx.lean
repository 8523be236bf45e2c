import Derived.Test.YtmjokdhhniblgaaGreatYHu
import Derived.Test.YtmjokdhhniblgaaGreatYGi
import Derived.Test.YtmjokdhhniblgaaGreatYEv
/-
  EpochForms.
-/
namespace Go.Proofs.YtmjokdhhniblgaaGreat
set_option linter.unusedVariables false
set_option linter.unusedSimpArgs false
open Go.RowKit Pl
set_option maxRecDepth 100000
set_option maxHeartbeats 3200000
theorem epochForms_pf (l : List UInt8) (w k : UInt8) : PF Tryz.prog 6 [slT bdv 1 l, .v (.int .u8 ((w.toNat : Nat) : Int)), .v (.int .u8 ((k.toNat : Nat) : Int))] (.v (.bool true)) := by
 have hw := w.toNat_lt
 have hk := k.toNat_lt
 refine PF.enter (fn := Tryz.f6) Tryz.func6 rfl Tryz.ntmps6 rfl (fun w0 => .w ?_)
 refine .t 1 1 rfl rfl (.cf (eknown_pf) rfl) ?_
 refine .q 5 1 rfl rfl (fun h2 => ?_) (fun h2 => ?_)
 ·skip
  have hl : 5 < l.length := by have q := of_decide_eq_true h2; (try dsimp only at q); omega
  exact .z 1 1 rfl (TE.retf rfl rfl rfl (okv rfl))
 ·skip
  have hl : ¬ (5 < l.length) := by have q := of_decide_eq_false h2; (try dsimp only at q); omega
  refine .t 1 1 rfl rfl (.cc (epochs_pc 5 ⟨by decide, by decide⟩ l (by omega)) rfl) ?_
  refine .g 7 1 rfl ?_
  obtain ⟨s, hs0⟩ : ∃ s, s = epsR 5 l := ⟨_, rfl⟩
  have si : EpsIn s l.length := by rw [hs0]; exact eps_in l (by omega)
  have sh := si.hsl
  have sk := si.knl
  have sb := lastT_bd si
  refine TE.set 8 (.d (slT Kn.dv 4 (s.kn))) rfl (by rw [hs0]) ?_
  refine TE.set 9 (.d (slT Hd.dv 69 (s.hs))) rfl (by rw [hs0]) ?_
  refine .g 4 1 rfl ?_
  refine .jn [(0, .d (slT bdv 1 l)), (1, .d (.v (.int .u8 ((w.toNat : Nat) : Int)))), (2, .d (.v (.int .u8 ((k.toNat : Nat) : Int)))), (8, .d (slT Kn.dv 4 (s.kn))), (9, .d (slT Hd.dv 69 (s.hs))), (10, .d (.v (.int .i64 (lastT s.hs))))] [] ?_ ?_
  ·skip
   refine .t 2 1 rfl rfl (.cf (name_pf k) rfl) ?_
   refine .t 0 1 rfl rfl (.cf (rlatest_any s.kn (nameL ((k.toNat : Nat) : Int)) (by omega)) rfl) ?_
   refine .g 6 1 rfl ?_
   refine TE.frzb 11 rfl rfl rfl rfl ?_
   refine .t 4 2 rfl rfl (.bv (.int .i64 (i64w ((latR s.kn (nameL ((k.toNat : Nat) : Int))).1.ver + 1))) rfl (rfl)) ?_
   refine .t 0 2 rfl rfl (.cf (entry_pf k (i64w ((latR s.kn (nameL ((k.toNat : Nat) : Int))).1.ver + 1))) rfl) ?_
   refine .g 2 2 rfl ?_
   refine TE.frzb 13 rfl rfl rfl rfl ?_
   obtain ⟨e, he⟩ : ∃ e, e = seatE k (i64w ((latR s.kn (nameL ((k.toNat : Nat) : Int))).1.ver + 1)) := ⟨_, rfl⟩
   refine TE.set 13 (.d (.el e.dv)) rfl (by rw [he]; rfl) ?_
   refine .t 0 3 rfl rfl (.lm (e.dv) rfl) ?_
   refine .t 0 3 rfl rfl (.bb ([e].flatMap En.dv) 3 rfl) ?_
   by_cases n0 : w.toNat % 6 = 0
   ·skip
    refine .t 4 4 rfl rfl (.rem (0) rfl rfl rfl (by decide) (by rw [Int.tmod_eq_emod_of_nonneg (by omega)]; omega)) ?_
    refine .t 0 4 rfl rfl (.bv (.bool true) rfl (rfl)) ?_
    have cB : PC Tryz.prog 12 [.v (.int .u64 5), slT Kn.dv 4 (s.kn), slT Hd.dv 69 (s.hs), .v (.slice none 0 0), .v (.int .i64 (lastT s.hs))] (.tp [.ag zeroPub.dv, slT Kn.dv 4 ([]), .v (.int .i64 23)]) := by have q := build_pc 5 ⟨by decide, by decide⟩ s.kn s.hs ([]) (lastT s.hs) (by omega) (by omega) (by simp) si.chain si.ok; rw [build_bad (bad_nil _ _ _)] at q; exact .subl (subL_cons (fun _ _ _ h => h) (subL_cons (fun _ _ _ h => h) (subL_cons (fun _ _ _ h => h) (subL_cons (nil_sub _ _) (fun _ _ _ h => h))))) q
    refine .t 7 4 rfl rfl (.cc (cB) rfl) ?_
    refine .t 9 4 rfl rfl (.bv (.bool true) rfl (rfl)) ?_
    refine .t 3 5 rfl rfl (.bv (.bool true) rfl (rfl)) ?_
    refine .t 2 5 rfl rfl (.lp (zeroPub.dv) rfl) ?_
    refine .t 0 5 rfl rfl (.bd (zeroHd.dv ++ [.v (.slice none 0 0)]) rfl) ?_
    refine TE.sub 133 (.ag zeroPub.dv) rfl rfl (pub_nil zeroHd) ?_
    refine .t 0 5 rfl rfl (.cf (samep_pf zeroPub zp_fit (by decide) (fun e he => by cases he)) rfl) ?_
    exact .z 2 5 rfl (TE.retf rfl rfl rfl (okv rfl))
   ·skip
    by_cases n1 : w.toNat % 6 = 1
    ·skip
     refine .t 4 4 rfl rfl (.rem (1) rfl rfl rfl (by decide) (by rw [Int.tmod_eq_emod_of_nonneg (by omega)]; omega)) ?_
     refine .t 0 5 rfl rfl (.bv (.bool false) rfl (rfl)) ?_
     refine .t 2 5 rfl rfl (.bv (.bool true) rfl (rfl)) ?_
     refine .g 3 5 rfl ?_
     refine TE.setv 16 (.int .i64 ((0 : Nat) : Int)) rfl (congrArg _ (by first | rfl | (dsimp only; first | done | rfl | omega))) ?_
     refine TE.set 14 (.ow 3 (plE e 0).length 3) rfl rfl ?_
     refine TE.obj 3 (.row 38 3 ((plE e 0).flatMap En.dv)) rfl rfl ?_
     refine .lo (T := Nat) 0 5 rfl (fun j => j ≤ 8) (fun j => 8 - j) [0, 1, 2] [] (fun j => [(8, .d (slT Kn.dv 4 (s.kn))), (9, .d (slT Hd.dv 69 (s.hs))), (14, .ow 3 (plE e j).length 3), (15, .d (.v (.int .i64 (lastT s.hs)))), (16, .d (.v (.int .i64 ((j : Nat) : Int))))]) (fun j => [(3, .row 38 3 ((plE e j).flatMap En.dv))]) (0) rfl rfl (Nat.zero_le _) rfl rfl rfl (fun j hI => ?_)
     refine .q 2 5 rfl rfl (fun h8 => ?_) (fun h8 => ?_)
     ·skip
      have hj : j < 8 := by have q := of_decide_eq_true h8; (try dsimp only at q); omega
      have hpl := plE_len e j
      refine .t 2 5 rfl rfl (.cv (((j : Nat) : Int)) rfl (by rw [IntKind.wrap_u8]; omega)) ?_
      refine .t 0 5 rfl rfl (.bv (.int .u8 (((112 + UInt8.ofNat j).toNat : Nat) : Int)) rfl (congrArg _ (u8_add 112 j (by omega)))) ?_
      refine .t 0 5 rfl rfl (.bb ([112 + UInt8.ofNat j].flatMap bdv) 5 rfl) ?_
      refine .t 0 6 rfl rfl (.convbs (l := [112 + UInt8.ofNat j]) rfl rfl rfl (okA_len rfl rfl) u822 us9) ?_
      refine .t 0 6 rfl rfl (.bd ((pE j).dv) rfl) ?_
      refine .t 0 6 rfl rfl (.bb ([pE j].flatMap En.dv) 6 rfl) ?_
      refine .t 0 7 rfl rfl (.ap 7 rfl (flat_length (sz := 3) (enc := En.dv) (fun _ => rfl) _) rfl (by omega) (by omega)) ?_
      refine .t 2 8 rfl rfl (.bv (.int .i64 ((j + 1 : Nat) : Int)) rfl (congrArg _ (by (try dsimp only); rw [IntKind.wrap_i64]; omega))) ?_
      refine .g 1 8 rfl ?_
      refine TE.set 14 (.ow 7 (plE e (j + 1)).length 3) rfl (by rw [plE_len, plE_len]) ?_
      refine TE.obj 7 (.row 38 3 ((plE e (j + 1)).flatMap En.dv)) rfl (by rw [plE_snoc, List.flatMap_append]) ?_
      refine TE.setv 16 (.int .i64 ((j + 1 : Nat) : Int)) rfl (congrArg _ (by first | rfl | (dsimp only; first | done | rfl | omega))) ?_
      exact .rd 0 8 (swp 3 7) (swp_inj 3 7) rfl (j + 1) (by omega) (by omega) rfl rfl rfl
     ·skip
      have hj : ¬ (j < 8) := by have q := of_decide_eq_false h8; (try dsimp only at q); omega
      have hj8 : j = 8 := by omega
      subst hj8
      refine TE.frz 14 (slT En.dv 3 (plE e 8)) rfl rfl (flat_length (sz := 3) (enc := En.dv) (fun _ => rfl) _) rfl ?_
      have cB : PC Tryz.prog 12 [.v (.int .u64 5), slT Kn.dv 4 (s.kn), slT Hd.dv 69 (s.hs), slT En.dv 3 (plE e 8), .v (.int .i64 (lastT s.hs))] (.tp [.ag zeroPub.dv, slT Kn.dv 4 ([]), .v (.int .i64 23)]) := by have q := build_pc 5 ⟨by decide, by decide⟩ s.kn s.hs (plE e 8) (lastT s.hs) (by omega) (by omega) (by rw [plE_len]; decide) si.chain si.ok; rw [build_bad (bad_long (by rw [plE_len]; decide))] at q; exact q
      refine .t 4 8 rfl rfl (.cc (cB) rfl) ?_
      refine .t 9 8 rfl rfl (.bv (.bool true) rfl (rfl)) ?_
      refine .t 3 9 rfl rfl (.bv (.bool true) rfl (rfl)) ?_
      refine .t 2 9 rfl rfl (.lp (zeroPub.dv) rfl) ?_
      refine .t 0 9 rfl rfl (.bd (zeroHd.dv ++ [.v (.slice none 0 0)]) rfl) ?_
      refine TE.sub 133 (.ag zeroPub.dv) rfl rfl (pub_nil zeroHd) ?_
      refine .t 0 9 rfl rfl (.cf (samep_pf zeroPub zp_fit (by decide) (fun e he => by cases he)) rfl) ?_
      exact .z 2 9 rfl (TE.retf rfl rfl rfl (okv rfl))
    ·skip
     by_cases n2 : w.toNat % 6 = 2
     ·skip
      refine .t 4 4 rfl rfl (.rem (2) rfl rfl rfl (by decide) (by rw [Int.tmod_eq_emod_of_nonneg (by omega)]; omega)) ?_
      refine .t 0 9 rfl rfl (.bv (.bool false) rfl (rfl)) ?_
      refine .t 2 9 rfl rfl (.bv (.bool false) rfl (rfl)) ?_
      refine .t 2 9 rfl rfl (.bv (.bool true) rfl (rfl)) ?_
      refine .t 3 9 rfl rfl (.lm (e.dv) rfl) ?_
      refine .t 0 9 rfl rfl (.bb ([e].flatMap En.dv) 9 rfl) ?_
      refine .t 0 10 rfl rfl (.ap 10 rfl rfl rfl (by omega) (by omega)) ?_
      refine .g 1 11 rfl ?_
      refine TE.frz 14 (slT En.dv 3 ([e, e])) rfl rfl rfl rfl ?_
      have cB : PC Tryz.prog 12 [.v (.int .u64 5), slT Kn.dv 4 (s.kn), slT Hd.dv 69 (s.hs), slT En.dv 3 ([e, e]), .v (.int .i64 (lastT s.hs))] (.tp [.ag zeroPub.dv, slT Kn.dv 4 ([]), .v (.int .i64 23)]) := by have q := build_pc 5 ⟨by decide, by decide⟩ s.kn s.hs ([e, e]) (lastT s.hs) (by omega) (by omega) (by simp) si.chain si.ok; rw [build_bad (bad_twice)] at q; exact q
      refine .t 4 11 rfl rfl (.cc (cB) rfl) ?_
      refine .t 9 11 rfl rfl (.bv (.bool true) rfl (rfl)) ?_
      refine .t 3 12 rfl rfl (.bv (.bool true) rfl (rfl)) ?_
      refine .t 2 12 rfl rfl (.lp (zeroPub.dv) rfl) ?_
      refine .t 0 12 rfl rfl (.bd (zeroHd.dv ++ [.v (.slice none 0 0)]) rfl) ?_
      refine TE.sub 133 (.ag zeroPub.dv) rfl rfl (pub_nil zeroHd) ?_
      refine .t 0 12 rfl rfl (.cf (samep_pf zeroPub zp_fit (by decide) (fun e he => by cases he)) rfl) ?_
      exact .z 2 12 rfl (TE.retf rfl rfl rfl (okv rfl))
     ·skip
      by_cases n3 : w.toNat % 6 = 3
      ·skip
       refine .t 4 4 rfl rfl (.rem (3) rfl rfl rfl (by decide) (by rw [Int.tmod_eq_emod_of_nonneg (by omega)]; omega)) ?_
       refine .t 0 12 rfl rfl (.bv (.bool false) rfl (rfl)) ?_
       refine .t 2 12 rfl rfl (.bv (.bool false) rfl (rfl)) ?_
       refine .t 2 12 rfl rfl (.bv (.bool false) rfl (rfl)) ?_
       refine .t 2 12 rfl rfl (.bv (.bool true) rfl (rfl)) ?_
       refine .t 3 12 rfl rfl (.ixo rfl (by decide) (by decide)) ?_
       refine .t 2 12 rfl rfl (.bv (.int .i64 (i64w (e.ver + 1))) rfl (rfl)) ?_
       refine .t 0 12 rfl rfl (.ixo rfl (by decide) (by decide)) ?_
       refine .g 2 12 rfl ?_
       refine TE.obj 3 (.row 38 3 (([{ e with ver := i64w (e.ver + 1) }]).flatMap En.dv)) rfl rfl ?_
       refine TE.frz 14 (slT En.dv 3 ([{ e with ver := i64w (e.ver + 1) }])) rfl rfl rfl rfl ?_
       have cB : PC Tryz.prog 12 [.v (.int .u64 5), slT Kn.dv 4 (s.kn), slT Hd.dv 69 (s.hs), slT En.dv 3 ([{ e with ver := i64w (e.ver + 1) }]), .v (.int .i64 (lastT s.hs))] (.tp [.ag zeroPub.dv, slT Kn.dv 4 ([]), .v (.int .i64 23)]) := by have q := build_pc 5 ⟨by decide, by decide⟩ s.kn s.hs ([{ e with ver := i64w (e.ver + 1) }]) (lastT s.hs) (by omega) (by omega) (by simp) si.chain si.ok; rw [build_bad (ver_next si (by omega) k he _)] at q; exact q
       refine .t 4 12 rfl rfl (.cc (cB) rfl) ?_
       refine .t 9 12 rfl rfl (.bv (.bool true) rfl (rfl)) ?_
       refine .t 3 13 rfl rfl (.bv (.bool true) rfl (rfl)) ?_
       refine .t 2 13 rfl rfl (.lp (zeroPub.dv) rfl) ?_
       refine .t 0 13 rfl rfl (.bd (zeroHd.dv ++ [.v (.slice none 0 0)]) rfl) ?_
       refine TE.sub 133 (.ag zeroPub.dv) rfl rfl (pub_nil zeroHd) ?_
       refine .t 0 13 rfl rfl (.cf (samep_pf zeroPub zp_fit (by decide) (fun e he => by cases he)) rfl) ?_
       exact .z 2 13 rfl (TE.retf rfl rfl rfl (okv rfl))
      ·skip
       by_cases n4 : w.toNat % 6 = 4
       ·skip
        refine .t 4 4 rfl rfl (.rem (4) rfl rfl rfl (by decide) (by rw [Int.tmod_eq_emod_of_nonneg (by omega)]; omega)) ?_
        refine .t 0 13 rfl rfl (.bv (.bool false) rfl (rfl)) ?_
        refine .t 2 13 rfl rfl (.bv (.bool false) rfl (rfl)) ?_
        refine .t 2 13 rfl rfl (.bv (.bool false) rfl (rfl)) ?_
        refine .t 2 13 rfl rfl (.bv (.bool false) rfl (rfl)) ?_
        refine .t 2 13 rfl rfl (.bv (.bool true) rfl (rfl)) ?_
        refine .t 3 13 rfl rfl (.bv (.int .i64 (lastT s.hs - 1)) rfl (congrArg _ (by rw [IntKind.wrap_i64]; omega))) ?_
        refine .g 1 13 rfl ?_
        refine TE.frz 14 (slT En.dv 3 ([e])) rfl rfl rfl rfl ?_
        have cB : PC Tryz.prog 12 [.v (.int .u64 5), slT Kn.dv 4 (s.kn), slT Hd.dv 69 (s.hs), slT En.dv 3 ([e]), .v (.int .i64 (lastT s.hs - 1))] (.tp [.ag zeroPub.dv, slT Kn.dv 4 ([]), .v (.int .i64 23)]) := by have q := build_pc 5 ⟨by decide, by decide⟩ s.kn s.hs ([e]) (lastT s.hs - 1) (by omega) (by omega) (by simp) si.chain si.ok; rw [build_bad (bad_back sb.1)] at q; exact q
        refine .t 4 13 rfl rfl (.cc (cB) rfl) ?_
        refine .t 9 13 rfl rfl (.bv (.bool true) rfl (rfl)) ?_
        refine .t 3 14 rfl rfl (.bv (.bool true) rfl (rfl)) ?_
        refine .t 2 14 rfl rfl (.lp (zeroPub.dv) rfl) ?_
        refine .t 0 14 rfl rfl (.bd (zeroHd.dv ++ [.v (.slice none 0 0)]) rfl) ?_
        refine TE.sub 133 (.ag zeroPub.dv) rfl rfl (pub_nil zeroHd) ?_
        refine .t 0 14 rfl rfl (.cf (samep_pf zeroPub zp_fit (by decide) (fun e he => by cases he)) rfl) ?_
        exact .z 2 14 rfl (TE.retf rfl rfl rfl (okv rfl))
       ·skip
        refine .t 4 4 rfl rfl (.rem (5) rfl rfl rfl (by decide) (by rw [Int.tmod_eq_emod_of_nonneg (by omega)]; omega)) ?_
        refine .t 0 14 rfl rfl (.bv (.bool false) rfl (rfl)) ?_
        refine .t 2 14 rfl rfl (.bv (.bool false) rfl (rfl)) ?_
        refine .t 2 14 rfl rfl (.bv (.bool false) rfl (rfl)) ?_
        refine .t 2 14 rfl rfl (.bv (.bool false) rfl (rfl)) ?_
        refine .t 2 14 rfl rfl (.bv (.bool false) rfl (rfl)) ?_
        refine .g 1 14 rfl ?_
        refine TE.frz 14 (slT En.dv 3 ([e])) rfl rfl rfl rfl ?_
        have hgd : badN s.kn s.hs [e] (lastT s.hs) = false := by rw [he]; exact good_one si (by omega) k
        obtain ⟨hd, hhd⟩ : ∃ hd, hd = headN s.kn s.hs [e] (lastT s.hs) := ⟨_, rfl⟩
        obtain ⟨K, hK⟩ : ∃ K, K = knN s.kn s.hs [e] := ⟨_, rfl⟩
        have hct : (signH 5 hd).ct = 1 := by rw [hhd]; rfl
        have cB : PC Tryz.prog 12 [.v (.int .u64 5), slT Kn.dv 4 (s.kn), slT Hd.dv 69 (s.hs), slT En.dv 3 ([e]), .v (.int .i64 (lastT s.hs))] (.tp [.ag (Pub.dv ⟨signH 5 hd, byN [e]⟩), slT Kn.dv 4 (K), .v (.int .i64 0)]) := by have q := build_pc 5 ⟨by decide, by decide⟩ s.kn s.hs [e] (lastT s.hs) (by omega) (by omega) (by simp) si.chain si.ok; rw [build_good hgd, ← hhd, ← hK] at q; exact q
        refine .t 5 14 rfl rfl (.cc (cB) rfl) ?_
        refine .t 9 14 rfl rfl (.bv (.bool true) rfl (rfl)) ?_
        refine .t 4 15 rfl rfl (.bv (.bool true) rfl (congrArg Value.bool (decide_eq_true (hct)))) ?_
        exact .z 2 15 rfl (TE.retf rfl rfl rfl (okv rfl))
  ·skip
   refine .q 0 15 rfl rfl (fun h29 => ?_) (fun h29 => ?_)
   ·skip
    have hp : 0 < s.hs.length := by have q := of_decide_eq_true h29; (try dsimp only at q); omega
    have hp1 : s.hs.length - 1 < s.hs.length := by omega
    refine .t 3 15 rfl rfl (.bv (.int .i64 ((s.hs.length - 1 : Nat) : Int)) rfl (congrArg _ (by (try dsimp only); rw [IntKind.wrap_i64]; omega))) ?_
    refine .t 0 15 rfl rfl (.idx (s.hs[s.hs.length - 1]'hp1) rfl rfl rfl rfl et34 (fun _ => rfl) (Int.natCast_nonneg _) (get_nat hp1)) ?_
    refine .g 3 15 rfl ?_
    refine TE.setv 10 (.int .i64 (lastT s.hs)) rfl (by unfold lastT; rw [last_at hp]) ?_
    exact .je 0 15 rfl rfl rfl rfl
   ·skip
    have hp : ¬ (0 < s.hs.length) := by have q := of_decide_eq_false h29; (try dsimp only at q); omega
    have hz : s.hs = [] := List.eq_nil_of_length_eq_zero (by omega)
    refine TE.setv 10 (.int .i64 (lastT s.hs)) rfl (by unfold lastT; rw [hz]; rfl) ?_
    exact .je 0 15 rfl rfl rfl rfl
end Go.Proofs.YtmjokdhhniblgaaGreat

