import Derived.Test.YtdjcclcejmeheaaGreatZBm
import Derived.Test.YtdjcclcejmeheaaGreatZEb
import Derived.Test.YtdjcclcejmeheaaGreatZGp
import Derived.Test.YtdjcclcejmeheaaGreatZEv
/-
  Openings: small signed numbers, rows of hashes; plain arguments given as less.
-/
namespace Go.Proofs.YtdjcclcejmeheaaGreat
set_option linter.unusedVariables false
set_option linter.unusedSimpArgs false
open Go.RowKit Pl
set_option maxRecDepth 100000
theorem Pl.PF.subl {P : Program} {f : FuncId} {Xs Zs : List DV} {Y : DV} (s : SubL Zs Xs) (h : PF P f Xs Y) : PF P f Zs Y := fun w us hr => h w us (s _ w us hr)
theorem o_i8 {X : DV} (h : ShV Tryz.prog 6 61 X) : ∃ n, X = .v (.int .i8 n) ∧ (-128 ≤ n ∧ n < 128) := by
  obtain ⟨n, rfl, hw⟩ := shv_int Tryz.underlying61 h
  refine ⟨n, rfl, ?_⟩
  simp [Lit.wf, IntKind.min, IntKind.max, IntKind.signed, IntKind.bits] at hw; omega
end Go.Proofs.YtdjcclcejmeheaaGreat
/-
  What is known of the papers.
-/
namespace Go.Proofs.YtdjcclcejmeheaaGreat
set_option linter.unusedVariables false
set_option linter.unusedSimpArgs false
open Go.RowKit Pl
set_option maxRecDepth 100000
set_option maxHeartbeats 3200000
theorem et26 : elt Tryz.prog 26 = some (65, 70) := by kernel_rfl
theorem rknown_pf : PF Tryz.prog 7 [] (.v (.bool true)) := by
 obtain ⟨q0, q1, h0, h1, kn, tk, hE, ⟨es, hkin, hknl, ok0, ok1, a1, a2, a3, a4, a5, hep⟩⟩ := l0_known
 obtain ⟨g0, es0⟩ := q0
 dsimp only at es
 subst es
 have cE : PC Tryz.prog 8 [.v (.int .u64 (5)), slT bdv 1 (l0)] (.tp [slT Pub.dv 70 ([⟨g0, [e1]⟩, q1]), slT Kn.dv 4 (kn), slT Hd.dv 69 ([h0, h1])]) := by have q := epochs_pc 5 ⟨by decide, by decide⟩ l0 (by decide); rw [hE] at q; exact q
 have cP : PC Tryz.prog 11 [slT Kn.dv 4 (kn), slT Hd.dv 69 ([h0, h1]), .ag e1.dv, .v (.int .i64 (0)), .v (.int .i64 (0))] (.tp [slT bdv 1 (paperP e1 0), slT bdv 1 (putH h0), slT bdv 1 (putB (paperX kn h0 e1))]) := papers_pc kn [h0, h1] e1 0 0 (by omega) hkin (Nat.succ_pos _) (Nat.le_of_ble_eq_true rfl) (fun h hh => by rcases List.mem_cons.1 hh with rfl | hh; exact ok0; rw [List.mem_singleton] at hh; subst hh; exact ok1) (by decide) (by decide)
 have cL := rleaves_po [h0, h1] (Nat.le_of_ble_eq_true rfl) (fun h hh => by rcases List.mem_cons.1 hh with rfl | hh; exact ok0; rw [List.mem_singleton] at hh; subst hh; exact ok1)
 have cU : PF Tryz.prog 12 [.v (.int .u64 (5))] (.v (.int .u64 (16807))) := by have q := rpub_pf 5 ⟨by decide, by decide⟩; rw [kp5] at q; exact q
 have lp : (paperP e1 0).length ≤ 1099511627776 := Nat.le_trans (paperP_len _ _) (by decide)
 have lh : (putH h0).length ≤ 1048576 := by rw [putH_len]; decide
 have lh1 : (putH h1).length ≤ 1048576 := by rw [putH_len]; decide
 have lx : (putB (paperX kn h0 e1)).length ≤ 1099511627776 := (by rw [putB_len]; have q : (paperX kn h0 e1).path.length ≤ 256 := mkP_short _ _; omega)
 have r1 : PF Tryz.prog 9 [.v (.int .u64 (16807)), slT bdv 1 (paperP e1 0), slT bdv 1 (putH h0), slT bdv 1 (putB (paperX kn h0 e1))] (.v (.int .i64 (0))) := by have q := redeem_pf 16807 ⟨by decide, by decide⟩ (paperP e1 0) (putH h0) (putB (paperX kn h0 e1)) lp (by omega) lx; rw [a1] at q; exact q
 have r2 : PF Tryz.prog 9 [.v (.int .u64 (16807)), .v (.slice none 0 0), slT bdv 1 (putH h0), slT bdv 1 (putB (paperX kn h0 e1))] (.v (.int .i64 (20))) := by have q := redeem_pf 16807 ⟨by decide, by decide⟩ [] (putH h0) (putB (paperX kn h0 e1)) (by decide) (by omega) lx; rw [a2] at q; exact q.nil2
 have r3 : PF Tryz.prog 9 [.v (.int .u64 (16808)), slT bdv 1 (paperP e1 0), slT bdv 1 (putH h0), slT bdv 1 (putB (paperX kn h0 e1))] (.v (.int .i64 (25))) := by have q := redeem_pf 16808 ⟨by decide, by decide⟩ (paperP e1 0) (putH h0) (putB (paperX kn h0 e1)) lp (by omega) lx; rw [a3] at q; exact q
 have r4 : PF Tryz.prog 18 [.v (.int .u64 (16807)), slT bdv 1 (putH h0), slT bdv 1 (putH h1), slT hdv 32 ([])] (.v (.int .i64 (0))) := by have q := in_pf 16807 ⟨by decide, by decide⟩ (putH h0) (putH h1) lh lh1 [] (by decide); rw [a4] at q; exact q
 have r5 : PF Tryz.prog 17 [.v (.int .u64 (16807)), slT bdv 1 (putH h0), slT bdv 1 (putH h1), .v (.slice none 0 0)] (.v (.int .i64 (23))) := by have q := grown_pf 16807 ⟨by decide, by decide⟩ (putH h0) (putH h1) lh lh1 [] (by decide) (fun _ z => absurd hep z); rw [a5] at q; exact .subl (subL_cons (fun _ _ _ h => h) (subL_cons (fun _ _ _ h => h) (subL_cons (fun _ _ _ h => h) (subL_cons (nil_sub _ _) (fun _ _ _ h => h))))) q
 clear a1 a2 a3 a4 a5 hep hE
 refine PF.enter (fn := Tryz.f7) Tryz.func7 rfl Tryz.ntmps7 rfl (fun w0 => .w ?_)
 refine .t 1 1 rfl rfl (.ba 1 rfl) ?_
 refine TE.frz 12 (slT bdv 1 (l0)) rfl rfl rfl rfl ?_
 refine .t 0 2 rfl rfl (.cc (cE) rfl) ?_
 refine .t 9 2 rfl rfl (.bv (.bool false) rfl (rfl)) ?_
 refine .t 4 2 rfl rfl (.idx ((⟨g0, [e1]⟩ : Pub)) rfl rfl rfl rfl et26 (fun _ => rfl) (by decide) rfl) ?_
 refine .t 2 2 rfl rfl (.idx (e1) rfl rfl rfl rfl et63 (fun _ => rfl) (by decide) rfl) ?_
 refine .t 0 2 rfl rfl (.lm (e1.dv) rfl) ?_
 refine .t 0 2 rfl rfl (.cc (cP) rfl) ?_
 refine .t 8 2 rfl rfl (.co 2 (cL) rfl) ?_
 refine .g 1 3 rfl ?_
 refine TE.frz 7 (slT hdv 32 ([h0, h1].map hleaf)) rfl rfl (flat_length (sz := 32) (enc := hdv) (fun _ => rfl) _) rfl ?_
 refine .t 0 3 rfl rfl (.cf (cU) rfl) ?_
 refine .t 2 3 rfl rfl (.slice rfl rfl rfl rfl rfl et52 (fun _ => rfl) (by omega) (by omega) (by show (1 : Int) ≤ ((2 : Nat) : Int); decide)) ?_
 refine .t 0 3 rfl rfl (.cc (rpath_one (([h0, h1].map hleaf).take 1) rfl) rfl) ?_
 refine .t 9 3 rfl rfl (.cf (r1) rfl) ?_
 refine .t 0 3 rfl rfl (.bv (.bool true) rfl (rfl)) ?_
 refine .t 4 3 rfl rfl (.cf (r2) rfl) ?_
 refine .t 0 3 rfl rfl (.bv (.bool true) rfl (rfl)) ?_
 refine .t 3 3 rfl rfl (.bv (.int .u64 16808) rfl (rfl)) ?_
 refine .t 3 3 rfl rfl (.cf (r3) rfl) ?_
 refine .t 0 3 rfl rfl (.bv (.bool true) rfl (rfl)) ?_
 refine .t 5 3 rfl rfl (.idx (h1) rfl rfl rfl rfl et28 (fun _ => rfl) (by decide) rfl) ?_
 refine .t 0 3 rfl rfl (.lm (h1.dv) rfl) ?_
 refine .t 0 3 rfl rfl (.cf ((rbytes_po h1 ok1).pf) rfl) ?_
 refine .t 1 3 rfl rfl (.cf (r4) rfl) ?_
 refine .t 0 3 rfl rfl (.bv (.bool true) rfl (rfl)) ?_
 refine .t 5 3 rfl rfl (.idx (h1) rfl rfl rfl rfl et28 (fun _ => rfl) (by decide) rfl) ?_
 refine .t 0 3 rfl rfl (.lm (h1.dv) rfl) ?_
 refine .t 0 3 rfl rfl (.cf ((rbytes_po h1 ok1).pf) rfl) ?_
 refine .t 0 3 rfl rfl (.cf (r5) rfl) ?_
 refine .t 0 3 rfl rfl (.bv (.bool true) rfl (rfl)) ?_
 exact .z 2 3 rfl (TE.retf rfl rfl rfl (okv rfl))
end Go.Proofs.YtdjcclcejmeheaaGreat
/-
  RedeemLate.
-/
namespace Go.Proofs.YtdjcclcejmeheaaGreat
set_option linter.unusedVariables false
set_option linter.unusedSimpArgs false
open Go.RowKit Pl
set_option maxRecDepth 100000
set_option maxHeartbeats 3200000
theorem ub4 : ubl Tryz.prog 4 = true := by kernel_rfl
theorem redeemLate_pf (k : UInt8) (t : UInt16) (d : Int) (w2 : -128 ≤ d ∧ d < 128) : PF Tryz.prog 6 [.v (.int .u8 ((k.toNat : Nat) : Int)), .v (.int .u16 ((t.toNat : Nat) : Int)), .v (.int .i8 d)] (.v (.bool true)) := by
 have hk := k.toNat_lt
 have ht := t.toNat_lt
 obtain ⟨a, haa⟩ : ∃ a : Nat, a = t.toNat + 100 := ⟨_, rfl⟩
 obtain ⟨h, kn, hB, ho, hkin, hknl, hR⟩ := late_first k (a := ((a : Nat) : Int)) (d := d) (by omega) (by omega) w2.1 w2.2 (by omega)
 obtain ⟨e, he⟩ : ∃ e, e = seatE k 1 := ⟨_, rfl⟩
 have hnm : e.nm.length ≤ 1048576 := by rw [he]; exact Nat.le_trans (nameL_len _).2 (by decide)
 have cS : PF Tryz.prog 21 [.v (.int .u8 ((k.toNat : Nat) : Int)), .v (.int .i64 (1))] (.ag e.dv) := by rw [he]; exact entry_pf k 1
 have cB : PC Tryz.prog 22 [.v (.int .u64 (5)), .v (.slice none 0 0), .v (.slice none 0 0), slT En.dv 3 ([e]), .v (.int .i64 (((a : Nat) : Int) + 40 + d))] (.tp [.ag (Pub.dv ⟨h, [e]⟩), slT Kn.dv 4 (kn), .v (.int .i64 (0))]) := by have q := rbuild_pc 5 ⟨by decide, by decide⟩ [] [] [e] (((a : Nat) : Int) + 40 + d) (by decide) (by decide) (Nat.le_of_ble_eq_true rfl) (fun k hk => by cases hk) (fun h hh => by cases hh); rw [he, hB, ← he] at q; exact .subl (subL_cons (fun _ _ _ h => h) (subL_cons (nil_sub _ _) (subL_cons (nil_sub _ _) (fun _ _ _ h => h)))) q
 have cP : PC Tryz.prog 11 [slT Kn.dv 4 (kn), slT Hd.dv 69 ([h]), .ag e.dv, .v (.int .i64 (0)), .v (.int .i64 (((a : Nat) : Int)))] (.tp [slT bdv 1 (paperP e ((a : Nat) : Int)), slT bdv 1 (putH h), slT bdv 1 (putB (paperX kn h e))]) := papers_pc kn [h] e 0 ((a : Nat) : Int) (by omega) hkin (Nat.succ_pos _) (Nat.le_of_ble_eq_true rfl) (fun g hg => by rw [List.mem_singleton] at hg; subst hg; exact ho) hnm (by decide)
 have cR := redeem_pf (pubF 5) ⟨(pubF_bd 5).1, Int.lt_trans (pubF_bd 5).2 (by decide)⟩ (paperP e ((a : Nat) : Int)) (putH h) (putB (paperX kn h e)) (Nat.le_trans (paperP_len _ _) (by decide)) (by rw [putH_len]; decide) (by rw [putB_len]; have q : (paperX kn h e).path.length ≤ 256 := mkP_short _ _; omega)
 rw [← he] at hR
 rw [hR] at cR
 clear hR hB he
 refine PF.enter (fn := Tryz.f6) Tryz.func6 rfl Tryz.ntmps6 rfl (fun w0 => .w ?_)
 refine .t 1 1 rfl rfl (.cf (rknown_pf) rfl) ?_
 refine .t 3 1 rfl rfl (.cf (cS) rfl) ?_
 refine .g 2 1 rfl ?_
 refine TE.obj 1 (.box 35 (e.dv)) rfl rfl ?_
 refine .t 1 2 rfl rfl (.cv (((t.toNat : Nat) : Int)) rfl (by rw [IntKind.wrap_i64]; omega)) ?_
 refine .t 0 2 rfl rfl (.bv (.int .i64 ((a : Nat) : Int)) rfl (congrArg _ (by (try dsimp only); rw [IntKind.wrap_i64]; omega))) ?_
 refine .t 1 2 rfl rfl (.lp (e.dv) rfl) ?_
 refine .t 0 2 rfl rfl (.ba 2 rfl) ?_
 refine .t 1 3 rfl rfl (.bv (.int .i64 (((a : Nat) : Int) + 40)) rfl (congrArg _ (by rw [IntKind.wrap_i64]; omega))) ?_
 refine .t 1 3 rfl rfl (.cv (d) rfl (by rw [IntKind.wrap_i64]; omega)) ?_
 refine .t 0 3 rfl rfl (.bv (.int .i64 (((a : Nat) : Int) + 40 + d)) rfl (congrArg _ (by rw [IntKind.wrap_i64]; omega))) ?_
 refine TE.frz 25 (slT En.dv 3 ([e])) rfl rfl rfl rfl ?_
 refine .t 0 3 rfl rfl (.cc (cB) rfl) ?_
 refine .g 8 3 rfl ?_
 refine TE.obj 3 (.box 65 (Pub.dv ⟨h, [e]⟩)) rfl rfl ?_
 refine .t 1 4 rfl rfl (.bv (.bool false) rfl (rfl)) ?_
 refine .t 3 4 rfl rfl (.lp (h.dv) rfl) ?_
 refine .t 0 4 rfl rfl (.ba 4 rfl) ?_
 refine .t 0 5 rfl rfl (.lp (e.dv) rfl) ?_
 refine .g 1 5 rfl ?_
 refine TE.frz 41 (slT Hd.dv 69 ([h])) rfl rfl rfl rfl ?_
 refine .t 0 5 rfl rfl (.cc (cP) rfl) ?_
 by_cases hd : 0 < d
 ·skip
  rw [if_pos hd] at cR
  refine .t 7 5 rfl rfl (.cf (rpub_pf 5 ⟨by decide, by decide⟩) rfl) ?_
  refine .t 3 5 rfl rfl (.cf (cR) rfl) ?_
  refine .t 2 5 rfl rfl (.bv (.bool false) rfl (rfl)) ?_
  refine .t 1 5 rfl rfl (.bv (.bool false) rfl (congrArg Value.bool (decide_eq_false (by omega)))) ?_
  refine .t 0 5 rfl rfl (.eqb true rfl rfl rfl ub4 (by simp)) ?_
  refine .t 2 5 rfl rfl (.bv (.bool true) rfl (rfl)) ?_
  refine .t 1 5 rfl rfl (.bv (.bool true) rfl (congrArg Value.bool (decide_eq_true (by omega)))) ?_
  refine .t 0 5 rfl rfl (.eqb true rfl rfl rfl ub4 (by simp)) ?_
  exact .z 2 5 rfl (TE.retf rfl rfl rfl (okv rfl))
 ·skip
  rw [if_neg hd] at cR
  refine .t 7 5 rfl rfl (.cf (rpub_pf 5 ⟨by decide, by decide⟩) rfl) ?_
  refine .t 3 5 rfl rfl (.cf (cR) rfl) ?_
  refine .t 2 5 rfl rfl (.bv (.bool true) rfl (rfl)) ?_
  refine .t 1 5 rfl rfl (.bv (.bool true) rfl (congrArg Value.bool (decide_eq_true (by omega)))) ?_
  refine .t 0 5 rfl rfl (.eqb true rfl rfl rfl ub4 (by simp)) ?_
  refine .t 2 5 rfl rfl (.bv (.bool false) rfl (rfl)) ?_
  refine .t 1 5 rfl rfl (.bv (.bool false) rfl (congrArg Value.bool (decide_eq_false (by omega)))) ?_
  refine .t 0 5 rfl rfl (.eqb true rfl rfl rfl ub4 (by simp)) ?_
  exact .z 2 5 rfl (TE.retf rfl rfl rfl (okv rfl))
end Go.Proofs.YtdjcclcejmeheaaGreat

