import Derived.Test.YtdjcclcejmeheaaGreatZGd
import Derived.Test.YtdjcclcejmeheaaGreatZGo
import Derived.Test.YtdjcclcejmeheaaGreatZHp
import Derived.Test.YtdjcclcejmeheaaGreatZEv
import Derived.Test.YtdjcclcejmeheaaGreatZGs
import Derived.Test.YtdjcclcejmeheaaGreatZBm
import Derived.Test.YtdjcclcejmeheaaGreatZEc
/-
  The law's papers.
-/
namespace Go.Proofs.YtdjcclcejmeheaaGreat
set_option linter.unusedVariables false
set_option linter.unusedSimpArgs false
open Go.RowKit Pl
set_option maxRecDepth 100000
set_option maxHeartbeats 3200000
theorem papers_pc (kn : List Kn) (hs : List Hd) (e : En) (k : Nat) (t : Int) (hkl : kn.length ≤ 1048576) (hki : knIn kn) (hp : 0 < hs.length) (hl : hs.length ≤ 1000000) (hho : ∀ h ∈ hs, h.ok) (hnm : e.nm.length ≤ 1048576) (hk : k ≤ 1000000) : PC Tryz.prog 11 [slT Kn.dv 4 kn, slT Hd.dv 69 hs, .ag e.dv, .v (.int .i64 ((k : Nat) : Int)), .v (.int .i64 t)] (.tp [slT bdv 1 (paperP e t), slT bdv 1 (putH (hs[k % hs.length]'(Nat.mod_lt _ hp))), slT bdv 1 (putB (paperX kn (hs[k % hs.length]'(Nat.mod_lt _ hp)) e))]) := by
 obtain ⟨h, hh⟩ : ∃ h, h = (hs[k % hs.length]'(Nat.mod_lt _ hp)) := ⟨_, rfl⟩
 have ho : h.ok := by rw [hh]; exact hho _ (List.getElem_mem _)
 have hmod : k % hs.length < hs.length := Nat.mod_lt _ hp
 rw [← hh]
 have cI := ritems_pf kn h.ep hkl hki
 obtain ⟨its, hits⟩ : ∃ its, its = setR (itsK h.ep kn) [] := ⟨_, rfl⟩
 rw [← hits] at cI
 have hil : its.length ≤ 1048576 := by have q2 := itsK_le h.ep kn; rw [hits]; exact Nat.le_trans (setR_len _ []) (by rw [List.length_nil]; omega)
 rw [show paperX kn h e = (mkP (indexH e.nm) (setR its [])) by unfold paperX; rw [← hits]]
 have hms := mkP_short (indexH e.nm) its
 obtain ⟨q, hq⟩ : ∃ q, q = (makeQ 5 e t).1 := ⟨_, rfl⟩
 obtain ⟨qe, hqe⟩ : ∃ q, q = (makeQ 5 e t).2 := ⟨_, rfl⟩
 have hqo : q.ok := by rw [hq]; exact makeQ_isok 5 e t
 have cM : PC Tryz.prog 41 [.v (.int .u64 5), .ag e.dv, .v (.int .i64 t)] (.tp [.ag q.dv, .v (.int .i64 qe)]) := by rw [hq, hqe]; exact rpmake_pc 5 ⟨by decide, by decide⟩ e t
 rw [show paperP e t = (if rightQ q = true then putQ q else []) by rw [hq]; rfl]
 clear hq hqe hits
 refine PC.enter (fn := Tryz.f11) Tryz.func11 rfl Tryz.ntmps11 rfl (fun w0 K0 => .w ?_)
 refine .g 4 1 rfl ?_
 refine TE.frzb 7 rfl rfl rfl rfl ?_
 refine .t 0 2 rfl rfl (.lm (e.dv) rfl) ?_
 refine .t 1 2 rfl rfl (.cc (cM) rfl) ?_
 refine .g 6 2 rfl ?_
 refine TE.obj 2 (.box 73 (q.dv)) rfl rfl ?_
 refine .t 0 3 rfl rfl (.lp (q.dv) rfl) ?_
 refine .t 0 3 rfl rfl (.cc (rputp_pc q hqo) rfl) ?_
 refine .t 9 3 rfl rfl (.rem (((k % hs.length : Nat) : Int)) rfl rfl rfl (by omega) (by rw [Int.tmod_eq_emod_of_nonneg (Int.natCast_nonneg _)]; omega)) ?_
 refine .t 0 3 rfl rfl (.idx (h) rfl rfl rfl rfl et28 (fun _ => rfl) (Int.natCast_nonneg _) (hh ▸ get_nat hmod)) ?_
 refine .t 0 3 rfl rfl (.lm (h.dv) rfl) ?_
 refine .g 2 3 rfl ?_
 refine TE.obj 3 (.box 45 (h.dv)) rfl rfl ?_
 refine .d 0 4 rfl ?_
 refine .v 3 4 [] rfl rfl (fun _ _ => .cf (cI) rfl) ?_
 refine .v 2 4 [] rfl rfl (fun _ _ => .cf (rindex_pf e.nm hnm) rfl) ?_
 refine .v 0 4 [] rfl rfl (fun _ _ => .cc (rmake_pc its (indexH e.nm) hil) rfl) ?_
 refine .y 2 4 rfl (by kernel_rfl) ?_
 refine TE.obj 4 (.box 81 (Pf.dv (mkP (indexH e.nm) (setR its [])))) rfl rfl ?_
 refine .d 0 5 rfl ?_
 refine .v 1 5 [3] rfl rfl (fun _ _ => .lp (h.dv) rfl) ?_
 refine .v 0 5 [] rfl rfl (fun _ _ => .cf ((rbytes_po h ho).pf) rfl) ?_
 refine .v 0 5 [4] rfl rfl (fun _ _ => .lp (Pf.dv (mkP (indexH e.nm) (setR its []))) rfl) ?_
 refine .v 0 5 [] rfl rfl (fun _ _ => .cf ((rput_po (mkP (indexH e.nm) (setR its [])) (by omega)).pf) rfl) ?_
 refine .y 3 5 rfl (by kernel_rfl) ?_
 exact .z 0 5 rfl (TE.rettc rfl rfl rfl)
end Go.Proofs.YtdjcclcejmeheaaGreat
/-
  What is known of the papers; late heads: plain values.
-/
namespace Go.Proofs.YtdjcclcejmeheaaGreat
set_option linter.unusedVariables false
set_option linter.unusedSimpArgs false
open Go.RowKit Pl
set_option maxRecDepth 100000
def e1 : En := ⟨[98], 1, 1002⟩
def m1 : List UInt8 := msgQ ⟨e1, 0, 40, 0, 0⟩
theorem jk : signK 5 m1 = 1865019212528520044 := by decide +kernel
theorem jr : sigR 5 m1 = 677964835700534840 := by
  unfold sigR; rw [jk]
  exact fpf 7 1865019212528520044 677964835700534840 (by decide) (by decide +kernel)
theorem je7 : chalF 677964835700534840 16807 m1 = 1674832513345511420 := by decide +kernel
theorem je8 : chalF 677964835700534840 16808 m1 = 619216607905244404 := by decide +kernel
theorem js : sigS 5 m1 = 1015809742401301344 := by
  unfold sigS sigE; rw [jk, jr, kp5, je7]; decide +kernel
theorem jc8 : checkF 16808 m1 (sigR 5 m1) (sigS 5 m1) = false := by
  have h1 : fpow 7 1015809742401301344 2305843009213693951 = 1306840513706127347 := fpf 7 1015809742401301344 1306840513706127347 (by decide) (by decide +kernel)
  have h2 : fpow 16808 619216607905244404 2305843009213693951 = 1636268858265692602 := fpf 16808 619216607905244404 1636268858265692602 (by decide) (by decide +kernel)
  unfold checkF sameF
  rw [jr, js, je8, h1, h2]
  decide +kernel
theorem e1_right : rightE e1.nm e1.ver e1.key = true := by decide +kernel
theorem signQ_chk (x y : Int) {p : Pm} (r : rightQ p = true) : checkQ y (signQ x p) = checkF y (msgQ p) (sigR (x % 2305843009213693950) (msgQ p)) (sigS (x % 2305843009213693950) (msgQ p)) := by
  rw [checkQ_yes (show rightQ (signQ x p) = true from r)]; rfl
theorem e1_chk8 : checkQ 16808 (signQ 5 ⟨e1, 0, 0 + 40, 0, 0⟩) = false := by
  rw [signQ_chk 5 16808 (rightQ_new e1_right (by decide) (by decide)), show (5 : Int) % 2305843009213693950 = 5 from by decide]
  exact jc8
/-- The known epochs. -/
def l0 : List UInt8 := [1, 30]
theorem l0_len : (epsR 5 l0).hs.length = 2 := by decide +kernel
theorem l0_es : (epsR 5 l0).ps.head?.map Pub.es = some [e1] := by kernel_rfl
theorem l0_tk : (epsR 5 l0).hs.map Hd.tk = [0, 1] := by kernel_rfl
theorem l0_its : itsK 1 (epsR 5 l0).kn = [itemI [98] 1 1002] := by kernel_rfl
theorem l0_its1 : itsK 1 (knPs ((epsR 5 l0).ps.take 1)) = [itemI [98] 1 1002] := by kernel_rfl
theorem one_str (x : It) : Str [x] := List.pairwise_singleton _ _
structure Kwn (q0 q1 : Pub) (h0 h1 : Hd) (kn : List Kn) : Prop where
  es : q0.es = [e1]
  kin : knIn kn
  knl : kn.length ≤ 6
  ok0 : h0.ok
  ok1 : h1.ok
  a1 : redeemF 16807 (paperP e1 0) (putH h0) (putB (paperX kn h0 e1)) = 0
  a2 : redeemF 16807 [] (putH h0) (putB (paperX kn h0 e1)) = 20
  a3 : redeemF 16808 (paperP e1 0) (putH h0) (putB (paperX kn h0 e1)) = 25
  a4 : inF 16807 (putH h0) (putH h1) [] = 0
  a5 : growF 16807 (putH h0) (putH h1) [] = 23
  ep : (headsF 16807 (putH h0) (putH h1)).1.ep < 2
theorem two_of {α : Type} : ∀ {l : List α}, l.length = 2 → ∃ a b, l = [a, b]
  | [a, b], _ => ⟨a, b, rfl⟩
theorem l0_known : ∃ q0 q1 h0 h1 kn tk, epsR 5 l0 = ⟨[q0, q1], [h0, h1], kn, tk⟩ ∧ Kwn q0 q1 h0 h1 kn := by
  have w := epsR_well 5 l0 (by decide)
  have o := epsR_ok 5 l0
  have hl := l0_len
  have hes := l0_es
  have htk := l0_tk
  have hi := l0_its
  have hi1 := l0_its1
  have okn := o.kn
  have oin := o.knI
  have ook := o.hok
  have ops := o.ps
  obtain ⟨s, hs⟩ : ∃ s, s = epsR 5 l0 := ⟨_, rfl⟩
  rw [← hs] at w hl hes htk hi hi1 okn oin ook ops ⊢
  obtain ⟨ps, hh, kn, tk⟩ := s
  dsimp only at *
  have w1 := w.hs
  have w2 := w.good
  dsimp only at w1 w2
  obtain ⟨q0, q1, rfl⟩ := two_of (show ps.length = 2 by omega)
  have st0 := step_in w2 (show 2 ≤ 1000 by decide) (i := 0) (show 0 < 2 by decide)
  have st1 := step_in w2 (show 2 ≤ 1000 by decide) (i := 1) (show 1 < 2 by decide)
  have e0 : [q0, q1][0] = q0 := rfl
  have e1' : [q0, q1][1] = q1 := rfl
  rw [e0] at st0
  rw [e1'] at st1
  have h0e : hh = [q0.hd, q1.hd] := w1
  subst h0e
  have tk0 : q0.hd.tk = 0 := by injection htk
  have ep0 : q0.hd.ep = 1 := st0.ep
  have ep1 : q1.hd.ep = 2 := st1.ep
  have ei : itsK q0.hd.ep kn = [itemI e1.nm e1.ver e1.key] := by rw [ep0]; exact hi
  have root0 : q0.hd.root = rootH (setR (itsK q0.hd.ep kn) []) := by
    rw [ei]
    have q := st0.rt
    rw [show itsK (((List.map Pub.hd (List.take 0 [q0, q1])).length + 1 : Nat) : Int) (knPs (List.take (0 + 1) [q0, q1])) = [itemI e1.nm e1.ver e1.key] from hi1] at q
    exact q
  have c0 := st0.sigd
  have c1 := st1.sigd
  have rd0 := read_putH st0.right st0.ok2
  have rd1 := read_putH st1.right st1.ok2
  have hhF : headsF 16807 (putH q0.hd) (putH q1.hd) = (q0.hd, q1.hd, 0) := by
    unfold headsF; rw [rd0, rd1]
    rw [kp5] at c0 c1
    rw [headsE_ok rfl rfl c0 c1]
  refine ⟨q0, q1, q0.hd, q1.hd, kn, tk, rfl, ?_, oin, by simpa [l0] using okn, st0.ok2, st1.ok2, ?_, ?_, ?_, ?_, ?_, ?_⟩
  · simpa using hes
  · rw [← kp5]
    refine redeem_mine e1_right (by decide) (by decide) st0.right st0.ok2 c0 root0 (by rw [tk0]; decide) ?_
    rw [ei, setR_self (one_str _)]
    exact List.mem_singleton.2 rfl
  · unfold redeemF
    rw [readQ_none rfl]
    exact redeemG_bytes (.inl (by decide))
  · obtain ⟨p, hp, q, hg⟩ := redeem_gen (kn := kn) (h := q0.hd) (e := e1) (t := 0) e1_right (by decide) (by decide) st0.right st0.ok2
    rw [hg]
    exact redeemG_sig rfl rfl rfl (.inl (by rw [hp]; exact e1_chk8))
  · unfold inF
    rw [hhF]
    refine inG_ok rfl (by show ¬ q1.hd.ep ≤ q0.hd.ep; rw [ep0, ep1]; decide) ?_
    show inLog q1.hd.log (q1.hd.ep - 1).toNat (q0.hd.ep - 1).toNat _ _ = true
    rw [ep0, ep1]
    have lg := st1.lg
    rw [show (List.map Pub.hd (List.take 1 [q0, q1])).map hleaf = [hleaf q0.hd] from rfl, lroot_one (l := [hleaf q0.hd]) rfl Nat.zero_lt_one] at lg
    unfold inLog
    rw [show ((2 : Int) - 1).toNat = 1 from rfl, upF_one, lg]
    simp [hleaf]
  · unfold growF
    rw [hhF]
    exact growG_form rfl (.inl (by show q0.hd.ep < 2; rw [ep0]; decide))
  · rw [hhF]; show q0.hd.ep < 2; rw [ep0]; decide
end Go.Proofs.YtdjcclcejmeheaaGreat
/-
  Openings: small signed numbers, rows of hashes; plain arguments given as less.
-/
namespace Go.Proofs.YtdjcclcejmeheaaGreat
set_option linter.unusedVariables false
set_option linter.unusedSimpArgs false
open Go.RowKit Pl
set_option maxRecDepth 100000
theorem Pl.PF.subl {P : Program} {f : FuncId} {Xs Zs : List DV} {Y : DV} (s : SubL Zs Xs) (h : PF P f Xs Y) : PF P f Zs Y := fun w us hr => h w us (s _ w us hr)
end Go.Proofs.YtdjcclcejmeheaaGreat
/-
  What is known of the papers.
-/
namespace Go.Proofs.YtdjcclcejmeheaaGreat
set_option linter.unusedVariables false
set_option linter.unusedSimpArgs false
open Go.RowKit Pl
set_option maxRecDepth 100000
set_option maxHeartbeats 3200000
theorem et26 : elt Tryz.prog 26 = some (65, 70) := by kernel_rfl
theorem rknown_pf : PF Tryz.prog 7 [] (.v (.bool true)) := by
 obtain ⟨q0, q1, h0, h1, kn, tk, hE, ⟨es, hkin, hknl, ok0, ok1, a1, a2, a3, a4, a5, hep⟩⟩ := l0_known
 obtain ⟨g0, es0⟩ := q0
 dsimp only at es
 subst es
 have cE : PC Tryz.prog 8 [.v (.int .u64 (5)), slT bdv 1 (l0)] (.tp [slT Pub.dv 70 ([⟨g0, [e1]⟩, q1]), slT Kn.dv 4 (kn), slT Hd.dv 69 ([h0, h1])]) := by have q := epochs_pc 5 ⟨by decide, by decide⟩ l0 (by decide); rw [hE] at q; exact q
 have cP : PC Tryz.prog 11 [slT Kn.dv 4 (kn), slT Hd.dv 69 ([h0, h1]), .ag e1.dv, .v (.int .i64 (0)), .v (.int .i64 (0))] (.tp [slT bdv 1 (paperP e1 0), slT bdv 1 (putH h0), slT bdv 1 (putB (paperX kn h0 e1))]) := papers_pc kn [h0, h1] e1 0 0 (by omega) hkin (Nat.succ_pos _) (Nat.le_of_ble_eq_true rfl) (fun h hh => by rcases List.mem_cons.1 hh with rfl | hh; exact ok0; rw [List.mem_singleton] at hh; subst hh; exact ok1) (by decide) (by decide)
 have cL := rleaves_po [h0, h1] (Nat.le_of_ble_eq_true rfl) (fun h hh => by rcases List.mem_cons.1 hh with rfl | hh; exact ok0; rw [List.mem_singleton] at hh; subst hh; exact ok1)
 have cU : PF Tryz.prog 12 [.v (.int .u64 (5))] (.v (.int .u64 (16807))) := by have q := rpub_pf 5 ⟨by decide, by decide⟩; rw [kp5] at q; exact q
 have lp : (paperP e1 0).length ≤ 1099511627776 := Nat.le_trans (paperP_len _ _) (by decide)
 have lh : (putH h0).length ≤ 1048576 := by rw [putH_len]; decide
 have lh1 : (putH h1).length ≤ 1048576 := by rw [putH_len]; decide
 have lx : (putB (paperX kn h0 e1)).length ≤ 1099511627776 := (by rw [putB_len]; have q : (paperX kn h0 e1).path.length ≤ 256 := mkP_short _ _; omega)
 have r1 : PF Tryz.prog 9 [.v (.int .u64 (16807)), slT bdv 1 (paperP e1 0), slT bdv 1 (putH h0), slT bdv 1 (putB (paperX kn h0 e1))] (.v (.int .i64 (0))) := by have q := redeem_pf 16807 ⟨by decide, by decide⟩ (paperP e1 0) (putH h0) (putB (paperX kn h0 e1)) lp (by omega) lx; rw [a1] at q; exact q
 have r2 : PF Tryz.prog 9 [.v (.int .u64 (16807)), .v (.slice none 0 0), slT bdv 1 (putH h0), slT bdv 1 (putB (paperX kn h0 e1))] (.v (.int .i64 (20))) := by have q := redeem_pf 16807 ⟨by decide, by decide⟩ [] (putH h0) (putB (paperX kn h0 e1)) (by decide) (by omega) lx; rw [a2] at q; exact q.nil2
 have r3 : PF Tryz.prog 9 [.v (.int .u64 (16808)), slT bdv 1 (paperP e1 0), slT bdv 1 (putH h0), slT bdv 1 (putB (paperX kn h0 e1))] (.v (.int .i64 (25))) := by have q := redeem_pf 16808 ⟨by decide, by decide⟩ (paperP e1 0) (putH h0) (putB (paperX kn h0 e1)) lp (by omega) lx; rw [a3] at q; exact q
 have r4 : PF Tryz.prog 18 [.v (.int .u64 (16807)), slT bdv 1 (putH h0), slT bdv 1 (putH h1), slT hdv 32 ([])] (.v (.int .i64 (0))) := by have q := in_pf 16807 ⟨by decide, by decide⟩ (putH h0) (putH h1) lh lh1 [] (by decide); rw [a4] at q; exact q
 have r5 : PF Tryz.prog 17 [.v (.int .u64 (16807)), slT bdv 1 (putH h0), slT bdv 1 (putH h1), .v (.slice none 0 0)] (.v (.int .i64 (23))) := by have q := grown_pf 16807 ⟨by decide, by decide⟩ (putH h0) (putH h1) lh lh1 [] (by decide) (fun _ z => absurd hep z); rw [a5] at q; exact .subl (subL_cons (fun _ _ _ h => h) (subL_cons (fun _ _ _ h => h) (subL_cons (fun _ _ _ h => h) (subL_cons (nil_sub _ _) (fun _ _ _ h => h))))) q
 clear a1 a2 a3 a4 a5 hep hE
 refine PF.enter (fn := Tryz.f7) Tryz.func7 rfl Tryz.ntmps7 rfl (fun w0 => .w ?_)
 refine .t 1 1 rfl rfl (.ba 1 rfl) ?_
 refine TE.frz 12 (slT bdv 1 (l0)) rfl rfl rfl rfl ?_
 refine .t 0 2 rfl rfl (.cc (cE) rfl) ?_
 refine .t 9 2 rfl rfl (.bv (.bool false) rfl (rfl)) ?_
 refine .t 4 2 rfl rfl (.idx ((⟨g0, [e1]⟩ : Pub)) rfl rfl rfl rfl et26 (fun _ => rfl) (by decide) rfl) ?_
 refine .t 2 2 rfl rfl (.idx (e1) rfl rfl rfl rfl et63 (fun _ => rfl) (by decide) rfl) ?_
 refine .t 0 2 rfl rfl (.lm (e1.dv) rfl) ?_
 refine .t 0 2 rfl rfl (.cc (cP) rfl) ?_
 refine .t 8 2 rfl rfl (.co 2 (cL) rfl) ?_
 refine .g 1 3 rfl ?_
 refine TE.frz 7 (slT hdv 32 ([h0, h1].map hleaf)) rfl rfl (flat_length (sz := 32) (enc := hdv) (fun _ => rfl) _) rfl ?_
 refine .t 0 3 rfl rfl (.cf (cU) rfl) ?_
 refine .t 2 3 rfl rfl (.slice rfl rfl rfl rfl rfl et52 (fun _ => rfl) (by omega) (by omega) (by show (1 : Int) ≤ ((2 : Nat) : Int); decide)) ?_
 refine .t 0 3 rfl rfl (.cc (rpath_one (([h0, h1].map hleaf).take 1) rfl) rfl) ?_
 refine .t 9 3 rfl rfl (.cf (r1) rfl) ?_
 refine .t 0 3 rfl rfl (.bv (.bool true) rfl (rfl)) ?_
 refine .t 4 3 rfl rfl (.cf (r2) rfl) ?_
 refine .t 0 3 rfl rfl (.bv (.bool true) rfl (rfl)) ?_
 refine .t 3 3 rfl rfl (.bv (.int .u64 16808) rfl (rfl)) ?_
 refine .t 3 3 rfl rfl (.cf (r3) rfl) ?_
 refine .t 0 3 rfl rfl (.bv (.bool true) rfl (rfl)) ?_
 refine .t 5 3 rfl rfl (.idx (h1) rfl rfl rfl rfl et28 (fun _ => rfl) (by decide) rfl) ?_
 refine .t 0 3 rfl rfl (.lm (h1.dv) rfl) ?_
 refine .t 0 3 rfl rfl (.cf ((rbytes_po h1 ok1).pf) rfl) ?_
 refine .t 1 3 rfl rfl (.cf (r4) rfl) ?_
 refine .t 0 3 rfl rfl (.bv (.bool true) rfl (rfl)) ?_
 refine .t 5 3 rfl rfl (.idx (h1) rfl rfl rfl rfl et28 (fun _ => rfl) (by decide) rfl) ?_
 refine .t 0 3 rfl rfl (.lm (h1.dv) rfl) ?_
 refine .t 0 3 rfl rfl (.cf ((rbytes_po h1 ok1).pf) rfl) ?_
 refine .t 0 3 rfl rfl (.cf (r5) rfl) ?_
 refine .t 0 3 rfl rfl (.bv (.bool true) rfl (rfl)) ?_
 exact .z 2 3 rfl (TE.retf rfl rfl rfl (okv rfl))
end Go.Proofs.YtdjcclcejmeheaaGreat

