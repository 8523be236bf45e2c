import Derived.Test.YtmjokdhhniblgaaGreatYGg
import Derived.Test.YtmjokdhhniblgaaGreatYHt
import Derived.Test.YtmjokdhhniblgaaGreatYEv
/-
  Laws of epochs: what known tells; the state that the laws' loops go through; which batches may not be an epoch.
-/
namespace Go.Proofs.YtmjokdhhniblgaaGreat
set_option linter.unusedVariables false
set_option linter.unusedSimpArgs false
open Go.RowKit Pl
set_option maxRecDepth 100000
theorem Pl.PC.subl {P : Program} {f : FuncId} {Xs Zs : List DV} {Y : DV} (s : SubL Zs Xs) (h : PC P f Xs Y) : PC P f Zs Y := fun w K us hK hr => h w K us hK (s K w us hr)
def e0 : En := ⟨[97], 1, 2⟩
theorem e0_good : badN [] [] [e0] 4 = false := by decide +kernel
theorem e0_kn : knN [] [] [e0] = [⟨[97], 1, 2, 1⟩] := by kernel_rfl
theorem bad_nil (kn : List Kn) (hs : List Hd) (tk : Int) : badN kn hs [] tk = true := by
  unfold badN; simp
theorem build_bad {x : Int} {kn : List Kn} {hs : List Hd} {b : List En} {tk : Int} (h : badN kn hs b tk = true) : buildB x kn hs b tk = (zeroPub, [], 23) := if_pos h
theorem build_good {x : Int} {kn : List Kn} {hs : List Hd} {b : List En} {tk : Int} (h : badN kn hs b tk = false) : buildB x kn hs b tk = (⟨signH x (headN kn hs b tk), byN b⟩, knN kn hs b, 0) := if_neg (by rw [h]; simp)
theorem e0_build : buildB 5 [] [] [e0] 4 = (⟨signH 5 (headN [] [] [e0] 4), [e0]⟩, [⟨[97], 1, 2, 1⟩], 0) := by
  rw [build_good e0_good, e0_kn]; rfl
theorem e0_check : checkV (pubF 5) [] [] ⟨signH 5 (headN [] [] [e0] 4), [e0]⟩ = ([⟨[97], 1, 2, 1⟩], true) := by
  have hr := headN_right e0_good (by decide)
  have hc : okC (pubF 5) [] [] ⟨signH 5 (headN [] [] [e0] 4), [e0]⟩ := by
    obtain ⟨g, hg⟩ : ∃ g, g = headN [] [] [e0] 4 := ⟨_, rfl⟩
    have ht : g.tk = 4 := by rw [hg]; rfl
    rw [← hg] at hr ⊢
    refine ⟨?_, rfl, check_own' ⟨by decide, by decide⟩ hr, ?_⟩
    · show badN [] [] [e0] (signH 5 g).tk = false
      rw [sign_tk, ht]; exact e0_good
    · show ({ headN [] [] [e0] (signH 5 g).tk with r := _, s := _ } : Hd) = _
      rw [sign_tk, ht, ← hg]; rfl
  rw [checkV_yes hc]
  show (knN [] [] [e0], true) = _
  rw [e0_kn]
end Go.Proofs.YtmjokdhhniblgaaGreat
/-
  EpochRoots.
-/
namespace Go.Proofs.YtmjokdhhniblgaaGreat
set_option linter.unusedVariables false
set_option linter.unusedSimpArgs false
open Go.RowKit Pl
set_option maxRecDepth 100000
set_option maxHeartbeats 3200000
theorem et32 : elt Tryz.prog 32 = some (48, 70) := by kernel_rfl
theorem eknown_pf : PF Tryz.prog 7 [] (.v (.bool true)) := by
 obtain ⟨sg, hsg⟩ : ∃ sg, sg = signH 5 (headN [] [] [e0] 4) := ⟨_, rfl⟩
 have so : sg.ok := by rw [hsg]; exact signH_ok _ _
 have sf : hdFit sg := by rw [hsg]; exact fit_sign 5 (headN_fit e0_good (by decide))
 have se : sg.ep = 1 := by rw [hsg]; rfl
 have sc : sg.ct = 1 := by rw [hsg]; rfl
 have c1 : PC Tryz.prog 12 [.v (.int .u64 5), .v (.slice none 0 0), .v (.slice none 0 0), slT En.dv 3 ([e0]), .v (.int .i64 4)] (.tp [.ag (Pub.dv ⟨sg, [e0]⟩), slT Kn.dv 4 ([⟨[97], 1, 2, 1⟩]), .v (.int .i64 0)]) := by have q := build_pc 5 ⟨by decide, by decide⟩ [] [] [e0] 4 (by decide) (by decide) (by decide) trivial (fun h hh => by cases hh); rw [e0_build, ← hsg] at q; exact .subl (subL_cons (fun _ _ _ h => h) (subL_cons (nil_sub _ _) (subL_cons (nil_sub _ _) (fun _ _ _ h => h)))) q
 have c2 : PC Tryz.prog 17 [.v (.int .u64 (pubF 5)), .v (.slice none 0 0), .v (.slice none 0 0), .ag (Pub.dv ⟨sg, [e0]⟩)] (.tp [slT Kn.dv 4 ([⟨[97], 1, 2, 1⟩]), .v (.bool true)]) := by have q := check_pc (pubF 5) ⟨(pubF_bd 5).1, Int.lt_trans (pubF_bd 5).2 (by decide)⟩ [] [] ⟨sg, [e0]⟩ (by decide) (by decide) (show 1 ≤ 1000 by decide) trivial (fun h hh => by cases hh) sf; rw [hsg, e0_check, ← hsg] at q; exact .subl (subL_cons (fun _ _ _ h => h) (subL_cons (nil_sub _ _) (subL_cons (nil_sub _ _) (fun _ _ _ h => h)))) q
 have c3 : PC Tryz.prog 12 [.v (.int .u64 5), .v (.slice none 0 0), .v (.slice none 0 0), .v (.slice none 0 0), .v (.int .i64 4)] (.tp [.ag zeroPub.dv, slT Kn.dv 4 ([]), .v (.int .i64 23)]) := by have q := build_pc 5 ⟨by decide, by decide⟩ [] [] [] 4 (by decide) (by decide) (by decide) trivial (fun h hh => by cases hh); rw [build_bad (bad_nil _ _ _)] at q; exact .subl (subL_cons (fun _ _ _ h => h) (subL_cons (nil_sub _ _) (subL_cons (nil_sub _ _) (subL_cons (nil_sub _ _) (fun _ _ _ h => h))))) q
 have c4 := leaves_po [sg] (show 1 ≤ 1048576 by decide) (fun h hh => by rw [List.mem_singleton] at hh; subst hh; exact so)
 clear hsg
 refine PF.enter (fn := Tryz.f7) Tryz.func7 rfl Tryz.ntmps7 rfl (fun w0 => .w ?_)
 refine .t 1 1 rfl rfl (.bd (e0.dv) rfl) ?_
 refine .t 0 1 rfl rfl (.ba 1 rfl) ?_
 refine TE.frz 11 (slT En.dv 3 ([e0])) rfl rfl rfl rfl ?_
 refine .t 0 2 rfl rfl (.cc (c1) rfl) ?_
 refine .d 8 2 rfl ?_
 refine .v 0 3 [] rfl rfl (fun _ _ => .cf (rpub_pf 5 ⟨by decide, by decide⟩) rfl) ?_
 refine .v 0 3 [2] rfl rfl (fun _ _ => .lp (Pub.dv ⟨sg, [e0]⟩) rfl) ?_
 refine .v 0 3 [] rfl rfl (fun _ _ => .cc (c2) rfl) ?_
 refine .y 5 3 rfl (by kernel_rfl) ?_
 refine .t 0 3 rfl rfl (.cc (c3) rfl) ?_
 refine .t 9 3 rfl rfl (.bv (.bool true) rfl (rfl)) ?_
 refine .t 3 4 rfl rfl (.bv (.bool true) rfl (rfl)) ?_
 refine .t 5 4 rfl rfl (.bv (.bool true) rfl (congrArg Value.bool (decide_eq_true (se)))) ?_
 refine .t 5 4 rfl rfl (.bv (.bool true) rfl (congrArg Value.bool (decide_eq_true (sc)))) ?_
 refine .t 7 4 rfl rfl (.bv (.bool true) rfl (rfl)) ?_
 refine .t 3 4 rfl rfl (.bv (.bool true) rfl (rfl)) ?_
 refine .t 3 4 rfl rfl (.lp (sg.dv) rfl) ?_
 refine .t 0 4 rfl rfl (.bb ([sg].flatMap Hd.dv) 4 rfl) ?_
 refine .t 0 5 rfl rfl (.callo 5 rfl rfl cf20 rfl ⟨okA_c rfl rfl, trivial⟩ (c4)) ?_
 refine .t 1 6 rfl rfl (.bv (.bool true) rfl (rfl)) ?_
 exact .z 2 6 rfl (TE.retf rfl rfl rfl (okv rfl))
end Go.Proofs.YtmjokdhhniblgaaGreat
/-
  Laws of epochs: which batches may not be one; bent epochs.
-/
namespace Go.Proofs.YtmjokdhhniblgaaGreat
set_option linter.unusedVariables false
set_option linter.unusedSimpArgs false
open Go.RowKit Pl
set_option maxRecDepth 100000
theorem chain_verep : ∀ {l : List Kn} {p : Option Kn}, chainK p l → (∀ q, p = some q → 1 ≤ q.ver ∧ q.ver ≤ 1073741824 ∧ q.ver ≤ q.ep) → ∀ k ∈ l, k.ver ≤ k.ep
  | [], _, _, _ => fun k hk => by cases hk
  | x :: r, p, h, hp => fun k hk => by
    obtain ⟨h1, h2⟩ := h
    have hg := stepB_good h1
    have hv := (rightE_parts hg.1).2.1
    have hx : x.ver ≤ x.ep := by
      cases p with
      | none => rw [stepB_none h1]; exact hg.2
      | some q =>
        obtain ⟨q1, q2, q3⟩ := hp q rfl
        rcases stepB_some h1 with ⟨_, e, lt⟩ | ⟨_, _, e⟩
        · rw [i64w_small (by omega) (by omega)] at e; omega
        · rw [e]; exact hg.2
    rcases List.mem_cons.1 hk with rfl | hk
    · exact hx
    · exact chain_verep h2 (fun q hq => by injection hq with hq; subst hq; exact ⟨hv.1, hv.2, hx⟩) k hk
theorem knN_ep {kn : List Kn} {hs : List Hd} {b : List En} {m : Int} (h : ∀ k ∈ kn, k.ep ≤ m) (hm : m ≤ ((hs.length + 1 : Nat) : Int)) : ∀ k ∈ knN kn hs b, k.ep ≤ ((hs.length + 1 : Nat) : Int) := fun k hk => by
  unfold knN at hk
  rw [addR_if] at hk
  split at hk
  · rcases mem_fold.1 hk with ⟨e, _, rfl⟩ | hk
    · exact Int.le_refl _
    · exact Int.le_trans (h k hk) hm
  · exact Int.le_trans (h k hk) hm
theorem knPs_ep {ps : List Pub} : ∀ i, i ≤ ps.length → ∀ k ∈ knPs (ps.take i), k.ep ≤ (i : Int) := fun i => by
  induction i with
  | zero => intro _ k hk; cases hk
  | succ i ih =>
    intro hi k hk
    rw [take_snoc' (by omega : i < ps.length), knPs_snoc] at hk
    have hl : ((ps.take i).map Pub.hd).length = i := by rw [List.length_map, List.length_take]; omega
    have := knN_ep (m := (i : Int)) (ih (by omega)) (by rw [hl]; omega) k hk
    rw [hl] at this; exact this
/-- What is known when the seat's epochs are done. -/
structure EpsIn (s : Eps) (n : Nat) : Prop where
  hsl : s.hs.length ≤ n
  knl : s.kn.length ≤ 3 * n
  chain : chainK none s.kn
  fit : epFit s.kn
  ok : ∀ h ∈ s.hs, h.ok
  right : ∀ h ∈ s.hs, rightH h = true
  ep : ∀ k ∈ s.kn, k.ep ≤ ((s.hs.length : Nat) : Int)
  ver : ∀ nm, 0 ≤ (latR s.kn nm).1.ver ∧ (latR s.kn nm).1.ver ≤ ((s.hs.length : Nat) : Int)
theorem eps_in (l : List UInt8) (hl : l.length ≤ 1000) : EpsIn (epsR 5 l) l.length := by
  have w := epsR_well 5 l hl
  have o := epsR_ok 5 l
  have r := epsR_right 5 l hl
  have hep : ∀ k ∈ (epsR 5 l).kn, k.ep ≤ (((epsR 5 l).hs.length : Nat) : Int) := by
    have q := knPs_ep (ps := (epsR 5 l).ps) _ (Nat.le_refl _)
    rw [List.take_length, ← w.kn, o.ps] at q
    exact q
  refine ⟨o.hs, o.kn, w.chain, w.fit, fun h hh => (r h hh).2, fun h hh => (r h hh).1, hep, fun nm => ?_⟩
  rcases latR_mem (epsR 5 l).kn nm with q | q
  · rw [q]; exact ⟨Int.le_refl _, Int.natCast_nonneg _⟩
  · have h1 := chain_verep w.chain (fun q h => by cases h) _ q
    have h2 := hep _ q
    have h3 := (chain_ver w.chain _ q).1
    omega
def lastT (hs : List Hd) : Int := (hs.getLastD zeroHd).tk
theorem lastT_bd {s : Eps} {n : Nat} (h : EpsIn s n) : 0 ≤ lastT s.hs ∧ lastT s.hs ≤ 1152921504606846976 := by
  unfold lastT
  rw [List.getLastD_eq_getLast?]
  cases e : s.hs.getLast? with
  | none => exact ⟨by decide, by decide⟩
  | some g =>
    have := h.right g (List.mem_of_getLast? e)
    unfold rightH at this; simp only [decide_eq_true_eq] at this
    show 0 ≤ g.tk ∧ g.tk ≤ _
    omega
theorem zp_fit : hdFit zeroPub.hd := ⟨⟨by decide, by decide⟩, ⟨by decide, by decide⟩, ⟨by decide, by decide⟩, ⟨⟨by decide, by decide⟩, ⟨by decide, by decide⟩⟩⟩
end Go.Proofs.YtmjokdhhniblgaaGreat
/-
  EpochForms.
-/
namespace Go.Proofs.YtmjokdhhniblgaaGreat
set_option linter.unusedVariables false
set_option linter.unusedSimpArgs false
open Go.RowKit Pl
set_option maxRecDepth 100000
set_option maxHeartbeats 3200000
end Go.Proofs.YtmjokdhhniblgaaGreat

