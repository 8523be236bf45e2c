import Derived.Test.YtdjcclcejmeheaaGreatZGg
import Derived.Test.YtdjcclcejmeheaaGreatZJa
import Derived.Test.YtdjcclcejmeheaaGreatZGd
/-
  Laws of epochs: what known tells; the state that the laws' loops go through; which batches may not be an epoch.
-/
namespace Go.Proofs.YtdjcclcejmeheaaGreat
set_option linter.unusedVariables false
set_option linter.unusedSimpArgs false
open Go.RowKit Pl
set_option maxRecDepth 100000
theorem Pl.PC.subl {P : Program} {f : FuncId} {Xs Zs : List DV} {Y : DV} (s : SubL Zs Xs) (h : PC P f Xs Y) : PC P f Zs Y := fun w K us hK hr => h w K us hK (s K w us hr)
def e0 : En := ⟨[97], 1, 2⟩
theorem good_hs {x : Int} {ps : List Pub} (h : epsGood x ps) : ∀ g ∈ ps.map Pub.hd, g.ok := fun g hg => by
  obtain ⟨p, hp, rfl⟩ := List.mem_map.1 hg
  obtain ⟨i, hi, rfl⟩ := List.mem_iff_getElem.1 hp
  rw [(h i hi).2.1]; exact signH_ok _ _
theorem good_take {x : Int} {ps : List Pub} (h : epsGood x ps) (k : Nat) : epsGood x (ps.take k) := fun i hi => by
  rw [List.length_take] at hi
  rw [List.take_take, Nat.min_eq_left (by omega), List.getElem_take]
  exact h i (by omega)
theorem good_knlen {x : Int} {ps : List Pub} (h : epsGood x ps) : ∀ i, i ≤ ps.length → (knPs (ps.take i)).length ≤ 8 * i := fun i => by
  induction i with
  | zero => intro _; exact Nat.le_refl _
  | succ i ih =>
    intro hi
    have h1 := ih (by omega)
    have h2 := badN_no (h i (by omega)).1
    rw [take_snoc' (by omega : i < ps.length), knPs_snoc]
    have h3 := addR_len (knPs (ps.take i)) ((((ps.take i).map Pub.hd).length + 1 : Nat) : Int) ps[i].es
    show (addR _ _ _).1.length ≤ _; omega
/-- What the law's loops hold when the next epoch is looked at. -/
structure StepIn (x : Int) (kn : List Kn) (hs : List Hd) (p : Pub) (K : List Kn) (i : Nat) : Prop where
  bad : badN kn hs p.es p.hd.tk = false
  hd : p.hd = signH x (headN kn hs p.es p.hd.tk)
  es : p.es = byN p.es
  kK : K = knN kn hs p.es
  len : hs.length = i
  knl : kn.length ≤ 8 * i
  Kl : K.length ≤ 8 * (i + 1)
  chain : chainK none kn
  chainK' : chainK none K
  fit : epFit K
  ok : ∀ h ∈ hs, h.ok
  build : buildB x kn hs p.es p.hd.tk = (p, K, 0)
  esl : 1 ≤ p.es.length ∧ p.es.length ≤ 8
  esf : ∀ e ∈ p.es, enFit e
  hf : hdFit p.hd
  right : rightH p.hd = true
  rt : p.hd.root = rootH (setR (itsK ((hs.length + 1 : Nat) : Int) K) [])
  lg : p.hd.log = lroot (hs.map hleaf)
  ct : p.hd.ct = ((p.es.length : Nat) : Int)
  ep : p.hd.ep = ((hs.length + 1 : Nat) : Int)
  ok2 : p.hd.ok
theorem step_in {x : Int} {ps : List Pub} (h : epsGood x ps) (hl : ps.length ≤ 1000) {i : Nat} (hi : i < ps.length) : StepIn x (knPs (ps.take i)) ((ps.take i).map Pub.hd) ps[i] (knPs (ps.take (i + 1))) i := by
  have hs := h i hi
  obtain ⟨h1, h2, h3⟩ := hs
  have hK : knPs (ps.take (i + 1)) = knN (knPs (ps.take i)) ((ps.take i).map Pub.hd) ps[i].es := by rw [take_snoc' hi, knPs_snoc]
  have hc := knPs_chain (x := x) (ps := ps) i (by omega)
  have hc2 := knPs_chain (x := x) (ps := ps) (i + 1) (by omega)
  have hlen : ((ps.take i).map Pub.hd).length = i := by rw [List.length_map, List.length_take]; omega
  have hb := badN_no h1
  have hr := headN_right h1 (by rw [hlen]; omega)
  have hf := headN_fit h1 (by rw [hlen]; omega)
  have hb2 := good_build ⟨h1, h2, h3⟩
  rw [← take_snoc' hi] at hb2
  have ho := good_hs (good_take h i)
  obtain ⟨kn, hkn⟩ : ∃ kn, kn = knPs (ps.take i) := ⟨_, rfl⟩
  obtain ⟨q, hq⟩ : ∃ q, q = (ps.take i).map Pub.hd := ⟨_, rfl⟩
  obtain ⟨K, hKK⟩ : ∃ K, K = knPs (ps.take (i + 1)) := ⟨_, rfl⟩
  have hkl := good_knlen h i (by omega)
  have hKl := good_knlen h (i + 1) (by omega)
  obtain ⟨p, hp⟩ : ∃ p, p = ps[i] := ⟨_, rfl⟩
  simp only [← hkn, ← hq, ← hKK, ← hp] at *
  obtain ⟨g, hg⟩ : ∃ g, g = headN kn q p.es p.hd.tk := ⟨_, rfl⟩
  have e1 : g.root = rootH (setR (itsK ((q.length + 1 : Nat) : Int) (knN kn q p.es)) []) := by rw [hg]; rfl
  have e2 : g.log = lroot (q.map hleaf) := by rw [hg]; rfl
  have e3 : g.ct = ((p.es.length : Nat) : Int) := by rw [hg]; rfl
  have e4 : g.ep = ((q.length + 1 : Nat) : Int) := by rw [hg]; rfl
  have e5 := h2
  rw [← hg] at e5 hr hf
  refine ⟨h1, h2, h3, hK, hlen, hkl, hKl, hc.1, hc2.1, hc2.2 (by omega), ho, hb2, ⟨hb.2.1, hb.2.2.1⟩, bad_fit h1, ?_, ?_, ?_, ?_, ?_, ?_, ?_⟩
  · rw [e5]; exact fit_sign x hf
  · rw [e5, right_sign]; exact hr
  · rw [e5, hK]; exact e1
  · rw [e5]; exact e2
  · rw [e5]; exact e3
  · rw [e5]; exact e4
  · rw [e5]; exact signH_ok _ _
theorem StepIn.sigd {kn K : List Kn} {hs : List Hd} {p : Pub} {i : Nat} (h : StepIn 5 kn hs p K i) : checkH (pubF 5) p.hd = true := by
  have hr := h.right
  have e := h.hd
  obtain ⟨g, hg⟩ : ∃ g, g = headN kn hs p.es p.hd.tk := ⟨_, rfl⟩
  rw [← hg] at e
  rw [e] at hr ⊢
  rw [right_sign] at hr
  exact check_own' ⟨by decide, by decide⟩ hr
end Go.Proofs.YtdjcclcejmeheaaGreat
/-
  Laws of epochs: which batches may not be one; bent epochs.
-/
namespace Go.Proofs.YtdjcclcejmeheaaGreat
set_option linter.unusedVariables false
set_option linter.unusedSimpArgs false
open Go.RowKit Pl
set_option maxRecDepth 100000
theorem chain_verep : ∀ {l : List Kn} {p : Option Kn}, chainK p l → (∀ q, p = some q → 1 ≤ q.ver ∧ q.ver ≤ 1073741824 ∧ q.ver ≤ q.ep) → ∀ k ∈ l, k.ver ≤ k.ep
  | [], _, _, _ => fun k hk => by cases hk
  | x :: r, p, h, hp => fun k hk => by
    obtain ⟨h1, h2⟩ := h
    have hg := stepB_good h1
    have hv := (rightE_parts hg.1).2.1
    have hx : x.ver ≤ x.ep := by
      cases p with
      | none => rw [stepB_none h1]; exact hg.2
      | some q =>
        obtain ⟨q1, q2, q3⟩ := hp q rfl
        rcases stepB_some h1 with ⟨_, e, lt⟩ | ⟨_, _, e⟩
        · rw [i64w_small (by omega) (by omega)] at e; omega
        · rw [e]; exact hg.2
    rcases List.mem_cons.1 hk with rfl | hk
    · exact hx
    · exact chain_verep h2 (fun q hq => by injection hq with hq; subst hq; exact ⟨hv.1, hv.2, hx⟩) k hk
theorem knN_ep {kn : List Kn} {hs : List Hd} {b : List En} {m : Int} (h : ∀ k ∈ kn, k.ep ≤ m) (hm : m ≤ ((hs.length + 1 : Nat) : Int)) : ∀ k ∈ knN kn hs b, k.ep ≤ ((hs.length + 1 : Nat) : Int) := fun k hk => by
  unfold knN at hk
  rw [addR_if] at hk
  split at hk
  · rcases mem_fold.1 hk with ⟨e, _, rfl⟩ | hk
    · exact Int.le_refl _
    · exact Int.le_trans (h k hk) hm
  · exact Int.le_trans (h k hk) hm
theorem knPs_ep {ps : List Pub} : ∀ i, i ≤ ps.length → ∀ k ∈ knPs (ps.take i), k.ep ≤ (i : Int) := fun i => by
  induction i with
  | zero => intro _ k hk; cases hk
  | succ i ih =>
    intro hi k hk
    rw [take_snoc' (by omega : i < ps.length), knPs_snoc] at hk
    have hl : ((ps.take i).map Pub.hd).length = i := by rw [List.length_map, List.length_take]; omega
    have := knN_ep (m := (i : Int)) (ih (by omega)) (by rw [hl]; omega) k hk
    rw [hl] at this; exact this
/-- What is known when the seat's epochs are done. -/
structure EpsIn (s : Eps) (n : Nat) : Prop where
  hsl : s.hs.length ≤ n
  knl : s.kn.length ≤ 3 * n
  chain : chainK none s.kn
  fit : epFit s.kn
  ok : ∀ h ∈ s.hs, h.ok
  right : ∀ h ∈ s.hs, rightH h = true
  ep : ∀ k ∈ s.kn, k.ep ≤ ((s.hs.length : Nat) : Int)
  ver : ∀ nm, 0 ≤ (latR s.kn nm).1.ver ∧ (latR s.kn nm).1.ver ≤ ((s.hs.length : Nat) : Int)
theorem eps_in (l : List UInt8) (hl : l.length ≤ 1000) : EpsIn (epsR 5 l) l.length := by
  have w := epsR_well 5 l hl
  have o := epsR_ok 5 l
  have r := epsR_right 5 l hl
  have hep : ∀ k ∈ (epsR 5 l).kn, k.ep ≤ (((epsR 5 l).hs.length : Nat) : Int) := by
    have q := knPs_ep (ps := (epsR 5 l).ps) _ (Nat.le_refl _)
    rw [List.take_length, ← w.kn, o.ps] at q
    exact q
  refine ⟨o.hs, o.kn, w.chain, w.fit, fun h hh => (r h hh).2, fun h hh => (r h hh).1, hep, fun nm => ?_⟩
  rcases latR_mem (epsR 5 l).kn nm with q | q
  · rw [q]; exact ⟨Int.le_refl _, Int.natCast_nonneg _⟩
  · have h1 := chain_verep w.chain (fun q h => by cases h) _ q
    have h2 := hep _ q
    have h3 := (chain_ver w.chain _ q).1
    omega
end Go.Proofs.YtdjcclcejmeheaaGreat
/-
  The law's papers: plain values; genuine papers.
-/
namespace Go.Proofs.YtdjcclcejmeheaaGreat
set_option linter.unusedVariables false
set_option linter.unusedSimpArgs false
open Go.RowKit Pl
def paperP (e : En) (t : Int) : List UInt8 := if rightQ (makeQ 5 e t).1 = true then putQ (makeQ 5 e t).1 else []
def paperX (kn : List Kn) (h : Hd) (e : En) : Pf := mkP (indexH e.nm) (setR (setR (itsK h.ep kn) []) [])
theorem makeQ_cases (x : Int) (e : En) (t : Int) : makeQ x e t = (zeroPm, 23) ∨ makeQ x e t = (zeroPm, 31) ∨ (rightE e.nm e.ver e.key = true ∧ 0 ≤ t ∧ t ≤ 1152921504606846936 ∧ makeQ x e t = (signQ x ⟨e, t, t + 40, 0, 0⟩, 0)) := by
  by_cases h : rightE e.nm e.ver e.key = false ∨ t < 0 ∨ 1152921504606846976 < t
  · exact .inl (makeQ_form h)
  by_cases k : 1152921504606846936 < t
  · exact .inr (.inl (makeQ_clock h k))
  have h1 : rightE e.nm e.ver e.key = true := (Bool.not_eq_false _).mp (fun q => h (.inl q))
  have h2 : 0 ≤ t := Int.not_lt.1 (fun q => h (.inr (.inl q)))
  exact .inr (.inr ⟨h1, h2, Int.not_lt.1 k, makeQ_ok h1 h2 (Int.not_lt.1 k)⟩)
theorem makeQ_isok (x : Int) (e : En) (t : Int) : (makeQ x e t).1.ok := by
  rcases makeQ_cases x e t with h | h | ⟨_, _, _, h⟩ <;> rw [h]
  · exact zeroPm_ok
  · exact zeroPm_ok
  · exact signQ_ok _ _
theorem paperP_ok {e : En} {t : Int} (h : rightE e.nm e.ver e.key = true) (h0 : 0 ≤ t) (k : t ≤ 1152921504606846936) : paperP e t = putQ (signQ 5 ⟨e, t, t + 40, 0, 0⟩) := by
  unfold paperP; rw [makeQ_ok h h0 k]; exact if_pos (signQ_right h h0 k)
theorem paperP_len (e : En) (t : Int) : (paperP e t).length ≤ 89 := by
  unfold paperP
  rcases makeQ_cases 5 e t with h | h | ⟨h1, h2, h3, h⟩ <;> rw [h]
  · split
    · rename_i q; cases q
    · exact Nat.zero_le _
  · split
    · rename_i q; cases q
    · exact Nat.zero_le _
  · split
    · rw [putQ_len]; have q := (rightE_u h1).1; show 57 + e.nm.length ≤ 89; omega
    · exact Nat.zero_le _
theorem own_q {x : Int} {p : Pm} (r : rightQ p = true) : checkQ (pubF x) (signQ x p) = true := by
  have r' : rightQ (signQ x p) = true := r
  rw [checkQ_yes r']
  have q := check_own (x % 2305843009213693950) (msgQ p) (Int.emod_nonneg _ (by decide)) (Int.emod_lt_of_pos _ (by decide))
  rw [pub_mod] at q
  exact q
theorem rightP_proof (ix : H) (l : List It) : (mkP ix (setR l [])).en = 0 ∨ (mkP ix (setR l [])).en = 1 ∨ (mkP ix (setR l [])).en = 2 := by
  have h := rightF_made ix l
  have hs := mkP_short ix l
  unfold rightF at h
  rw [if_neg (by omega)] at h
  by_cases a : (mkP ix (setR l [])).en = 0
  · exact .inl a
  by_cases b : (mkP ix (setR l [])).en = 1
  · exact .inr (.inl b)
  by_cases c : (mkP ix (setR l [])).en = 2
  · exact .inr (.inr c)
  rw [if_neg a, if_neg b, if_neg c] at h; cases h
theorem read_paperX (kn : List Kn) (h : Hd) (e : En) : readP (putB (paperX kn h e)) = (paperX kn h e, 0) := by
  have q := read_put (paperX kn h e) [] (mkP_short _ _) (by have := rightP_proof (indexH e.nm) (setR (itsK h.ep kn) []); unfold paperX; omega) (by have := rightP_proof (indexH e.nm) (setR (itsK h.ep kn) []); unfold paperX; omega)
  rw [List.append_nil, if_pos rfl] at q; exact q
theorem rightQ_new {e : En} {t : Int} (h : rightE e.nm e.ver e.key = true) (h0 : 0 ≤ t) (k : t ≤ 1152921504606846936) : rightQ ⟨e, t, t + 40, 0, 0⟩ = true := by
  unfold rightQ; dsimp only; rw [h, decide_eq_true ⟨h0, k, rfl⟩]; rfl
theorem item_ix (nm : List UInt8) (v k : Int) : (itemI nm v k).ix = indexH nm := rfl
theorem item_vl (nm : List UInt8) (v k : Int) : (itemI nm v k).vl = valueH v k := rfl
theorem signQ_dl (x : Int) (p : Pm) : (signQ x p).dl = p.dl := rfl
theorem signQ_e (x : Int) (p : Pm) : (signQ x p).e = p.e := rfl
/-- The promise of the papers. -/
structure Prm (e : En) (t : Int) (p : Pm) : Prop where
  e : p.e = e
  dl : p.dl = t + 40
  chk : checkQ (pubF 5) p = true
  right : rightQ p = true
  ok : p.ok
theorem prm_new {e : En} {t : Int} (he : rightE e.nm e.ver e.key = true) (t0 : 0 ≤ t) (t1 : t ≤ 1152921504606846936) : ∃ p, p = signQ 5 ⟨e, t, t + 40, 0, 0⟩ ∧ Prm e t p := by
  obtain ⟨q, hq⟩ : ∃ q : Pm, q = ⟨e, t, t + 40, 0, 0⟩ := ⟨_, rfl⟩
  have r : rightQ q = true := by rw [hq]; exact rightQ_new he t0 t1
  have h1 : q.e = e := by rw [hq]
  have h2 : q.dl = t + 40 := by rw [hq]
  rw [← hq]
  exact ⟨_, rfl, ⟨(signQ_e 5 q).trans h1, (signQ_dl 5 q).trans h2, own_q r, r, signQ_ok 5 q⟩⟩
/-- What genuine papers come to. -/
theorem redeem_gen {kn : List Kn} {h : Hd} {e : En} {t : Int} (he : rightE e.nm e.ver e.key = true) (t0 : 0 ≤ t) (t1 : t ≤ 1152921504606846936) (hr : rightH h = true) (ho : h.ok) :
    ∃ p, p = signQ 5 ⟨e, t, t + 40, 0, 0⟩ ∧ Prm e t p ∧ ∀ y, redeemF y (paperP e t) (putH h) (putB (paperX kn h e)) = redeemG y p 0 h 0 (paperX kn h e) 0 := by
  obtain ⟨p, hp, q⟩ := prm_new he t0 t1
  refine ⟨p, hp, q, fun y => ?_⟩
  have e1 := read_putQ q.right q.ok
  have e2 := read_putH hr ho
  have e3 := read_paperX kn h e
  unfold redeemF
  rw [paperP_ok he t0 t1, ← hp, e1, e2, e3]
section
variable {kn : List Kn} {h : Hd} {e : En} {t : Int} (he : rightE e.nm e.ver e.key = true) (t0 : 0 ≤ t) (t1 : t ≤ 1152921504606846936) (hr : rightH h = true) (ho : h.ok) (hc : checkH (pubF 5) h = true) (hroot : h.root = rootH (setR (itsK h.ep kn) []))
include he t0 t1 hr ho hc
include hroot
theorem redeem_mine (hl : ¬ t + 40 < h.tk) (hm : itemI e.nm e.ver e.key ∈ setR (itsK h.ep kn) []) : redeemF (pubF 5) (paperP e t) (putH h) (putB (paperX kn h e)) = 0 := by
  have hs : Str (setR (itsK h.ep kn) []) := setR_str _ _
  have ex : paperX kn h e = mkP (indexH e.nm) (setR (itsK h.ep kn) []) := by unfold paperX; rw [setR_self hs]
  have hv : checkV h.root (indexH e.nm) (paperX kn h e) = (valueH e.ver e.key, true, true) := by
    have q := check_mine hs hm
    rw [item_ix, item_vl] at q
    rw [ex, hroot]; exact q
  obtain ⟨p, _, q, hg⟩ := redeem_gen (kn := kn) he t0 t1 hr ho
  rw [hg]
  exact redeemG_ok rfl rfl rfl q.chk hc (by rw [q.dl]; exact hl) (v := valueH e.ver e.key) (by rw [q.e]; exact hv) (by rw [q.e])
theorem redeem_other (hl : ¬ t + 40 < h.tk) (hm : ∀ v, checkV h.root (indexH e.nm) (mkP (indexH e.nm) (setR (itsK h.ep kn) [])) = (v, true, true) → ¬ H.l v = H.l (valueH e.ver e.key)) : redeemF (pubF 5) (paperP e t) (putH h) (putB (paperX kn h e)) = 37 := by
  have hs : Str (setR (itsK h.ep kn) []) := setR_str _ _
  have ex : paperX kn h e = mkP (indexH e.nm) (setR (itsK h.ep kn) []) := by unfold paperX; rw [setR_self hs]
  obtain ⟨v, hv⟩ := check_anyX hs (indexH e.nm)
  rw [← hroot] at hv
  obtain ⟨p, _, q, hg⟩ := redeem_gen (kn := kn) he t0 t1 hr ho
  rw [hg]
  refine redeemG_proof rfl rfl rfl q.chk hc (by rw [q.dl]; exact hl) (v := v) (by rw [q.e, ex]; exact hv) ?_
  by_cases z : thereB (indexH e.nm) (setR (itsK h.ep kn) []) = true
  · exact .inr (.inr (by rw [q.e]; exact hm v (by rw [hv, z])))
  · exact .inr (.inl (Bool.eq_false_iff.2 z))
end
end Go.Proofs.YtdjcclcejmeheaaGreat

