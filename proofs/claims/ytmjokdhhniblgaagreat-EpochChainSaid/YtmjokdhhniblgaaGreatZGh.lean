import Derived.Test.YtmjokdhhniblgaaGreatZGg
/-
  Laws of epochs: what known tells; the state that the laws' loops go through; which batches may not be an epoch.
-/
namespace Go.Proofs.YtmjokdhhniblgaaGreat
set_option linter.unusedVariables false
set_option linter.unusedSimpArgs false
open Go.RowKit Pl
set_option maxRecDepth 100000
theorem Pl.PC.subl {P : Program} {f : FuncId} {Xs Zs : List DV} {Y : DV} (s : SubL Zs Xs) (h : PC P f Xs Y) : PC P f Zs Y := fun w K us hK hr => h w K us hK (s K w us hr)
def e0 : En := ⟨[97], 1, 2⟩
theorem e0_good : badN [] [] [e0] 4 = false := by decide +kernel
theorem e0_kn : knN [] [] [e0] = [⟨[97], 1, 2, 1⟩] := by kernel_rfl
theorem bad_nil (kn : List Kn) (hs : List Hd) (tk : Int) : badN kn hs [] tk = true := by
  unfold badN; simp
theorem build_bad {x : Int} {kn : List Kn} {hs : List Hd} {b : List En} {tk : Int} (h : badN kn hs b tk = true) : buildB x kn hs b tk = (zeroPub, [], 23) := if_pos h
theorem build_good {x : Int} {kn : List Kn} {hs : List Hd} {b : List En} {tk : Int} (h : badN kn hs b tk = false) : buildB x kn hs b tk = (⟨signH x (headN kn hs b tk), byN b⟩, knN kn hs b, 0) := if_neg (by rw [h]; simp)
theorem e0_build : buildB 5 [] [] [e0] 4 = (⟨signH 5 (headN [] [] [e0] 4), [e0]⟩, [⟨[97], 1, 2, 1⟩], 0) := by
  rw [build_good e0_good, e0_kn]; rfl
theorem e0_check : checkV (pubF 5) [] [] ⟨signH 5 (headN [] [] [e0] 4), [e0]⟩ = ([⟨[97], 1, 2, 1⟩], true) := by
  have hr := headN_right e0_good (by decide)
  have hc : okC (pubF 5) [] [] ⟨signH 5 (headN [] [] [e0] 4), [e0]⟩ := by
    obtain ⟨g, hg⟩ : ∃ g, g = headN [] [] [e0] 4 := ⟨_, rfl⟩
    have ht : g.tk = 4 := by rw [hg]; rfl
    rw [← hg] at hr ⊢
    refine ⟨?_, rfl, check_own' ⟨by decide, by decide⟩ hr, ?_⟩
    · show badN [] [] [e0] (signH 5 g).tk = false
      rw [sign_tk, ht]; exact e0_good
    · show ({ headN [] [] [e0] (signH 5 g).tk with r := _, s := _ } : Hd) = _
      rw [sign_tk, ht, ← hg]; rfl
  rw [checkV_yes hc]
  show (knN [] [] [e0], true) = _
  rw [e0_kn]
theorem good_hs {x : Int} {ps : List Pub} (h : epsGood x ps) : ∀ g ∈ ps.map Pub.hd, g.ok := fun g hg => by
  obtain ⟨p, hp, rfl⟩ := List.mem_map.1 hg
  obtain ⟨i, hi, rfl⟩ := List.mem_iff_getElem.1 hp
  rw [(h i hi).2.1]; exact signH_ok _ _
theorem good_take {x : Int} {ps : List Pub} (h : epsGood x ps) (k : Nat) : epsGood x (ps.take k) := fun i hi => by
  rw [List.length_take] at hi
  rw [List.take_take, Nat.min_eq_left (by omega), List.getElem_take]
  exact h i (by omega)
theorem good_knlen {x : Int} {ps : List Pub} (h : epsGood x ps) : ∀ i, i ≤ ps.length → (knPs (ps.take i)).length ≤ 8 * i := fun i => by
  induction i with
  | zero => intro _; exact Nat.le_refl _
  | succ i ih =>
    intro hi
    have h1 := ih (by omega)
    have h2 := badN_no (h i (by omega)).1
    rw [take_snoc' (by omega : i < ps.length), knPs_snoc]
    have h3 := addR_len (knPs (ps.take i)) ((((ps.take i).map Pub.hd).length + 1 : Nat) : Int) ps[i].es
    show (addR _ _ _).1.length ≤ _; omega
/-- What the law's loops hold when the next epoch is looked at. -/
structure StepIn (x : Int) (kn : List Kn) (hs : List Hd) (p : Pub) (K : List Kn) (i : Nat) : Prop where
  bad : badN kn hs p.es p.hd.tk = false
  hd : p.hd = signH x (headN kn hs p.es p.hd.tk)
  es : p.es = byN p.es
  kK : K = knN kn hs p.es
  len : hs.length = i
  knl : kn.length ≤ 8 * i
  Kl : K.length ≤ 8 * (i + 1)
  chain : chainK none kn
  chainK' : chainK none K
  fit : epFit K
  ok : ∀ h ∈ hs, h.ok
  build : buildB x kn hs p.es p.hd.tk = (p, K, 0)
  esl : 1 ≤ p.es.length ∧ p.es.length ≤ 8
  esf : ∀ e ∈ p.es, enFit e
  hf : hdFit p.hd
  right : rightH p.hd = true
  rt : p.hd.root = rootH (setR (itsK ((hs.length + 1 : Nat) : Int) K) [])
  lg : p.hd.log = lroot (hs.map hleaf)
  ct : p.hd.ct = ((p.es.length : Nat) : Int)
  ep : p.hd.ep = ((hs.length + 1 : Nat) : Int)
  ok2 : p.hd.ok
theorem step_in {x : Int} {ps : List Pub} (h : epsGood x ps) (hl : ps.length ≤ 1000) {i : Nat} (hi : i < ps.length) : StepIn x (knPs (ps.take i)) ((ps.take i).map Pub.hd) ps[i] (knPs (ps.take (i + 1))) i := by
  have hs := h i hi
  obtain ⟨h1, h2, h3⟩ := hs
  have hK : knPs (ps.take (i + 1)) = knN (knPs (ps.take i)) ((ps.take i).map Pub.hd) ps[i].es := by rw [take_snoc' hi, knPs_snoc]
  have hc := knPs_chain (x := x) (ps := ps) i (by omega)
  have hc2 := knPs_chain (x := x) (ps := ps) (i + 1) (by omega)
  have hlen : ((ps.take i).map Pub.hd).length = i := by rw [List.length_map, List.length_take]; omega
  have hb := badN_no h1
  have hr := headN_right h1 (by rw [hlen]; omega)
  have hf := headN_fit h1 (by rw [hlen]; omega)
  have hb2 := good_build ⟨h1, h2, h3⟩
  rw [← take_snoc' hi] at hb2
  have ho := good_hs (good_take h i)
  obtain ⟨kn, hkn⟩ : ∃ kn, kn = knPs (ps.take i) := ⟨_, rfl⟩
  obtain ⟨q, hq⟩ : ∃ q, q = (ps.take i).map Pub.hd := ⟨_, rfl⟩
  obtain ⟨K, hKK⟩ : ∃ K, K = knPs (ps.take (i + 1)) := ⟨_, rfl⟩
  have hkl := good_knlen h i (by omega)
  have hKl := good_knlen h (i + 1) (by omega)
  obtain ⟨p, hp⟩ : ∃ p, p = ps[i] := ⟨_, rfl⟩
  simp only [← hkn, ← hq, ← hKK, ← hp] at *
  obtain ⟨g, hg⟩ : ∃ g, g = headN kn q p.es p.hd.tk := ⟨_, rfl⟩
  have e1 : g.root = rootH (setR (itsK ((q.length + 1 : Nat) : Int) (knN kn q p.es)) []) := by rw [hg]; rfl
  have e2 : g.log = lroot (q.map hleaf) := by rw [hg]; rfl
  have e3 : g.ct = ((p.es.length : Nat) : Int) := by rw [hg]; rfl
  have e4 : g.ep = ((q.length + 1 : Nat) : Int) := by rw [hg]; rfl
  have e5 := h2
  rw [← hg] at e5 hr hf
  refine ⟨h1, h2, h3, hK, hlen, hkl, hKl, hc.1, hc2.1, hc2.2 (by omega), ho, hb2, ⟨hb.2.1, hb.2.2.1⟩, bad_fit h1, ?_, ?_, ?_, ?_, ?_, ?_, ?_⟩
  · rw [e5]; exact fit_sign x hf
  · rw [e5, right_sign]; exact hr
  · rw [e5, hK]; exact e1
  · rw [e5]; exact e2
  · rw [e5]; exact e3
  · rw [e5]; exact e4
  · rw [e5]; exact signH_ok _ _
theorem StepIn.check {kn K : List Kn} {hs : List Hd} {p : Pub} {i : Nat} (h : StepIn 5 kn hs p K i) : checkV (pubF 5) kn hs p = (K, true) := by
  have hc : okC (pubF 5) kn hs p := by
    refine ⟨h.bad, h.es, ?_, ?_⟩
    · have hr := h.right
      have e := h.hd
      obtain ⟨g, hg⟩ : ∃ g, g = headN kn hs p.es p.hd.tk := ⟨_, rfl⟩
      rw [← hg] at e
      rw [e] at hr ⊢
      rw [right_sign] at hr
      exact check_own' ⟨by decide, by decide⟩ hr
    · have e := h.hd
      obtain ⟨g, hg⟩ : ∃ g, g = headN kn hs p.es p.hd.tk := ⟨_, rfl⟩
      rw [← hg] at e ⊢
      rw [e]; rfl
  rw [checkV_yes hc, ← h.kK]
theorem StepIn.sigd {kn K : List Kn} {hs : List Hd} {p : Pub} {i : Nat} (h : StepIn 5 kn hs p K i) : checkH (pubF 5) p.hd = true := by
  have hr := h.right
  have e := h.hd
  obtain ⟨g, hg⟩ : ∃ g, g = headN kn hs p.es p.hd.tk := ⟨_, rfl⟩
  rw [← hg] at e
  rw [e] at hr ⊢
  rw [right_sign] at hr
  exact check_own' ⟨by decide, by decide⟩ hr
theorem StepIn.again {kn K : List Kn} {hs : List Hd} {p : Pub} {i : Nat} (h : StepIn 5 kn hs p K i) (y : Int) : checkV y K (hs ++ [p.hd]) p = ([], false) := checkV_no (check_not (kn := kn) h.ep)
theorem StepIn.strict {x : Int} {kn K : List Kn} {hs : List Hd} {p : Pub} {i : Nat} (h : StepIn x kn hs p K i) {j : Nat} (h1 : 1 ≤ j) (hj : j < p.es.length) : Op.bytesLess (p.es[j - 1]'(by omega)).nm p.es[j].nm = true := by
  have hd := (bad_ok h.bad).2
  have hl : (byN p.es).length = p.es.length := byN_len _
  have q := strict_by hd (i := j - 1) (j := j) (by omega) (by omega)
  have e := h.es
  have a1 : (byN p.es)[j - 1]'(by omega) = p.es[j - 1]'(by omega) := by congr 1; exact e.symm
  have a2 : (byN p.es)[j]'(by omega) = p.es[j] := by congr 1; exact e.symm
  rw [a1, a2] at q
  exact q
end Go.Proofs.YtmjokdhhniblgaaGreat

