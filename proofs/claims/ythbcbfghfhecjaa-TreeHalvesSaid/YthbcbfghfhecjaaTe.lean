/-
  Tags of lumps, as contracts of data.
-/
import Derived.Test.YthbcbfghfhecjaaB3
import Derived.Test.YthbcbfghfhecjaaTd
import Derived.Test.YthbcbfghfhecjaaPs
namespace Go.Proofs.Ythbcbfghfhecjaa
set_option linter.unusedVariables false
set_option linter.unusedSimpArgs false
open Go.RowKit Pl

theorem flat_one_get {α : Type} (f : α → DV) : ∀ (xs : List α) (i : Nat), (xs.flatMap (fun x => [f x]))[i]? = (xs[i]?).map f
  | [], i => by simp
  | x :: r, 0 => rfl
  | x :: r, i + 1 => by simpa using flat_one_get f r i
theorem rd_of_rep {w : World} {v : Value} {l : List UInt8} (h : (slT bdv 1 l).rep noK w v) : Rd w v l := by
  unfold slT DV.rep at h
  rcases h with ⟨rfl, h, _⟩ | ⟨b, o, c, rfl, h1, h2, h3, h4, h5⟩
  · exact .inl ⟨rfl, List.eq_nil_of_length_eq_zero h⟩
  · refine .inr ⟨b, o, c, rfl, h1, h2, fun i hi => ?_⟩
    obtain ⟨u, k1, k2, k3⟩ := repAt_get h5 (i := i) (X := .v (.int .u8 l[i].toNat)) (by
      have := flat_one_get (fun b : UInt8 => DV.v (.int .u8 b.toNat)) l i
      rw [List.getElem?_eq_getElem hi] at this
      exact this)
    unfold DV.rep at k3; subst k3
    exact k1
def ldv (l : List UInt8) : List DV := [slT bdv 1 l]
theorem rdl_of_rep {w : World} {v : Value} {ls : List (List UInt8)} (h : (slT ldv 1 ls).rep noK w v) : RdL w v ls := by
  unfold slT DV.rep at h
  rcases h with ⟨rfl, h, _⟩ | ⟨b, o, c, rfl, h1, h2, h3, h4, h5⟩
  · exact .inl ⟨rfl, List.eq_nil_of_length_eq_zero h⟩
  · refine .inr ⟨b, o, c, rfl, h1, h2, fun i hi => ?_⟩
    obtain ⟨u, k1, k2, k3⟩ := repAt_get h5 (i := i) (X := slT bdv 1 ls[i]) (by
      have := flat_one_get (fun l : List UInt8 => slT bdv 1 l) ls i
      rw [List.getElem?_eq_getElem hi] at this
      exact this)
    exact ⟨u, k1, rd_of_rep k3⟩
def ofL (l : List UInt8) : H := fun i => l.getD i.val 0
theorem ofL_l {l : List UInt8} (h : l.length = 32) : H.l (ofL l) = l := by
  apply List.ext_getElem?
  intro i
  by_cases hi : i < 32
  · rw [show i = (⟨i, hi⟩ : Fin 32).val from rfl, H.l_get]
    simp [ofL, List.getD, List.getElem?_eq_getElem (show i < l.length by omega)]
  · rw [List.getElem?_eq_none (by rw [H.l_len]; omega), List.getElem?_eq_none (by omega)]
theorem ofL_H (h : H) : ofL (H.l h) = h := H.l_inj (ofL_l (H.l_len h))
theorem hash_rep {K : Nat → Prop} {w : World} {l : List UInt8} (h : l.length = 32) : (DV.ag (hdv (ofL l))).rep K w (hashV l) := by
  unfold DV.rep
  refine ⟨bvs l, rfl, ?_⟩
  unfold hdv
  rw [ofL_l h]
  clear h
  induction l with
  | nil => simp [repL, bvs]
  | cons x r ih =>
    show repL K w (DV.v (.int .u8 x.toNat) :: r.flatMap bdv) (bv x :: bvs r)
    unfold repL
    exact ⟨_, _, rfl, by unfold DV.rep; rfl, ih⟩
theorem pf_tag {P : Program} {f : FuncId} {tag : Int} {ls : List (List UInt8)} {h : List UInt8} (hl : h.length = 32) (hc : ∀ v w, RdL w v ls → Calls P f #[.int .u8 tag, v] w fun e w' => e = .returned (hashV h) ∧ Below w.heap.size w w') : PF P f [.v (.int .u8 tag), slT ldv 1 ls] (.ag (hdv (ofL h))) := fun w us hr => by
  unfold repL at hr
  obtain ⟨u, t, rfl, r1, hr⟩ := hr
  unfold repL at hr
  obtain ⟨v, t', rfl, r2, hr⟩ := hr
  unfold repL at hr; subst hr
  unfold DV.rep at r1; subst r1
  exact (hc v w (rdl_of_rep r2)).mono fun e w' ⟨h1, h2⟩ => ⟨_, h1, h2, fun K _ => hash_rep hl⟩
/-- A tag of lumps. -/
def tagH (tag : Int) (ls : List (List UInt8)) : H := ofL (sumB (textB tag ls))
theorem tag_pf (tag : Int) (ls : List (List UInt8)) (h0 : 0 ≤ tag) (h1 : tag < 256) (hl : textLen ls ≤ 549755813888) : PF Try.prog 39 [.v (.int .u8 tag), slT ldv 1 ls] (.ag (hdv (tagH tag ls))) := pf_tag (sumB_length _) fun v w hv => tag_any tag v ls w h0 h1 hv hl
theorem rtag_pf (tag : Int) (ls : List (List UInt8)) (h0 : 0 ≤ tag) (h1 : tag < 256) (hl : textLen ls ≤ 549755813888) : PF Try.prog 40 [.v (.int .u8 tag), slT ldv 1 ls] (.ag (hdv (tagH tag ls))) := pf_tag (sumB_length _) fun v w hv => rtag_any tag v ls w h0 h1 hv hl
end Go.Proofs.Ythbcbfghfhecjaa
