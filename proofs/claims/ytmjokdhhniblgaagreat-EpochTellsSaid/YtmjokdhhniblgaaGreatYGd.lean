import Derived.Test.YtmjokdhhniblgaaGreatYGc
import Derived.Test.YtmjokdhhniblgaaGreatYOq
/-
  Aggregates compared, in general; heads compared; what comes in as a head; what is known of a head; bent heads: the plain values.
-/
namespace Go.Proofs.YtmjokdhhniblgaaGreat
set_option linter.unusedVariables false
set_option linter.unusedSimpArgs false
open Go.RowKit Pl
set_option maxRecDepth 100000
/-- Cells that are compared leaf by leaf. -/
def Fit (ks : List LK) (cs : List DV) : Prop := ∃ us l, vals cs = some us ∧ lits ks us = some l
theorem vals_inj : ∀ {cs ds : List DV} {us : List Value}, vals cs = some us → vals ds = some us → cs = ds
  | [], [], _, _, _ => rfl
  | [], D :: ds, us, h, k => by
    cases h
    cases D with
    | v u => simp only [vals] at k; cases hr : vals ds <;> rw [hr] at k <;> cases k
    | _ => cases k
  | X :: cs, ds, us, h, k => by
    cases X with
    | v u =>
      simp only [vals] at h
      cases hr : vals cs with
      | none => rw [hr] at h; cases h
      | some l =>
        rw [hr] at h; cases h
        cases ds with
        | nil => cases k
        | cons D ds =>
          cases D with
          | v w =>
            simp only [vals] at k
            cases hd : vals ds with
            | none => rw [hd] at k; cases k
            | some m =>
              rw [hd] at k
              simp only [Option.map_some, Option.some.injEq, List.cons.injEq] at k
              obtain ⟨rfl, rfl⟩ := k
              rw [vals_inj hr hd]
          | _ => cases k
    | _ => cases h
theorem fit_nil : Fit [] [] := ⟨[], [], rfl, rfl⟩
theorem fit_cons {k : LK} {u : Value} {x : Lit} (h : k.lit u = some x) {ks : List LK} {cs : List DV} (t : Fit ks cs) : Fit (k :: ks) (.v u :: cs) := by
  obtain ⟨us, l, h1, h2⟩ := t
  exact ⟨u :: us, x :: l, by simp only [vals, h1, Option.map_some], by simp only [lits, h, h2]⟩
theorem fit_i64 {n : Int} (h : -9223372036854775808 ≤ n ∧ n < 9223372036854775808) {ks : List LK} {cs : List DV} (t : Fit ks cs) : Fit (.i .i64 :: ks) (.v (.int .i64 n) :: cs) := fit_cons (k := .i .i64) (u := .int .i64 n) (x := .int .i64 n) (if_pos ⟨rfl, kwf_i64 h⟩) t
theorem fit_u64 {n : Int} (h : 0 ≤ n ∧ n < 18446744073709551616) {ks : List LK} {cs : List DV} (t : Fit ks cs) : Fit (.i .u64 :: ks) (.v (.int .u64 n) :: cs) := fit_cons (k := .i .u64) (u := .int .u64 n) (x := .int .u64 n) (if_pos ⟨rfl, kwf_u64 h⟩) t
theorem fit_str {l : List UInt8} (h : l.length ≤ 1048576) {ks : List LK} {cs : List DV} (t : Fit ks cs) : Fit (.s :: ks) (.v (strV l) :: cs) := (lit_str h).elim fun x e => fit_cons e t
theorem fit_app {js ks : List LK} {cs ds : List DV} : Fit js cs → Fit ks ds → Fit (js ++ ks) (cs ++ ds) := by
  rintro ⟨us, l, h1, h2⟩ h
  induction cs generalizing js us l with
  | nil =>
    cases h1
    cases js with
    | nil => exact h
    | cons j js => cases h2
  | cons X cs ih =>
    cases X with
    | v u =>
      simp only [vals] at h1
      cases hr : vals cs with
      | none => rw [hr] at h1; cases h1
      | some r =>
        rw [hr] at h1; cases h1
        cases js with
        | nil => cases h2
        | cons j js =>
          simp only [lits] at h2
          cases hj : j.lit u with
          | none => rw [hj] at h2; cases h2
          | some x =>
            cases hl : lits js r with
            | none => rw [hj, hl] at h2; cases h2
            | some y => exact fit_cons hj (ih r y hr hl)
    | _ => cases h1
theorem fit_hash (h : H) {ks : List LK} {cs : List DV} (t : Fit ks cs) : Fit (hks ++ ks) (hdv h ++ cs) := fit_app ⟨_, _, vals_u8 (H.l h), by have := lits_u8 (H.l h); rwa [H.l_len] at this⟩ t
section
variable {P : Program} {C : Cx} {L : Lo} {Γ : Ga} {d : Nat} {ty : TypeId} {pos : String} {af : Array Edge} {gd : Option (Nat × Bool)}
theorem Pl.OT.eqs {xt yt : TypeId} {x y : Operand} {ks : List LK} {cs ds : List DV} (r : Bool) (h : r = true ↔ cs = ds) (hf : Fit ks cs) (hg : Fit ks ds) (hn : Nat.blt d C.n = true) (hx : evd L x = some (.ag cs)) (hy : evd L y = some (.ag ds)) (ht : eqT P xt = some ks) :
    OT P C ⟨some d, .binOp .eql xt x y yt, ty, pos, af, gd⟩ L Γ (upd L d (.f (.v (.bool r)))) Γ := by
  obtain ⟨us, l, h1, h2⟩ := hf
  obtain ⟨vs, m, h3, h4⟩ := hg
  exact OT.eqag r hn hx hy h1 h3 ht h2 h4 (h.trans ⟨fun e => by rw [e, h3] at h1; injection h1 with h1; exact h1.symm, fun e => vals_inj h1 (e ▸ h3)⟩)
theorem Pl.OT.nes {xt yt : TypeId} {x y : Operand} {ks : List LK} {cs ds : List DV} (r : Bool) (h : r = true ↔ ¬ cs = ds) (hf : Fit ks cs) (hg : Fit ks ds) (hn : Nat.blt d C.n = true) (hx : evd L x = some (.ag cs)) (hy : evd L y = some (.ag ds)) (ht : eqT P xt = some ks) :
    OT P C ⟨some d, .binOp .neq xt x y yt, ty, pos, af, gd⟩ L Γ (upd L d (.f (.v (.bool r)))) Γ := by
  obtain ⟨us, l, h1, h2⟩ := hf
  obtain ⟨vs, m, h3, h4⟩ := hg
  exact OT.neag r hn hx hy h1 h3 ht h2 h4 (h.trans (not_congr ⟨fun e => by rw [e, h3] at h1; injection h1 with h1; exact h1.symm, fun e => vals_inj h1 (e ▸ h3)⟩))
end
abbrev hdks : List LK := .i .i64 :: .i .i64 :: .i .i64 :: (hks ++ (hks ++ [.i .u64, .i .u64]))
def hdFit (h : Hd) : Prop := (-9223372036854775808 ≤ h.ep ∧ h.ep < 9223372036854775808) ∧ (-9223372036854775808 ≤ h.tk ∧ h.tk < 9223372036854775808) ∧ (-9223372036854775808 ≤ h.ct ∧ h.ct < 9223372036854775808) ∧ h.ok
theorem fit_hd {h : Hd} (f : hdFit h) : Fit hdks h.dv := fit_i64 f.1 (fit_i64 f.2.1 (fit_i64 f.2.2.1 (fit_hash _ (fit_hash _ (fit_u64 f.2.2.2.1 (fit_u64 f.2.2.2.2 fit_nil))))))
theorem right_fit {h : Hd} (r : rightH h = true) (ho : h.ok) : hdFit h := by
  unfold rightH at r; simp only [decide_eq_true_eq] at r
  exact ⟨by omega, by omega, by omega, ho⟩
theorem fit_sign {h : Hd} (x : Int) (f : hdFit h) : hdFit (signH x h) := ⟨f.1, f.2.1, f.2.2.1, signH_ok x h⟩
theorem shp_head {d : Nat} (cs : List DV) (h : Shp Tryz.prog (d + 4) 30 cs) : ∃ x : Hd, hdFit x ∧ cs = x.dv := by
  unfold Shp at h
  simp only [Tryz.underlying30] at h
  obtain ⟨a, b, rfl, h1, a2, b2, rfl, h2, a3, b3, rfl, h3, a4, b4, rfl, h4, a5, b5, rfl, h5, a6, b6, rfl, h6, rfl⟩ := h
  obtain ⟨n1, rfl, w1⟩ := shp_int Tryz.underlying3 h1
  obtain ⟨n2, rfl, w2⟩ := shp_int Tryz.underlying2 h2
  obtain ⟨n3, rfl, w3⟩ := shp_int Tryz.underlying3 h3
  obtain ⟨x4, _, rfl⟩ := shp_hash _ h4
  obtain ⟨x5, _, rfl⟩ := shp_hash _ h5
  unfold Shp at h6
  simp only [Tryz.underlying28] at h6
  obtain ⟨a, b, rfl, g1, a2, b2, rfl, g2, rfl⟩ := h6
  obtain ⟨m1, rfl, v1⟩ := shp_int Tryz.underlying24 g1
  obtain ⟨m2, rfl, v2⟩ := shp_int Tryz.underlying24 g2
  exact ⟨⟨n1, n2, n3, x4, x5, m1, m2⟩, ⟨i64_in w1, i64_in w2, i64_in w3, u64_in v1, u64_in v2⟩, by simp [Hd.dv, sgdv]⟩
theorem o_head {X : DV} (h : ShV Tryz.prog 6 30 X) : ∃ x : Hd, X = .ag x.dv ∧ hdFit x := by
  unfold ShV at h
  simp only [Tryz.underlying30] at h
  obtain ⟨ds, rfl, h⟩ := h
  obtain ⟨x, hx, rfl⟩ := shp_head _ h
  exact ⟨x, rfl, hx⟩
theorem check_own' {x : Int} (hx : u64I x) {h : Hd} (r : rightH h = true) : checkH (pubF x) (signH x h) = true := by
  have r' : rightH (signH x h) = true := r
  rw [checkH_yes r']
  have q := check_own (x % 2305843009213693950) (msgB h) (Int.emod_nonneg _ (by decide)) (Int.emod_lt_of_pos _ (by decide))
  rw [pub_mod] at q
  exact q
end Go.Proofs.YtmjokdhhniblgaaGreat

