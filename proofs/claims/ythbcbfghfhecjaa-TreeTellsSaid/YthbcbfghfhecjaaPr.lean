/-
  A logic of walks: parts of rows, bytes compared, functions with what they hold, nothing compared.
-/
import Derived.Test.YthbcbfghfhecjaaPq
import Derived.Lib.Bytealg
import Derived.Lib.UnsafeStr
import Derived.Laws.Externs

namespace Go.Proofs.Ythbcbfghfhecjaa.Pl
set_option linter.unusedVariables false
set_option linter.unusedSimpArgs false
open Go.RowKit

def bdv (b : UInt8) : List DV := [.v (.int .u8 b.toNat)]
section
variable {P : Program} {C : Cx} {L : Lo} {Γ : Ga} {d : Nat} {ty : TypeId} {pos : String} {af : Array Edge} {gd : Option (Nat × Bool)}
/-- A call whose arguments are told in other words. -/
theorem OT.callfe {f : FuncId} {xs : List Operand} {at_ : Array TypeId} {Xs Xs' : List DV} {Y : DV} (hn : Nat.blt d C.n = true) (hf : cfn P f = true) (hx : evR L Γ xs = some Xs') (hok : okR L Γ xs) (he : Xs' = Xs) (hc : PF P f Xs Y) :
    OT P C ⟨some d, .call { callee := .value (.func f), args := xs.toArray, argTypes := at_ }, ty, pos, af, gd⟩ L Γ (upd L d (.f Y)) Γ := OT.callf hn hf (he ▸ hx) hok hc
theorem OT.callvf0 {f : FuncId} {y : Operand} {xs : List Operand} {at_ : Array TypeId} {Xs : List DV} {Y : DV} (hn : Nat.blt d C.n = true) (hy : evd L y = some (.fn (.func f) [] [])) (hf : cfn P f = true) (hx : evR L Γ xs = some Xs) (hok : okR L Γ xs) (hc : PF P f Xs Y) :
    OT P C ⟨some d, .call { callee := .value y, args := xs.toArray, argTypes := at_ }, ty, pos, af, gd⟩ L Γ (upd L d (.f Y)) Γ := OT.callvf hn hy hf hx hok (by rw [List.append_nil]; exact hc)
/-! Bytes compared. -/
theorem load_bytes {P : Program} {w : World} : ∀ (l : List UInt8) (ad : Addr) (acc : ByteArray), (∀ j x, l[j]? = some x → w.cell? (ad.add j) = some (.int .u8 x.toNat)) → (Extern.Bytes.loadBytes ad l.length acc).run P w = .ok ⟨acc.data ++ l.toArray⟩ w
  | [], ad, acc, _ => by simp [Extern.Bytes.loadBytes]
  | x :: l, ad, acc, h => by
    have h0 : w.cell? ad = some (.int .u8 x.toNat) := by
      have := h 0 x rfl
      simpa [Addr.add] using this
    have ih := load_bytes (P := P) l (ad.add 1) (acc.push x) (fun j y hy => by
      have := h (j + 1) y (by simpa using hy)
      have e : (ad.add 1).add j = ad.add (j + 1) := by
        unfold Addr.add
        by_cases hj : j = 0
        · subst hj; simp
        · simp [hj]; omega
      rw [e]; exact this)
    have hx : ((x.toNat : Int).toNat).toUInt8 = x := by simp
    simp only [List.length_cons, Extern.Bytes.loadBytes, Sem.run_bind, run_load, h0, Result.andThen, hx]
    rw [ih]
    congr 1
    apply ByteArray.ext
    simp [ByteArray.push]
theorem bytesOf_rep {w : World} {l : List UInt8} {v : Value} (h : (slT bdv 1 l).rep noK w v) : (Extern.Bytes.bytesOf v).run P w = .ok ⟨l.toArray⟩ w := by
  unfold slT DV.rep at h
  rcases h with ⟨rfl, h, _⟩ | ⟨b, o, c, rfl, _, _, _, _, h⟩
  · have : l = [] := List.eq_nil_of_length_eq_zero h
    subst this; rfl
  · have hc : ∀ j x, l[j]? = some x → w.cell? ((⟨b, o, none⟩ : Addr).add j) = some (.int .u8 x.toNat) := fun j x hj => by
      have hX : (l.flatMap bdv)[j]? = some (DV.v (.int .u8 x.toNat)) := by
        have : ∀ (l : List UInt8) (j : Nat), l[j]? = some x → (l.flatMap bdv)[j]? = some (DV.v (.int .u8 x.toNat)) := by
          intro l
          induction l with
          | nil => intro j h; simp at h
          | cons y r ih => intro j h; cases j with
            | zero => simp at h; subst h; rfl
            | succ j => simp only [List.flatMap_cons, bdv, List.singleton_append, List.getElem?_cons_succ]; exact ih j (by simpa using h)
        exact this l j hj
      obtain ⟨u, h1, h2, h3⟩ := repAt_get h hX
      unfold DV.rep at h3; subst h3
      rw [addr_add]; exact h1
    simp only [Extern.Bytes.bytesOf]
    rw [load_bytes l ⟨b, o, none⟩ ByteArray.empty hc]
    simp
theorem OT.cmpb {f : FuncId} {fn : Func} {x y : Operand} {at_ : Array TypeId} {l m : List UInt8} (hn : Nat.blt d C.n = true) (hf : P.funcs[f]? = some fn) (h1 : (fn.name == "runtime.NumGoroutine") = false) (h2 : fn.body.isNone = true) (h3 : Extern.findNext fn = none) (h4 : Extern.find fn = some Extern.BytealgCompare.compare)
    (hx : evR L Γ [x, y] = some [slT bdv 1 l, slT bdv 1 m]) (hok : okR L Γ [x, y]) :
    OT P C ⟨some d, .call { callee := .value (.func f), args := #[x, y], argTypes := at_ }, ty, pos, af, gd⟩ L Γ (upd L d (.f (.v (.int .i64 (Lib.compareBytes l m))))) Γ :=
  OT.value hn (fun g hg => by simp [AV.id] at hg) fun ρ a w h => by
    have hr := evR_rep h hx hok
    unfold repL at hr
    obtain ⟨u, t, e1, r1, hr⟩ := hr
    unfold repL at hr
    obtain ⟨v, t', e2, r2, hr⟩ := hr
    unfold repL at hr; subst hr; subst e2
    simp only [List.map_cons, List.map_nil, List.cons.injEq, and_true] at e1
    obtain ⟨e1, e2⟩ := e1
    refine ⟨_, ?_, rfl⟩
    have he : a.eval (.func f) = .func (.func f) #[] #[] := rfl
    have hc : (Extern.BytealgCompare.compare #[u, v]).run P w = .ok (.int .i64 (Lib.compareBytes l m)) w := by
      show Sem.run P (do pure (goInt (Extern.BytealgCompare.cmp (← Extern.Bytes.bytesOf u) (← Extern.Bytes.bytesOf v)))) w = _
      simp only [Sem.run_bind, bytesOf_rep r1, bytesOf_rep r2, Result.andThen_ok, Sem.run_pure, Lib.cmp_eq]
      rfl
    simp only [execOp, resolve, he, Deferred.ofValue, invoke, Sem.run_bind, Sem.run_pure, Result.andThen_ok, List.map_toArray, List.map_cons, List.map_nil, e1, e2]
    have : (#[] ++ #[u, v] ++ #[] : Array Value) = #[u, v] := by simp
    simp [run_callFunc_extern hf h1 h2 h3 h4, hc]
/-! Parts of a row of one's own. -/
theorem OT.sliceo {t e n sz g : Nat} {x : Operand} {lo hi : Option Operand} {o : AO} {cs : List DV} {l r : Int} (hn : Nat.blt d C.n = true) (hx : ev L x = some (.ow g n sz)) (hg : Γ g = some o) (ho : o.cells = some cs) (ht : elt P t = some (e, sz)) (hl : bnd L 0 lo = some l) (hh : bnd L n hi = some r) (h0 : 0 ≤ l) (h1 : l ≤ r) (h2 : r ≤ n) (h3 : l < n) :
    OT P C ⟨some d, .slice t x lo hi none, ty, pos, af, gd⟩ L Γ (upd L d (.bs g (l.toNat * sz) (r.toNat - l.toNat) sz)) Γ :=
  OT.value hn (fun g' hg' ρ a w h => ev_ment h hx hg') fun ρ a w h => by
    obtain ⟨ob, h3'⟩ := own_block h hg ho
    rcases ev_rep h hx ob h3' with ⟨_, _, k2⟩ | ⟨b, c, rfl, hv, k2, k3, k4⟩
    · omega
    · obtain ⟨hu, j, hi', hj⟩ := elt_parts ht
      have hb := bounds_run (P := P) h true n c k2 hl hh h0 h1 h2
      have hne : c ≠ l.toNat := by omega
      refine ⟨.slice (some ⟨b, l.toNat * sz, none⟩) (r.toNat - l.toNat) (c - l.toNat), by simp [execOp, hv, Instr.sliceAt, Instr.slice, run_underlying hu, hb, sizeOf, typeInfo, hi', hj, addr_add, hne], fun ob' h5 => ?_⟩
      rw [h3'] at h5; cases h5
      refine ⟨b, c - l.toNat, rfl, rfl, by omega, by unfold maxLen at *; omega, ?_⟩
      rw [← k4, ← Nat.add_mul]
      exact Nat.mul_le_mul_right _ (by omega)
/-- The first ones of a row. -/
theorem OT.slicef {t e n sz g : Nat} {x : Operand} {lo hi : Option Operand} {o : AO} {cs : List DV} {r : Int} (hn : Nat.blt d C.n = true) (hx : ev L x = some (.ow g n sz)) (hg : Γ g = some o) (ho : o.cells = some cs) (ht : elt P t = some (e, sz)) (hl : bnd L 0 lo = some 0) (hh : bnd L n hi = some r) (h1 : 0 ≤ r) (h2 : r ≤ n) :
    OT P C ⟨some d, .slice t x lo hi none, ty, pos, af, gd⟩ L Γ (upd L d (.ow g r.toNat sz)) Γ :=
  OT.value hn (fun g' hg' ρ a w h => ev_ment h hx hg') fun ρ a w h => by
    obtain ⟨ob, h3'⟩ := own_block h hg ho
    obtain ⟨hu, j, hi', hj⟩ := elt_parts ht
    rcases ev_rep h hx ob h3' with ⟨rfl, hv, rfl⟩ | ⟨b, c, rfl, hv, k2, k3, k4⟩
    · have hr : r = 0 := by omega
      subst hr
      have hb := bounds_run (P := P) h true 0 0 (Nat.le_refl _) hl hh (Int.le_refl 0) (Int.le_refl 0) h2
      refine ⟨.slice none 0 0, by simp at hb; simp [execOp, hv, Instr.sliceAt, Instr.slice, run_underlying hu, hb, sizeOf, typeInfo, hi', hj], fun ob' h5 => ?_⟩
      rw [h3'] at h5; cases h5
      exact .inl ⟨rfl, rfl, rfl⟩
    · have hb := bounds_run (P := P) h true n c k2 hl hh (Int.le_refl 0) h1 h2
      refine ⟨.slice (some ⟨b, 0, none⟩) r.toNat c, ?_, fun ob' h5 => ?_⟩
      · simp at hb
        by_cases hc : c = 0
        · subst hc; simp [execOp, hv, Instr.sliceAt, Instr.slice, run_underlying hu, hb, sizeOf, typeInfo, hi', hj]
        · simp [execOp, hv, Instr.sliceAt, Instr.slice, run_underlying hu, hb, sizeOf, typeInfo, hi', hj, hc, addr_add]
      · rw [h3'] at h5; cases h5
        exact .inr ⟨b, c, rfl, rfl, by omega, k3, k4⟩
theorem OT.idxb {t e n sz g off : Nat} {x y : Operand} {k : IntKind} {i : Int} (hn : Nat.blt d C.n = true) (hx : ev L x = some (.bs g off n sz)) (hy : evv L y = some (.int k i)) {o : AO} {cs : List DV} (hg : Γ g = some o) (ho : o.cells = some cs) (ht : elt P t = some (e, sz)) (h0 : 0 ≤ i) (h1 : i < n) :
    OT P C ⟨some d, .indexAddr t x y, ty, pos, af, gd⟩ L Γ (upd L d (.ptr g (off + i.toNat * sz))) Γ :=
  OT.value hn (fun g' hg' ρ a w h => ev_ment h hx hg') fun ρ a w h => by
    obtain ⟨ob, h3⟩ := own_block h hg ho
    obtain ⟨b, c, rfl, h2, _⟩ := ev_rep h hx ob h3
    obtain ⟨hu, j, hi, hj⟩ := elt_parts ht
    have hi2 : 0 ≤ i ∧ i < (n : Int) := ⟨h0, h1⟩
    exact ⟨.pointer (some ⟨b, off + i.toNat * sz, none⟩), by simp [execOp, h2, evv_eval h hy, Instr.indexAt, run_underlying hu, asIntOf, hi2, sizeOf, typeInfo, hi, hj, addr_add], fun ob' h5 => by rw [h3] at h5; cases h5; exact ⟨b, rfl, rfl⟩⟩
theorem OT.lenb {t : TypeId} {x : Operand} {g off n sz : Nat} {o : AO} {cs : List DV} (hn : Nat.blt d C.n = true) (hx : ev L x = some (.bs g off n sz)) (hg : Γ g = some o) (ho : o.cells = some cs) (ht : isSl P t = some true) :
    OT P C ⟨some d, .call { callee := .builtin .len, args := #[x], argTypes := #[t] }, ty, pos, af, gd⟩ L Γ (upd L d (.f (.v (.int .i64 n)))) Γ :=
  OT.value hn (fun g hg => by simp [AV.id] at hg) fun ρ a w h => by
    obtain ⟨ob, h3⟩ := own_block h hg ho
    obtain ⟨b, c, rfl, h2, _⟩ := ev_rep h hx ob h3
    exact ⟨_, by simp [execOp, resolve, invoke, builtin, h2, len_sl ht], rfl⟩
/-- The whole of a slice, with no room behind. -/
theorem OT.slice3 {t e n sz : Nat} {x hi mx : Operand} {A : AV} {cs : List DV} (hn : Nat.blt d C.n = true) (hx : ev L x = some A) (hA : A.dv = some (.sl sz n cs)) (ht : elt P t = some (e, sz)) (hh : evv L hi = some (.int .i64 n)) (hm : evv L mx = some (.int .i64 n)) :
    OT P C ⟨some d, .slice t x none (some hi) (some mx), ty, pos, af, gd⟩ L Γ (upd L d (A.re (.sl sz n cs))) Γ :=
  OT.value hn (fun g hg => absurd hg (AV.re_id A _ g)) fun ρ a w h => by
    have h1 := ev_rep h hx
    have h2 := dv_rep h1 hA
    obtain ⟨hu, j, hi', hj⟩ := elt_parts ht
    unfold DV.rep at h2
    rcases h2 with ⟨hv, rfl, rfl⟩ | ⟨b, o, c, hv, k1, k2, k3, k4, k5⟩
    · refine ⟨.slice none 0 0, ?_, AV.re_rep h1 hA fun J hJ => by rw [hv] at hJ; exact hJ⟩
      simp [execOp, hv, Instr.sliceAt, Instr.slice, Instr.sliceBounds, Instr.sliceBound, asIntOf, evv_eval h hh, evv_eval h hm, run_underlying hu, sizeOf, typeInfo, hi', hj]
    · refine ⟨.slice (some ⟨b, o, none⟩) n n, ?_, AV.re_rep h1 hA fun J hJ => ?_⟩
      · have hc : (0 : Int) ≤ (n : Int) ∧ (n : Int) ≤ (c : Int) := by omega
        by_cases hz : n = 0
        · subst hz
          simp [execOp, hv, Instr.sliceAt, Instr.slice, Instr.sliceBounds, Instr.sliceBound, asIntOf, evv_eval h hh, evv_eval h hm, run_underlying hu, sizeOf, typeInfo, hi', hj, hc]
        · simp [execOp, hv, Instr.sliceAt, Instr.slice, Instr.sliceBounds, Instr.sliceBound, asIntOf, evv_eval h hh, evv_eval h hm, run_underlying hu, sizeOf, typeInfo, hi', hj, hc, hz, addr_add]
          try (intro q; omega)
      · unfold DV.rep at hJ ⊢
        rw [hv] at hJ
        rcases hJ with ⟨e, _⟩ | ⟨b', o', c', e, q1, q2, q3, q4, q5⟩
        · simp at e
        · simp at e; obtain ⟨⟨rfl, rfl⟩, rfl⟩ := e
          exact .inr ⟨b, o, n, rfl, Nat.le_refl _, by omega, q3, q4, q5⟩
/-- A function with what it holds. -/
theorem OT.mkfn {f : FuncId} {xs : List Operand} {caps : List DV} (hn : Nat.blt d C.n = true) (hx : evD L xs = some caps) :
    OT P C ⟨some d, .makeFunc (.func f) #[] xs.toArray, ty, pos, af, gd⟩ L Γ (upd L d (.d (.fn (.func f) [] caps))) Γ :=
  OT.value hn (fun g hg => by simp [AV.id] at hg) fun ρ a w h => ⟨.func (.func f) #[] (xs.map a.eval).toArray, by simp [execOp, Instr.makeFunc], by
    show DV.rep _ _ _ _
    unfold DV.rep
    exact ⟨[], xs.map a.eval, rfl, by simp [repL], evD_rep h hx⟩⟩
end
/-! A box is let go: from then on it is read alone. -/
theorem reps_freezeB {C : Cx} {L : Lo} {Γ : Ga} {a : Act} {w : World} (t : Nat) {g off : Nat} {o : AO} {cs : List DV} (ht : L t = some (.ptr g off)) (hg : Γ g = some o) (ho : o.cells = some cs) (hkey : o.key = none) (h : Reps C L Γ a w) : Reps C (upd L t (.d (.el (cs.drop off)))) (upd Γ g .dead) a w := by
  obtain ⟨ρ, h⟩ := h
  have hd : o ≠ .dead := by rintro rfl; simp [AO.cells] at ho
  obtain ⟨ob, h1, h2⟩ := h.obj g _ hg hd
  classical
  let ρ' : Rho := fun x => if x = g then none else ρ x
  have r1 : ∀ x y, ρ' x = some y → x ≠ g ∧ ρ x = some y := fun x y hx => by
    by_cases e : x = g
    · simp [ρ', e] at hx
    · simp [ρ', e] at hx; exact ⟨e, hx⟩
  have hlv : ∀ x, live (upd Γ g .dead) x → x ≠ g ∧ live Γ x := fun x ⟨o, p, q⟩ => by
    rcases upd_some p with ⟨_, e⟩ | ⟨hne, p⟩
    · exact absurd e q
    · exact ⟨hne, o, p, q⟩
  have hk : Keeps (KK C.K0 ρ Γ) (KK C.K0 ρ' (upd Γ g .dead)) w w := fun b hb hn => ⟨rfl, hb, fun x => hn (x.elim .inl fun ⟨x, p, q⟩ => .inr ⟨x, (hlv x p).2, (r1 x _ q).2⟩)⟩
  refine ⟨ρ', h.df, h.sz, h.k0, h.fr, fun x hx => ?_, fun s X x hs hX => ?_, fun x b hb => h.lt x b (r1 x _ hb).2, fun x y b p q l1 l2 => h.inj x y b (r1 x _ p).2 (r1 y _ q).2 (hlv x l1).2 (hlv y l2).2, fun x b o k1 k2 k3 p => (upd_some k1).elim (fun e => absurd e.2 k2) (fun e => h.new x b o e.2 k2 k3 (r1 x _ p).2), fun x o k oo k1 k3 p => (upd_some k1).elim (fun e => by rw [e.2] at k3; cases k3) (fun e => h.len x o k oo e.2 k3 (r1 x _ p).2), fun x o p q => ?_, fun s X hs => ?_⟩
  · by_cases e : x = g
    · simp [ρ', e]
    · have : ¬ live Γ x := fun ⟨o, p, q⟩ => hx ⟨o, by rw [upd_other _ _ _ _ e]; exact p, q⟩
      simp [ρ', e, h.dom x this]
  · by_cases e : x = g
    · subst e; rw [upd_same]; simp
    · rw [upd_other _ _ _ _ e]
      rcases upd_some hs with ⟨_, rfl⟩ | ⟨_, hs⟩
      · simp [AV.id] at hX
      · exact h.ment s X x hs hX
  · rcases upd_some p with ⟨_, e⟩ | ⟨hne, p⟩
    · exact absurd e q
    · obtain ⟨oo, k1, k2⟩ := h.obj x o p q
      exact ⟨oo, by simp [ρ', hne, k1], AO.rep_mono hk (fun _ _ => rfl) o k2⟩
  · rcases upd_some hs with ⟨rfl, rfl⟩ | ⟨_, hs⟩
    · show DV.rep _ _ _ _
      unfold DV.rep
      obtain ⟨b, e, hv⟩ := h.slot s _ ht ob h1
      subst e
      have hc := repAt_drop off (own_cells h hg ho h1)
      rw [Nat.zero_add] at hc
      refine ⟨b, off, hv, .inr ⟨h.lt g b h1, ?_⟩, ?_⟩
      · rintro (x | ⟨x, p, q⟩)
        · have := (h.k0 b x).1; have := h.new g b _ hg hd hkey h1; omega
        · exact (hlv x p).1 (h.inj x g b (r1 x _ q).2 h1 (hlv x p).2 ⟨_, hg, hd⟩)
      · obtain ⟨us, q1, q2, q3⟩ := repAt_vals hc
        exact repAt_of_cells (repL_mono hk _ _ q1) q2 q3
    · have hX := h.slot s X hs
      cases X with
      | d X => exact DV.rep_mono hk X _ hX
      | f X => exact DV.rep_mono (hk.widen (J := fun b => b < C.w0.heap.size)) X _ hX
      | ptr x o => exact fun ob hob => hX ob (r1 x _ hob).2
      | bs x o n s => exact fun ob hob => hX ob (r1 x _ hob).2
      | ow x n s => exact fun ob hob => hX ob (r1 x _ hob).2
theorem TL.frzb {P : Program} {C : Cx} {L : Lo} {Γ : Ga} {ops : Array Oper} {Q : Exit → Act → World → Prop} {rest : List Oper} (t : Nat) {g off : Nat} {o : AO} {cs : List DV} (ht : L t = some (.ptr g off)) (hg : Γ g = some o) (ho : o.cells = some cs) (hkey : o.key = none) (k : TL P C ops Q rest (upd L t (.d (.el (cs.drop off)))) (upd Γ g .dead)) : TL P C ops Q rest L Γ :=
  fun a w h => k a w (reps_freezeB t ht hg ho hkey h)
theorem TE.frzb {C : Cx} {L : Lo} {Γ : Ga} {R : Act → World → Prop} (t : Nat) {g off : Nat} {o : AO} {cs : List DV} (ht : L t = some (.ptr g off)) (hg : Γ g = some o) (ho : o.cells = some cs) (hkey : o.key = none) (k : TE C R (upd L t (.d (.el (cs.drop off)))) (upd Γ g .dead)) : TE C R L Γ :=
  fun a w h => k a w (reps_freezeB t ht hg ho hkey h)
/-- Of a row the first cells are remembered. -/
theorem reps_cut {C : Cx} {L : Lo} {Γ : Ga} {a : Act} {w : World} (g k : Nat) {o : AO} {cs : List DV} (hg : Γ g = some o) (ho : o.cells = some cs) (hr : (match o with | .row .. => true | .mrow .. => true | _ => false) = true) (h : Reps C L Γ a w) : Reps C L (upd Γ g (o.re (cs.take k))) a w := by
  obtain ⟨ρ, h⟩ := h
  have hd : o ≠ .dead := by rintro rfl; simp [AO.cells] at ho
  obtain ⟨ob, h1, h2⟩ := h.obj g _ hg hd
  have hkp : Kept (fun b => ob = some b) w w := Kept.refl _ _
  refine ⟨ρ, h.lent hg hd h1 hkp (AO.re_dead _ _ hd) (AO.re_key _ _) ?_⟩
  have key : ∀ T sz cs', (AO.row T sz cs').rep (KK C.K0 ρ Γ) w ob → (AO.row T sz (cs'.take k)).rep (KK C.K0 ρ Γ) w ob := fun T sz cs' h => by
    rcases h with ⟨rfl, rfl⟩ | ⟨b, us, cap, rfl, q1, q2, q3, q4, q5, q6⟩
    · exact .inl ⟨rfl, by simp⟩
    · refine .inr ⟨b, us, cap, rfl, q1, q2, q3, by simp; omega, ?_, ?_⟩
      · have := repL_take k q5
        rwa [List.take_take, ← List.length_take] at this
      · intro x hx
        have e : us.take (cs'.take k).length = (us.take cs'.length).take (cs'.take k).length := by rw [List.take_take, Nat.min_eq_left (by simp; omega)]
        rw [e] at hx
        exact q6 x (List.mem_of_mem_take hx)
  cases o with
  | dead => exact absurd rfl hd
  | box T cs' => simp at hr
  | mbox k' T cs' => simp at hr
  | row T sz cs' => simp only [AO.cells, Option.some.injEq] at ho; subst ho; exact key T sz cs' h2
  | mrow k' T sz cs' => simp only [AO.cells, Option.some.injEq] at ho; subst ho; exact key T sz cs' h2
theorem TE.cut {C : Cx} {L : Lo} {Γ : Ga} {R : Act → World → Prop} (g k : Nat) {o : AO} {cs : List DV} (hg : Γ g = some o) (ho : o.cells = some cs) (hr : (match o with | .row .. => true | .mrow .. => true | _ => false) = true) (k' : TE C R L (upd Γ g (o.re (cs.take k)))) : TE C R L Γ := fun a w h => k' a w (reps_cut g k hg ho hr h)
/-- A block's cells in other words. -/
theorem TE.obj {C : Cx} {L : Lo} {Γ : Ga} {R : Act → World → Prop} (g : Nat) {o : AO} (o' : AO) (hg : Γ g = some o) (he : o = o') (k : TE C R L (upd Γ g o')) : TE C R L Γ := by
  subst he
  have : upd Γ g o = Γ := by
    funext s; by_cases e : s = g
    · subst e; rw [upd_same, hg]
    · rw [upd_other _ _ _ _ e]
  rw [this] at k; exact k
theorem equal_nil {P : Program} {t e : TypeId} (hu : P.underlying t = some (.slice e)) (w : World) : (Op.equal t (.slice none 0 0) (.slice none 0 0)).run P w = .ok true w ∧ ∀ a n c, (Op.equal t (.slice (some a) n c) (.slice none 0 0)).run P w = .ok false w := by
  have k1 : ∀ m, (Op.equalIn (m + 1) t (.slice none 0 0) (.slice none 0 0)).run P w = .ok true w := fun m => by simp [Op.equalIn, run_underlying hu]
  have k2 : ∀ m a n c, (Op.equalIn (m + 1) t (.slice (some a) n c) (.slice none 0 0)).run P w = .ok false w := fun m a n c => by simp [Op.equalIn, run_underlying hu]
  exact ⟨k1 9999, k2 9999⟩
/-- Whether a slice is nothing: both ways. -/
theorem TL.eqnil {P : Program} {C : Cx} {L : Lo} {Γ : Ga} {ops : Array Oper} {Q : Exit → Act → World → Prop} {rest : List Oper} {d sz n e : Nat} {t u ty : TypeId} {pos : String} {af : Array Edge} {x : Operand} {A : AV} {cs : List DV} (hn : Nat.blt d C.n = true) (hx : ev L x = some A) (hA : A.dv = some (.sl sz n cs)) (ht : elt P t = some (e, sz))
    (k1 : n = 0 → cs = [] → TL P C ops Q rest (upd L d (.f (.v (.bool true)))) Γ) (k2 : TL P C ops Q rest (upd L d (.f (.v (.bool false)))) Γ) : TL P C ops Q (⟨some d, .binOp .eql t x (.const (.slice none 0 0)) u, ty, pos, af, none⟩ :: rest) L Γ := by
  rintro a w ⟨ρ, h⟩
  have h2 := dv_rep (ev_rep h hx) hA
  obtain ⟨hu, j, hi', hj⟩ := elt_parts ht
  unfold wpList
  have hw : Region.wanted ⟨some d, .binOp .eql t x (.const (.slice none 0 0)) u, ty, pos, af, none⟩ (yielded ops a.tmps) = true := rfl
  rw [if_pos hw]
  unfold Oper.wp
  unfold DV.rep at h2
  rcases h2 with ⟨hv, rfl, rfl⟩ | ⟨b, o, c, hv, q1, q2, q3, q4, q5⟩
  · have hrun : (execOp a.eval ⟨some d, .binOp .eql t x (.const (.slice none 0 0)) u, ty, pos, af, none⟩).run P w = .ok (.value (.bool true)) w := by
      have he : a.eval (.const (.slice none 0 0)) = .slice none 0 0 := rfl
      simp [execOp, hv, he, eqGuard, binOp, (equal_nil hu w).1]
    rw [hrun, Oper.upon_value]
    exact .inl (k1 rfl rfl _ _ ⟨ρ, h.put (by simpa using hn) rfl (fun g hg => by simp [AV.id] at hg)⟩)
  · have hrun : (execOp a.eval ⟨some d, .binOp .eql t x (.const (.slice none 0 0)) u, ty, pos, af, none⟩).run P w = .ok (.value (.bool false)) w := by
      have he : a.eval (.const (.slice none 0 0)) = .slice none 0 0 := rfl
      simp [execOp, hv, he, eqGuard, binOp, (equal_nil hu w).2]
    rw [hrun, Oper.upon_value]
    exact .inl (k2 _ _ ⟨ρ, h.put (by simpa using hn) rfl (fun g hg => by simp [AV.id] at hg)⟩)
/-! Branches that meet. -/
theorem TC.join {P : Program} {C : Cx} {L : Lo} {Γ : Ga} {Q : Exit → Act → World → Prop} {c y : Code} (l : List (Nat × AV)) (m : List (Nat × AO)) (h2 : TC P C y Q (ls l) (ls m)) (h1 : TC P C c (Exit.then (fun a w => Reps C (ls l) (ls m) a w) Q) L Γ) : TC P C c (Exit.then (fun a w => y.wp P Q a w) Q) L Γ := fun a w hr =>
  wp_mono (h1 a w hr) fun e a w h => by
    cases e with
    | normal => exact h2 a w h
    | _ => exact h
theorem TE.join {C : Cx} {L : Lo} {Γ : Ga} {Q : Exit → Act → World → Prop} {l : List (Nat × AV)} {m : List (Nat × AO)} (hl : allL id L (ls m) l) (hm : allG id Γ m) : TE C (Exit.then (fun a w => Reps C (ls l) (ls m) a w) Q .normal) L Γ := fun a w hr => reps_weak id (fun _ _ e => e) hl hm hr
theorem TC.joinf {P : Program} {C : Cx} {L : Lo} {Γ : Ga} {Q : Exit → Act → World → Prop} {c y : Code} (l : List (Nat × AV)) (m : List (Nat × AO)) (φ : Prop) (h2 : φ → TC P C y Q (ls l) (ls m)) (h1 : TC P C c (Exit.then (fun a w => φ ∧ Reps C (ls l) (ls m) a w) Q) L Γ) : TC P C c (Exit.then (fun a w => y.wp P Q a w) Q) L Γ := fun a w hr =>
  wp_mono (h1 a w hr) fun e a w h => by
    cases e with
    | normal => exact h2 h.1 a w h.2
    | _ => exact h
theorem TE.joinf {C : Cx} {L : Lo} {Γ : Ga} {Q : Exit → Act → World → Prop} {l : List (Nat × AV)} {m : List (Nat × AO)} {φ : Prop} (hφ : φ) (hl : allL id L (ls m) l) (hm : allG id Γ m) : TE C (Exit.then (fun a w => φ ∧ Reps C (ls l) (ls m) a w) Q .normal) L Γ := fun a w hr => ⟨hφ, reps_weak id (fun _ _ e => e) hl hm hr⟩
/-- A plain value, told anew. -/
theorem TE.setv {C : Cx} {L : Lo} {Γ : Ga} {R : Act → World → Prop} (t : Nat) {u : Value} (u' : Value) (ht : evv L (.tmp t) = some u) (h : u = u') (k : TE C R (upd L t (.d (.v u'))) Γ) : TE C R L Γ := fun a w ⟨ρ, hr⟩ => k a w ⟨ρ, by
  subst h
  refine hr.reslot (X := .d (.v u)) ?_ (fun g hg => by simp [AV.id] at hg)
  have := evv_eval hr ht
  show DV.rep _ _ _ _
  unfold DV.rep
  exact this⟩
theorem TC.setv {P : Program} {C : Cx} {L : Lo} {Γ : Ga} {Q : Exit → Act → World → Prop} {c : Code} (t : Nat) {u : Value} (u' : Value) (ht : evv L (.tmp t) = some u) (h : u = u') (k : TC P C c Q (upd L t (.d (.v u'))) Γ) : TC P C c Q L Γ := fun a w ⟨ρ, hr⟩ => k a w ⟨ρ, by
  subst h
  refine hr.reslot (X := .d (.v u)) ?_ (fun g hg => by simp [AV.id] at hg)
  have := evv_eval hr ht
  show DV.rep _ _ _ _
  unfold DV.rep
  exact this⟩
section
variable {P : Program} {C : Cx} {L : Lo} {Γ : Ga} {d : Nat} {ty : TypeId} {pos : String} {af : Array Edge} {gd : Option (Nat × Bool)}
/-- All of an array that is read alone. -/
theorem OT.slicee {t n sz : Nat} {x : Operand} {A : AV} {cs : List DV} (hn : Nat.blt d C.n = true) (hx : ev L x = some A) (hA : A.dv = some (.el cs)) (ht : arr P t = some (n, sz)) (hfit : n * sz ≤ cs.length) (hm : n ≤ 1048576) :
    OT P C ⟨some d, .slice t x none none none, ty, pos, af, gd⟩ L Γ (upd L d (A.re (.sl sz n (cs.take (n * sz))))) Γ :=
  OT.value hn (fun g hg => absurd hg (AV.re_id A _ g)) fun ρ a w h => by
    have h1 := ev_rep h hx
    have h2 := dv_rep h1 hA
    obtain ⟨e, j, hu, hi', hj⟩ := arr_parts ht
    unfold DV.rep at h2
    obtain ⟨b, o, hv, hb, hr⟩ := h2
    refine ⟨.slice (some ⟨b, o, none⟩) n n, ?_, AV.re_rep h1 hA fun J hJ => ?_⟩
    · by_cases hz : n = 0
      · subst hz
        simp [execOp, hv, Instr.sliceAt, Instr.sureAddr, Instr.slice, Instr.sliceBounds, run_underlying hu, sizeOf, typeInfo, hi', hj]
      · simp [execOp, hv, Instr.sliceAt, Instr.sureAddr, Instr.slice, Instr.sliceBounds, run_underlying hu, sizeOf, typeInfo, hi', hj, hz, addr_add]
    · unfold DV.rep at hJ ⊢
      obtain ⟨b', o', hv', hb', hr'⟩ := hJ
      rw [hv] at hv'; simp at hv'; obtain ⟨rfl, rfl⟩ := hv'
      refine .inr ⟨b, o, n, rfl, Nat.le_refl _, by unfold maxLen; omega, by simp; omega, ?_, repAt_take _ hr'⟩
      rcases hb' with rfl | hb'
      · exact .inl (by simp)
      · exact .inr hb'
end
end Go.Proofs.Ythbcbfghfhecjaa.Pl
