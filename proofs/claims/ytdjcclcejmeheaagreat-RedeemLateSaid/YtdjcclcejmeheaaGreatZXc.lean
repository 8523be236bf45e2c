import Derived.Test.YtdjcclcejmeheaaGreatZXb
/-
  A logic of walks: the laws of single operations in short: all that is looked up stands in one equation.
-/
namespace Go.Proofs.YtdjcclcejmeheaaGreat.Pl
set_option linter.unusedVariables false
set_option linter.unusedSimpArgs false
set_option linter.unusedSectionVars false
open Go.RowKit
section
variable {P : Program} [V : Env P] {C : Cx} {L : Lo} {Γ : Ga} {d : Nat} {ty : TypeId} {pos : String} {af : Array Edge} {gd : Option (Nat × Bool)}
theorem pr2 {α β : Type} {a c : α} {b d : β} (h : (a, b) = (c, d)) : a = c ∧ b = d := by cases h; exact ⟨rfl, rfl⟩
theorem cf_of {f : FuncId} (h : mem V.cf f = true) : cfn P f = true := List.all_eq_true.1 V.hcf f (mem_iff.1 h)
/-- Of the rows among what is handed over: the cells, and how many there must be. -/
def owl (L : Lo) (Γ : Ga) : List Operand → List (Nat × Nat)
  | [] => []
  | x :: r => match ev L x with
    | some (.ow g n sz) => match (Γ g).bind AO.cells with | some cs => (cs.length, n * sz) :: owl L Γ r | none => owl L Γ r
    | _ => owl L Γ r
theorem owl_ok : ∀ {xs : List Operand}, (owl L Γ xs).map Prod.fst = (owl L Γ xs).map Prod.snd → okR L Γ xs
  | [], _ => trivial
  | x :: r, h => by
    unfold okR
    unfold owl at h
    split at h
    · rename_i g n sz hx
      rw [hx]
      split at h
      · rename_i cs hg
        rw [List.map_cons, List.map_cons, List.cons.injEq] at h
        refine ⟨fun cs' h' => ?_, owl_ok h.2⟩
        have : cs' = cs := by rw [hg] at h'; injection h' with e; exact e.symm
        rw [this]; exact h.1
      · rename_i hg
        exact ⟨fun cs' h' => by (rw [hg] at h'; cases h'), owl_ok h⟩
    · rename_i hx
      refine ⟨?_, owl_ok h⟩
      cases e : ev L x with
      | none => trivial
      | some A => cases A <;> first | trivial | exact absurd e (hx _ _ _)
theorem okA_c {g n sz : Nat} {cs : List DV} (hg : (Γ g).bind AO.cells = some cs) (hl : cs.length = n * sz) : okr Γ (.ow g n sz) := fun cs' h => by rw [hg] at h; cases h; exact hl
theorem OT.cf {f : FuncId} {xs : List Operand} {at_ : Array TypeId} {Xs : List DV} {Y : DV} (hc : PF P f Xs Y) (h : (Nat.blt d C.n, mem V.cf f, evR L Γ xs, (owl L Γ xs).map Prod.fst) = (true, true, some Xs, (owl L Γ xs).map Prod.snd)) :
    OT P C ⟨some d, .call { callee := .value (.func f), args := xs.toArray, argTypes := at_ }, ty, pos, af, gd⟩ L Γ (upd L d (.f Y)) Γ := by
  obtain ⟨h1, h⟩ := pr2 h; obtain ⟨h2, h⟩ := pr2 h; obtain ⟨h3, h4⟩ := pr2 h
  exact OT.callf h1 (cf_of h2) h3 (owl_ok h4) hc
theorem OT.cc {f : FuncId} {xs : List Operand} {at_ : Array TypeId} {Xs : List DV} {Y : DV} (hc : PC P f Xs Y) (h : (Nat.blt d C.n, mem V.cf f, evD L xs) = (true, true, some Xs)) :
    OT P C ⟨some d, .call { callee := .value (.func f), args := xs.toArray, argTypes := at_ }, ty, pos, af, gd⟩ L Γ (upd L d (.d Y)) Γ := by
  obtain ⟨h1, h⟩ := pr2 h; obtain ⟨h2, h3⟩ := pr2 h
  exact OT.callc h1 (cf_of h2) h3 hc
theorem OT.co {f : FuncId} {xs : List Operand} {at_ : Array TypeId} {Xs : List DV} {e sz n : Nat} {cs : List DV} (g : Nat) (hc : PO P f Xs e sz n cs) (h : (Nat.blt d C.n, mem V.cf f, Γ g, evR L Γ xs, (owl L Γ xs).map Prod.fst) = (true, true, none, some Xs, (owl L Γ xs).map Prod.snd)) :
    OT P C ⟨some d, .call { callee := .value (.func f), args := xs.toArray, argTypes := at_ }, ty, pos, af, gd⟩ L Γ (upd L d (.ow g n sz)) (upd Γ g (.row e sz cs)) := by
  obtain ⟨h1, h⟩ := pr2 h; obtain ⟨h2, h⟩ := pr2 h; obtain ⟨h0, h⟩ := pr2 h; obtain ⟨h3, h4⟩ := pr2 h
  exact OT.callo g h1 h0 (cf_of h2) h3 (owl_ok h4) hc
def isD : AO → Bool
  | .dead => true
  | _ => false
theorem isD_no {o : AO} (h : isD o = false) : o ≠ .dead := by rintro rfl; cases h
theorem OT.cm {f : FuncId} {xs : List Operand} {at_ : Array TypeId} {As : List AV} {o o1 : AO} {cs : List DV} {Y : AV} (g : Nat) (o' : AO) (h : (Nat.blt d C.n, mem V.cf f, Γ g, o.cells, evM L g xs, o'.lend, o'.key, isD o') = (true, true, some o, some cs, some As, o1, o.key, false)) (hc : PM P f As o.lend o1 Y) (hY : plainB Y = true) :
    OT P C ⟨some d, .call { callee := .value (.func f), args := xs.toArray, argTypes := at_ }, ty, pos, af, gd⟩ L Γ (upd L d (backA g Y)) (upd Γ g o') := by
  obtain ⟨h1, h⟩ := pr2 h; obtain ⟨h2, h⟩ := pr2 h; obtain ⟨h3, h⟩ := pr2 h; obtain ⟨h4, h⟩ := pr2 h; obtain ⟨h5, h⟩ := pr2 h; obtain ⟨h6, h⟩ := pr2 h; obtain ⟨h7, h8⟩ := pr2 h
  exact OT.callm g h1 (cf_of h2) h3 h4 h5 h6 (isD_no h8) h7 hY hc
theorem OT.lm {t n : Nat} {x : Operand} {A : AV} {cs : List DV} (ds : List DV) (h : (Nat.blt d C.n, ev L x, A.dv, ls V.ty t, cs.take n, ds.length) = (true, some A, some (.el cs), some (some n), ds, n)) :
    OT P C ⟨some d, .load t x, ty, pos, af, gd⟩ L Γ (upd L d (A.re (.ag ds))) Γ := by
  obtain ⟨h1, h⟩ := pr2 h; obtain ⟨h2, h⟩ := pr2 h; obtain ⟨h3, h⟩ := pr2 h; obtain ⟨h4, h⟩ := pr2 h; obtain ⟨h5, h6⟩ := pr2 h
  exact OT.ldem h1 h2 h3 h5 h6 (Okl.get V.hty h4)
theorem OT.lp {t g off n : Nat} {x : Operand} {o : AO} {cs : List DV} (ds : List DV) (h : (Nat.blt d C.n, ev L x, Γ g, o.cells, ls V.ty t, (cs.drop off).take n, ds.length) = (true, some (.ptr g off), some o, some cs, some (some n), ds, n)) :
    OT P C ⟨some d, .load t x, ty, pos, af, gd⟩ L Γ (upd L d (.d (.ag ds))) Γ := by
  obtain ⟨h1, h⟩ := pr2 h; obtain ⟨h2, h⟩ := pr2 h; obtain ⟨h3, h⟩ := pr2 h; obtain ⟨h4, h⟩ := pr2 h; obtain ⟨h5, h⟩ := pr2 h; obtain ⟨h6, h7⟩ := pr2 h
  exact OT.ldpm h1 h2 h3 h4 h6 h7 (Okl.get V.hty h5)
theorem OT.bv {op : BinOp} {xt yt : TypeId} {x y : Operand} {u1 u2 u : Value} (u' : Value) (h : (Nat.blt d C.n, evv L x, evv L y, bo op u1 u2) = (true, some u1, some u2, some u)) (hu : u = u') :
    OT P C ⟨some d, .binOp op xt x y yt, ty, pos, af, gd⟩ L Γ (upd L d (.f (.v u'))) Γ := by
  obtain ⟨h1, h⟩ := pr2 h; obtain ⟨h2, h⟩ := pr2 h; obtain ⟨h3, h4⟩ := pr2 h
  exact OT.binv u' h1 h2 h3 h4 hu
theorem OT.bd {t : TypeId} {ps : List (Nat × Operand)} {Xs : List (Nat × DV)} {zs : List Value} {pl : List (Nat × Nat)} (ds : List DV) (h : (Nat.blt d C.n, evP L ps, ls V.sp t, zs.all Value.oneCell', bldD pl (zs.map .v) Xs) = (true, some Xs, some (zs, pl), true, some ds)) :
    OT P C ⟨some d, .build t ps.toArray, ty, pos, af, gd⟩ L Γ (upd L d (.d (.ag ds))) Γ := by
  obtain ⟨h1, h⟩ := pr2 h; obtain ⟨h2, h⟩ := pr2 h; obtain ⟨h3, h⟩ := pr2 h; obtain ⟨h4, h5⟩ := pr2 h
  exact OT.build h1 h2 (Okl.get V.hsp h3) h4 h5
theorem OT.ix {α : Type} {enc : α → List DV} {sz : Nat} {xs : List α} {t e : TypeId} {x y : Operand} {A : AV} {k : IntKind} {i : Int} (v : α) (h : (Nat.blt d C.n, ev L x, A.dv, evv L y, ls V.el t) = (true, some A, some (slT enc sz xs), some (.int k i), some (e, sz))) (he : ∀ z, (enc z).length = sz) (h0 : 0 ≤ i) (hv : xs[i.toNat]? = some v) :
    OT P C ⟨some d, .indexAddr t x y, ty, pos, af, gd⟩ L Γ (upd L d (A.re (.el (enc v)))) Γ := by
  obtain ⟨h1, h⟩ := pr2 h; obtain ⟨h2, h⟩ := pr2 h; obtain ⟨h3, h⟩ := pr2 h; obtain ⟨h4, h5⟩ := pr2 h
  exact OT.idx v h1 h2 h3 h4 (Okl.get V.hel h5) he h0 hv
theorem OT.ixo {t e n sz g : Nat} {x y : Operand} {k : IntKind} {i : Int} {o : AO} {cs : List DV} (h : (Nat.blt d C.n, ev L x, evv L y, Γ g, o.cells, ls V.el t) = (true, some (.ow g n sz), some (.int k i), some o, some cs, some (e, sz))) (h0 : 0 ≤ i) (h1 : i < n) :
    OT P C ⟨some d, .indexAddr t x y, ty, pos, af, gd⟩ L Γ (upd L d (.ptr g (i.toNat * sz))) Γ := by
  obtain ⟨k1, h⟩ := pr2 h; obtain ⟨k2, h⟩ := pr2 h; obtain ⟨k3, h⟩ := pr2 h; obtain ⟨k4, h⟩ := pr2 h; obtain ⟨k5, k6⟩ := pr2 h
  exact OT.idxo k1 k2 k3 k4 k5 (Okl.get V.hel k6) h0 h1
theorem OT.cv {src dst : TypeId} {x : Operand} {k k' : IntKind} {n : Int} (m : Int) (h : (Nat.blt d C.n, evv L x, ls V.uk src, ls V.uk dst) = (true, some (.int k n), some k, some k')) (hm : k'.wrap n = m) :
    OT P C ⟨some d, .convert src dst x, ty, pos, af, gd⟩ L Γ (upd L d (.f (.v (.int k' m)))) Γ := by
  obtain ⟨h1, h⟩ := pr2 h; obtain ⟨h2, h⟩ := pr2 h; obtain ⟨h3, h4⟩ := pr2 h
  exact OT.conviv m h1 h2 (Okl.get V.huk h3) (Okl.get V.huk h4) hm
theorem OT.ba {t e sz by_ len : Nat} {ps : List (Nat × Operand)} {Xs : List (Nat × DV)} {zs : List Value} {ds : List DV} (g : Nat) (h : (Nat.blt d C.n, Γ g, evP L ps, ls V.ap t, ls V.zc e, zs.all Value.oneCell', Nat.blt 0 (len * sz) && Nat.ble (len * sz) 16777216, bldD (plN sz 0 len) ((zrow zs len).map .v) Xs) = (true, none, some Xs, some (e, sz, by_), some zs, true, true, some ds)) :
    OT P C ⟨some d, .buildSlice t len ps.toArray, ty, pos, af, gd⟩ L Γ (upd L d (.ow g len sz)) (upd Γ g (.row e sz ds)) := by
  obtain ⟨h1, h⟩ := pr2 h; obtain ⟨h2, h⟩ := pr2 h; obtain ⟨h3, h⟩ := pr2 h; obtain ⟨h4, h⟩ := pr2 h; obtain ⟨h5, h⟩ := pr2 h; obtain ⟨h6, h⟩ := pr2 h; obtain ⟨h7, h8⟩ := pr2 h
  exact OT.buildsl g h1 h2 h3 (Okl.get V.hap h4) (Okl.get V.hzc h5) h6 h7 h8
theorem OT.bb {t e sz by_ len : Nat} {ps : List (Nat × Operand)} {Xs : List (Nat × DV)} {zs : List Value} (ds : List DV) (g : Nat) (h : (Nat.blt d C.n, Γ g, evP L ps, ls V.ap t, ls V.zc e, zs.all Value.oneCell', Nat.blt 0 (len * sz) && Nat.ble (len * sz) 16777216, bldD (plN sz 0 len) ((zrow zs len).map .v) Xs) = (true, none, some Xs, some (e, sz, by_), some zs, true, true, some ds)) :
    OT P C ⟨some d, .buildSlice t len ps.toArray, ty, pos, af, gd⟩ L Γ (upd L d (.ow g len sz)) (upd Γ g (.row e sz ds)) := OT.ba g h
theorem OT.ap {t e sz by_ g n m : Nat} {s x : Operand} {cs ds : List DV} {A : AV} (g' : Nat) (h : (Nat.blt d C.n, ev L s, Γ g, Γ g', ls V.ap t, ev L x, rdv Γ A, (owl L Γ [x]).map Prod.fst) = (true, some (.ow g n sz), some (.row e sz cs), none, some (e, sz, by_), some A, some (.sl sz m ds), (owl L Γ [x]).map Prod.snd)) (hl : cs.length = n * sz) (h1 : ds.all DV.one = true) (hbig : (n + m) * by_ ≤ 140737488355328) (hmax : n + m ≤ 1099511627776) :
    OT P C ⟨some d, .call { callee := .builtin .append, args := #[s, x], argTypes := #[t, t] }, ty, pos, af, gd⟩ L Γ (upd L d (.ow g' (n + m) sz)) (upd (upd Γ g .dead) g' (.row e sz (cs ++ ds))) := by
  obtain ⟨k1, h⟩ := pr2 h; obtain ⟨k2, h⟩ := pr2 h; obtain ⟨k3, h⟩ := pr2 h; obtain ⟨k4, h⟩ := pr2 h; obtain ⟨k5, h⟩ := pr2 h; obtain ⟨k6, h⟩ := pr2 h; obtain ⟨k7, k8⟩ := pr2 h
  refine OT.append g' k1 k2 k3 hl k4 (Okl.get V.hap k5) k6 k7 ?_ h1 hbig hmax
  have := owl_ok k8
  unfold okR at this
  rw [k6] at this
  cases A <;> first | exact this.1 | trivial
theorem OT.convbd {src dst e : TypeId} {x : Operand} {l : List UInt8} (hn : Nat.blt d C.n = true) (hx : evd L x = some (slT bdv 1 l)) (hs : u8s P src = some e) (hd : uks P dst = true) :
    OT P C ⟨some d, .convert src dst x, ty, pos, af, gd⟩ L Γ (upd L d (.f (.v (.string ⟨⟨l⟩⟩)))) Γ := by
  unfold evd at hx
  cases hA : ev L x with
  | none => simp [hA] at hx
  | some A =>
    rw [hA, Option.bind_some] at hx
    refine .convbs (A := A) hn hA ?_ ?_ hs hd
    · cases A <;> simp [AV.dv, rdv] at hx ⊢ <;> exact hx
    · cases A <;> simp [AV.dv, okr] at hx ⊢
end
end Go.Proofs.YtdjcclcejmeheaaGreat.Pl

