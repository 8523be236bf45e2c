/-
  A logic of walks: a range over a function: the loop's record as an object, rounds, the end of a function that held one.
-/
import Derived.Test.YtejhgijjegnmnaaZPy
namespace Go.Proofs.Ytejhgijjegnmnaa.Pl
set_option linter.unusedVariables false
set_option linter.unusedSimpArgs false
open Go.RowKit
section
variable {P : Program} {C : Cx} {M : Fm} {Q : Exit → Act → World → Prop} {L : Lo} {Γ : Ga} {a : Act} {w : World}
/-- An object is laid. -/
theorem reps_objnew (g : Nat) (x : Obj) (hg : Γ g = none) (h : Reps C L Γ a w) : Reps C L (upd Γ g (.obj w.heap.size x)) a (w.alloc x) := by
  obtain ⟨ρ, h⟩ := h
  obtain ⟨ρ', h', _⟩ := h.fresh (g := g) (b := w.heap.size) (o' := .obj w.heap.size x) (w' := w.alloc x) hg (grown_alloc w x) ⟨Nat.le_refl _, by simp⟩ (by simp) rfl (fun K _ _ => ⟨rfl, World.alloc_heap_new w x⟩)
  exact ⟨ρ', h'⟩
theorem reps_objat {g b : Nat} {x : Obj} (hg : Γ g = some (.obj b x)) (h : Reps C L Γ a w) : w.heap[b]? = some x := by
  obtain ⟨ρ, h⟩ := h
  obtain ⟨ob, _, h2⟩ := h.obj g _ hg (by simp)
  exact h2.2
def noCells : Obj → Bool
  | .cells .. => false
  | _ => true
theorem bsz_no {w : World} {b : Nat} {x : Obj} (h : w.heap[b]? = some x) (hx : noCells x = true) : bsz w b = 0 := by
  unfold bsz; rw [h]; cases x <;> first | rfl | cases hx
/-- An object is turned. -/
theorem reps_objput {g b : Nat} {x : Obj} (y : Obj) (hx : noCells x = true) (hy : noCells y = true) (hg : Γ g = some (.obj b x)) (h : Reps C L Γ a w) : Reps C L (upd Γ g (.obj b y)) a (w.putObj b y) := by
  have hat := reps_objat hg h
  obtain ⟨ρ, h⟩ := h
  obtain ⟨ob, h1, h2, h3⟩ := h.obj g _ hg (by simp)
  subst h2
  have hlt := (Array.getElem?_eq_some_iff.1 hat).1
  have hat' : (w.putObj b y).heap[b]? = some y := World.putObj_heap_same hlt
  exact ⟨ρ, h.turn ⟨_, hg, by simp⟩ h1 (grownBy_putObj' w b y) (by rw [bsz_no hat' hy, bsz_no hat hx]) (by simp) (fun o ho => by rw [hg] at ho; cases ho; rfl) ⟨rfl, hat'⟩⟩
/-- Behind the assignments to a round's variables: the record becomes busy. -/
theorem TE.midF {A : Act → World → Prop} (h : TE C (fun a w => Fr M a → A { a with defers := M.ds } w) L Γ) : TE C (QF M (Exit.then A (fun _ _ _ => False)) .normal) L Γ := fun a w hr => ⟨reps_def hr, h a w hr⟩
theorem TE.weakF {l : List (Nat × AV)} {m : List (Nat × AO)} {gD gL : Nat} {oD oL : AO} (σ : Nat → Nat) (hσ : ∀ x y, σ x = σ y → x = y) (h : TE C (QF M Q .normal) (ls l) (upd (upd (ls m) gD oD) gL oL)) (hl : allL σ L (upd (upd (ls m) gD oD) gL oL) l) (hm : allG σ Γ ((gL, oL) :: (gD, oD) :: m)) : TE C (QF M Q .normal) L Γ := fun a w hr => by
  have e : ls ((gL, oL) :: (gD, oD) :: m) = upd (upd (ls m) gD oD) gL oL := by
    funext t; simp only [ls, upd]
  rw [← e] at hl h
  exact h a w (reps_weak σ hσ hl hm hr)
theorem PF.enterF {f : FuncId} {fn : Func} {c : Code} {Xs : List DV} {Y : DV} (hf : P.funcs[f]? = some fn) (hb : fn.body = some c) {nt : Nat} (hnt : fn.ntmps = nt) (hn : Nat.ble Xs.length nt = true)
    (h : ∀ w, TCF ⟨Fence.wide, 5, [], fun _ => undef, []⟩ P ⟨w, noK, nt, noM⟩ c (bodyPostM Fence.wide 5 P fn fun e w' => ∃ u, e = .returned u ∧ Below w.heap.size w w' ∧ ∀ K, (∀ b, K b → b < w.heap.size) → Y.rep K w' u) (argL Xs) (fun _ => none)) : PF P f Xs Y := fun w us hr => by
  subst hnt
  refine callsIn_wide.1 (callsIn_of_wp_marks hf hb trivial ((h w).2 _ _ (reps_enter (fun b hb => hb.elim) hr (by simpa using hn)) (fun t ht => by cases ht)))
theorem PC.enterF {f : FuncId} {fn : Func} {c : Code} {Xs : List DV} {Y : DV} (hf : P.funcs[f]? = some fn) (hb : fn.body = some c) {nt : Nat} (hnt : fn.ntmps = nt) (hn : Nat.ble Xs.length nt = true)
    (h : ∀ w K, TCF ⟨Fence.wide, 3 + 2, [], fun _ => undef, []⟩ P ⟨w, K, nt, noM⟩ c (bodyPostM Fence.wide (3 + 2) P fn fun e w' => ∃ u, e = .returned u ∧ Below w.heap.size w w' ∧ Y.rep K w' u) (argL Xs) (fun _ => none)) : PC P f Xs Y := fun w K us hK hr => by
  subst hnt
  refine callsIn_wide.1 (callsIn_of_wp_marks hf hb trivial ((h w K).2 _ _ (reps_enter hK hr (by simpa using hn)) (fun t ht => by cases ht)))
theorem TCF.map {c : Code} {L' : Lo} {Γ' : Ga} (h : ∀ a w, Reps C L Γ a w → Reps C L' Γ' a w) (k : TCF M P C c Q L' Γ') : TCF M P C c Q L Γ := ⟨k.1, fun a w hr hf => k.2 a w (h a w hr) hf⟩
/-- A named row is lent; nothing comes back. -/
theorem OT.callmn {d : Nat} {f : FuncId} {xs : List Operand} {at_ : Array TypeId} {As : List AV} {u : Value} {n T sz : Nat} {cs cs' : List DV} {ty : TypeId} {pos : String} {af : Array Edge} {gd : Option (Nat × Bool)} (g : Nat) (hn : Nat.blt d C.n = true) (hf : cfn P f = true) (hg : Γ g = some (.nrow u n T sz cs)) (hx : evM L g xs = some As) (hc : PM P f As (.mrow 0 T sz cs) (.mrow 0 T sz cs') (.d (.tp []))) :
    OT P C ⟨some d, .call { callee := .value (.func f), args := xs.toArray, argTypes := at_ }, ty, pos, af, gd⟩ L Γ (upd L d (.d (.tp []))) (upd Γ g (.nrow u n T sz cs')) := by
  rintro a w ⟨ρ, h⟩
  obtain ⟨ob, h1, h2⟩ := h.obj g _ hg (by simp)
  unfold Oper.wp
  rw [call_run hf, Oper.upon_enter]
  let K : Nat → Prop := fun b => KK C.K0 ρ Γ b ∧ ob ≠ some b
  have hKM : KM K ob = KK C.K0 ρ Γ := by
    funext b
    refine propext ⟨?_, fun hb => ?_⟩
    · rintro (hb | hb)
      · exact hb.1
      · exact .inr ⟨g, ⟨_, hg, by simp⟩, by rw [h1, hb]⟩
    · by_cases e : ob = some b
      · exact .inr e
      · exact .inl ⟨hb, e⟩
  refine (hc w K ob _ (fun b hb => ⟨kk_lt h b (.inl hb.1), hb.2⟩) (fun b e => h.lt g b (by rw [h1, e])) (by rw [hKM]; exact nrow_row h2) (by rw [hKM]; exact evM_rep h h1 hx)).mono ?_
  rintro r w' ⟨v, rfl, hkept, ho1, hY⟩
  rw [hKM] at ho1
  have hnew : (AO.nrow u n T sz cs').rep (KK C.K0 ρ Γ) w' ob := by
    rcases h2 with ⟨rfl, rfl, rfl, rfl⟩ | ⟨b, us, c, rfl, rfl, k1, k2, k3, k4, k5, _⟩
    · rcases ho1 with ⟨_, e⟩ | ⟨b', _, _, e, _⟩
      · exact .inl ⟨rfl, rfl, rfl, e⟩
      · cases e
    · rcases ho1 with ⟨e, _⟩ | ⟨b', us', cap, e, q1, q2, q3, q4, q5, q6⟩
      · cases e
      · cases e
        have hz := hkept.msz b (h.lt g b h1)
        have hz : us'.length = us.length := by unfold bsz at hz; rw [q1, k2] at hz; simpa using hz
        exact .inr ⟨b, us', c, rfl, rfl, k1, q1, by omega, k4, q4, q5, q6⟩
  have hl := h.lent (o' := .nrow u n T sz cs') hg (by simp) h1 hkept (by simp) rfl hnew
  exact ⟨ρ, hl.put (X := .d (.tp [])) (by simpa using hn) (by
    show DV.rep _ _ _ _
    have hY : DV.rep (KM K ob) w' (.tp []) v := hY
    unfold DV.rep at hY ⊢
    obtain ⟨us, e, hus⟩ := hY
    exact ⟨us, e, by unfold repL at hus ⊢; exact hus⟩) (fun g1 hg1 => by simp [AV.id] at hg1)⟩
end
end Go.Proofs.Ytejhgijjegnmnaa.Pl

