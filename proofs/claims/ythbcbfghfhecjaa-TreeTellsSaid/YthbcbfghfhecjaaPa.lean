/-
  A logic of walks: what is known of a frame and of memory, without addresses: values that read as data, blocks of one's own.
-/
import Derived.Test.YthbcbfghfhecjaaProg
import Derived.WalkKit
import Derived.Below
import Derived.KernelRfl
import Derived.Lib.Hide
import Derived.Orders
import Derived.OwnWalk
import Derived.Laws.OwnMore
import Derived.Laws.Rows
import Derived.Laws.CopyRow
namespace Go.Proofs.Ythbcbfghfhecjaa.Pl
set_option linter.unusedVariables false
set_option linter.unusedSimpArgs false
open Go.RowKit

theorem addr_add (b o j : Nat) : (⟨b, o, none⟩ : Addr).add j = ⟨b, o + j, none⟩ := by
  unfold Addr.add; split
  · rename_i h; subst h; rfl
  · rfl
/-- A value, as far as it is known, wherever its parts lie. -/
inductive DV where
  | v (u : Value)
  | sl (sz n : Nat) (cs : List DV)
  | el (cs : List DV)
  | ag (cs : List DV)
  | tp (cs : List DV)
  | fn (f : Fn) (first caps : List DV)

mutual
def DV.rep (K : Nat → Prop) (w : World) : DV → Value → Prop
  | .v u, x => x = u
  | .sl sz n cs, x => (x = .slice none 0 0 ∧ n = 0 ∧ cs = []) ∨
      ∃ b o c, x = .slice (some ⟨b, o, none⟩) n c ∧ n ≤ c ∧ c ≤ maxLen ∧ cs.length = n * sz ∧ (cs = [] ∨ (b < w.heap.size ∧ ¬ K b)) ∧ repAt K w cs b o
  | .el cs, x => ∃ b o, x = .pointer (some ⟨b, o, none⟩) ∧ (cs = [] ∨ (b < w.heap.size ∧ ¬ K b)) ∧ repAt K w cs b o
  | .ag cs, x => ∃ us, x = .agg us.toArray ∧ repL K w cs us
  | .tp cs, x => ∃ us, x = .tuple us.toArray ∧ repL K w cs us
  | .fn f a c, x => ∃ us vs, x = .func f us.toArray vs.toArray ∧ repL K w a us ∧ repL K w c vs
def repL (K : Nat → Prop) (w : World) : List DV → List Value → Prop
  | [], us => us = []
  | X :: Xs, us => ∃ u t, us = u :: t ∧ X.rep K w u ∧ repL K w Xs t
def repAt (K : Nat → Prop) (w : World) : List DV → Nat → Nat → Prop
  | [], _, _ => True
  | X :: Xs, b, o => (∃ u, w.cell? ⟨b, o, none⟩ = some u ∧ u.oneCell' = true ∧ X.rep K w u) ∧ repAt K w Xs b (o + 1)
end

/-- What holds of old blocks that nobody may turn goes on holding. -/
def Keeps (K K' : Nat → Prop) (w w' : World) : Prop := ∀ b, b < w.heap.size → ¬ K b → w'.heap[b]? = w.heap[b]? ∧ b < w'.heap.size ∧ ¬ K' b
mutual
theorem DV.rep_mono {K K' : Nat → Prop} {w w' : World} (h : Keeps K K' w w') : ∀ (X : DV) (u : Value), X.rep K w u → X.rep K' w' u
  | .v _, _, hx => hx
  | .sl sz n cs, x, hx => by
    unfold DV.rep at hx ⊢
    rcases hx with hx | ⟨b, o, c, hv, h1, h2, h3, h4, h5⟩
    · exact .inl hx
    · refine .inr ⟨b, o, c, hv, h1, h2, h3, ?_, repAt_mono h cs b o ?_ h5⟩
      · rcases h4 with h4 | ⟨h4, h6⟩
        · exact .inl h4
        · exact .inr (h b h4 h6).2
      · exact h4
  | .el cs, x, hx => by
    unfold DV.rep at hx ⊢
    obtain ⟨b, o, hv, h4, h5⟩ := hx
    refine ⟨b, o, hv, ?_, repAt_mono h cs b o h4 h5⟩
    rcases h4 with h4 | ⟨h4, h6⟩
    · exact .inl h4
    · exact .inr (h b h4 h6).2
  | .ag cs, x, hx => by
    unfold DV.rep at hx ⊢
    obtain ⟨us, hv, h1⟩ := hx
    exact ⟨us, hv, repL_mono h cs us h1⟩
  | .tp cs, x, hx => by
    unfold DV.rep at hx ⊢
    obtain ⟨us, hv, h1⟩ := hx
    exact ⟨us, hv, repL_mono h cs us h1⟩
  | .fn f a c, x, hx => by
    unfold DV.rep at hx ⊢
    obtain ⟨us, vs, hv, h1, h2⟩ := hx
    exact ⟨us, vs, hv, repL_mono h a us h1, repL_mono h c vs h2⟩
theorem repL_mono {K K' : Nat → Prop} {w w' : World} (h : Keeps K K' w w') : ∀ (cs : List DV) (us : List Value), repL K w cs us → repL K' w' cs us
  | [], us, hx => by
    unfold repL at hx ⊢; exact hx
  | X :: Xs, us, hx => by
    unfold repL at hx ⊢
    obtain ⟨u, t, rfl, h1, h2⟩ := hx
    exact ⟨u, t, rfl, DV.rep_mono h X u h1, repL_mono h Xs t h2⟩
theorem repAt_mono {K K' : Nat → Prop} {w w' : World} (h : Keeps K K' w w') : ∀ (cs : List DV) (b o : Nat), (cs = [] ∨ (b < w.heap.size ∧ ¬ K b)) → repAt K w cs b o → repAt K' w' cs b o
  | [], b, o, _, _ => by
    unfold repAt; trivial
  | X :: Xs, b, o, hb, hx => by
    unfold repAt at hx ⊢
    obtain ⟨⟨u, hu, h1, h2⟩, h3⟩ := hx
    obtain ⟨hb1, hb2⟩ : b < w.heap.size ∧ ¬ K b := hb.resolve_left (by simp)
    exact ⟨⟨u, by rw [World.cell?_of_block (w := w) (h b hb1 hb2).1]; exact hu, h1, DV.rep_mono h X u h2⟩, repAt_mono h Xs b (o + 1) (.inr ⟨hb1, hb2⟩) h3⟩
end

theorem repL_length {K : Nat → Prop} {w : World} : ∀ {cs : List DV} {us : List Value}, repL K w cs us → us.length = cs.length
  | [], us, h => by unfold repL at h; simp [h]
  | X :: Xs, us, h => by
    unfold repL at h
    obtain ⟨u, t, rfl, _, h2⟩ := h
    simp [repL_length h2]
theorem repL_get {K : Nat → Prop} {w : World} : ∀ {cs : List DV} {us : List Value} {i : Nat} {X : DV}, repL K w cs us → cs[i]? = some X → ∃ u, us[i]? = some u ∧ X.rep K w u
  | [], us, i, X, h, hi => by simp at hi
  | Y :: Ys, us, 0, X, h, hi => by
    unfold repL at h
    obtain ⟨u, t, rfl, h1, h2⟩ := h
    simp at hi; subst hi
    exact ⟨u, by simp, h1⟩
  | Y :: Ys, us, i + 1, X, h, hi => by
    unfold repL at h
    obtain ⟨u, t, rfl, h1, h2⟩ := h
    simp at hi
    obtain ⟨u', h3, h4⟩ := repL_get h2 hi
    exact ⟨u', by simpa using h3, h4⟩
theorem repL_append {K : Nat → Prop} {w : World} : ∀ {cs ds : List DV} {us vs : List Value}, repL K w cs us → repL K w ds vs → repL K w (cs ++ ds) (us ++ vs)
  | [], ds, us, vs, h, k => by unfold repL at h; subst h; simpa using k
  | X :: Xs, ds, us, vs, h, k => by
    unfold repL at h
    obtain ⟨u, t, rfl, h1, h2⟩ := h
    rw [List.cons_append]; unfold repL
    exact ⟨u, t ++ vs, by simp, h1, repL_append h2 k⟩
theorem repL_take {K : Nat → Prop} {w : World} : ∀ {cs : List DV} {us : List Value} (n : Nat), repL K w cs us → repL K w (cs.take n) (us.take n)
  | cs, us, 0, h => by simp [repL]
  | [], us, n + 1, h => by unfold repL at h; subst h; simp [repL]
  | X :: Xs, us, n + 1, h => by
    unfold repL at h
    obtain ⟨u, t, rfl, h1, h2⟩ := h
    rw [List.take_succ_cons, List.take_succ_cons]; unfold repL
    exact ⟨u, t.take n, rfl, h1, repL_take n h2⟩
theorem repL_drop {K : Nat → Prop} {w : World} : ∀ {cs : List DV} {us : List Value} (n : Nat), repL K w cs us → repL K w (cs.drop n) (us.drop n)
  | cs, us, 0, h => by simpa using h
  | [], us, n + 1, h => by unfold repL at h; subst h; simp [repL]
  | X :: Xs, us, n + 1, h => by
    unfold repL at h
    obtain ⟨u, t, rfl, h1, h2⟩ := h
    rw [List.drop_succ_cons, List.drop_succ_cons]
    exact repL_drop n h2
theorem repAt_get {K : Nat → Prop} {w : World} : ∀ {cs : List DV} {b o i : Nat} {X : DV}, repAt K w cs b o → cs[i]? = some X → ∃ u, w.cell? ⟨b, o + i, none⟩ = some u ∧ u.oneCell' = true ∧ X.rep K w u
  | [], b, o, i, X, h, hi => by simp at hi
  | Y :: Ys, b, o, 0, X, h, hi => by
    unfold repAt at h
    simp at hi; subst hi
    exact h.1
  | Y :: Ys, b, o, i + 1, X, h, hi => by
    unfold repAt at h
    obtain ⟨u, h1, h2, h3⟩ := repAt_get h.2 (by simpa using hi)
    exact ⟨u, by rw [show o + (i + 1) = o + 1 + i by omega]; exact h1, h2, h3⟩
theorem repAt_drop {K : Nat → Prop} {w : World} : ∀ {cs : List DV} {b o : Nat} (n : Nat), repAt K w cs b o → repAt K w (cs.drop n) b (o + n)
  | cs, b, o, 0, h => by simpa using h
  | [], b, o, n + 1, h => by simp [repAt]
  | X :: Xs, b, o, n + 1, h => by
    unfold repAt at h
    rw [List.drop_succ_cons, show o + (n + 1) = o + 1 + n by omega]
    exact repAt_drop n h.2
theorem repAt_take {K : Nat → Prop} {w : World} : ∀ {cs : List DV} {b o : Nat} (n : Nat), repAt K w cs b o → repAt K w (cs.take n) b o
  | cs, b, o, 0, h => by simp [repAt]
  | [], b, o, n + 1, h => by simp [repAt]
  | X :: Xs, b, o, n + 1, h => by
    unfold repAt at h
    rw [List.take_succ_cons]; unfold repAt
    exact ⟨h.1, repAt_take n h.2⟩
/-- The cells of a list as values. -/
theorem repAt_vals {K : Nat → Prop} {w : World} : ∀ {cs : List DV} {b o : Nat}, repAt K w cs b o → ∃ us, repL K w cs us ∧ (∀ j u, us[j]? = some u → w.cell? ⟨b, o + j, none⟩ = some u) ∧ ∀ u ∈ us, u.oneCell' = true
  | [], b, o, h => ⟨[], by simp [repL], by simp, by simp⟩
  | X :: Xs, b, o, h => by
    unfold repAt at h
    obtain ⟨⟨u, h1, h2, h3⟩, h4⟩ := h
    obtain ⟨us, k1, k2, k3⟩ := repAt_vals h4
    refine ⟨u :: us, by unfold repL; exact ⟨u, us, rfl, h3, k1⟩, ?_, ?_⟩
    · intro j x hj
      cases j with
      | zero => simp at hj; subst hj; exact h1
      | succ j => rw [show o + (j + 1) = o + 1 + j by omega]; exact k2 j x (by simpa using hj)
    · intro x hx
      rcases List.mem_cons.1 hx with rfl | hx
      · exact h2
      · exact k3 x hx
theorem repAt_of_cells {K : Nat → Prop} {w : World} : ∀ {cs : List DV} {us : List Value} {b o : Nat}, repL K w cs us → (∀ j u, us[j]? = some u → w.cell? ⟨b, o + j, none⟩ = some u) → (∀ u ∈ us, u.oneCell' = true) → repAt K w cs b o
  | [], us, b, o, h, _, _ => by unfold repAt; trivial
  | X :: Xs, us, b, o, h, hc, h1 => by
    unfold repL at h
    obtain ⟨u, t, rfl, h3, h4⟩ := h
    unfold repAt
    refine ⟨⟨u, hc 0 u (by simp), h1 u (by simp), h3⟩, repAt_of_cells h4 (fun j x hj => ?_) (fun x hx => h1 x (by simp [hx]))⟩
    rw [show o + 1 + j = o + (j + 1) by omega]
    exact hc (j + 1) x (by simpa using hj)

/-- What a slot holds: a closed value (d), one whose blocks are all new (f), an address in a block of one's own, a slice of such a block, a row that may grow. -/
inductive AV where
  | d (x : DV)
  | f (x : DV)
  | ptr (g off : Nat)
  | bs (g off n sz : Nat)
  | ow (g n sz : Nat)
inductive AO where
  | dead
  | box (T : TypeId) (cs : List DV)
  | row (T : TypeId) (sz : Nat) (cs : List DV)
  | mbox (k : Nat) (T : TypeId) (cs : List DV)
  | mrow (k : Nat) (T : TypeId) (sz : Nat) (cs : List DV)
/-- Which block that the caller lends it is. -/
def AO.key : AO → Option Nat
  | .mbox k .. => some k
  | .mrow k .. => some k
  | _ => none

def bsz (w : World) (b : Nat) : Nat := match w.heap[b]? with | some (.cells c _ _) => c.size | _ => 0
abbrev Rho := Nat → Option (Option Nat)
def AV.rep (ρ : Rho) (K : Nat → Prop) (B : Nat) (w : World) : AV → Value → Prop
  | .d X, u => X.rep K w u
  | .f X, u => X.rep (fun b => K b ∨ b < B) w u
  | .ptr g off, u => ∀ ob, ρ g = some ob → ∃ b, ob = some b ∧ u = .pointer (some ⟨b, off, none⟩)
  | .bs g off n sz, u => ∀ ob, ρ g = some ob → ∃ b c, ob = some b ∧ u = .slice (some ⟨b, off, none⟩) n c ∧ n ≤ c ∧ c ≤ maxLen ∧ off + c * sz ≤ bsz w b
  | .ow g n sz, u => ∀ ob, ρ g = some ob → (ob = none ∧ u = .slice none 0 0 ∧ n = 0) ∨ ∃ b c, ob = some b ∧ u = .slice (some ⟨b, 0, none⟩) n c ∧ n ≤ c ∧ c ≤ maxLen ∧ c * sz = bsz w b
def AO.rep (K : Nat → Prop) (w : World) : AO → Option Nat → Prop
  | .dead, _ => True
  | .box T cs, ob => ∃ (b : Nat) (us : List Value), ob = some b ∧ w.heap[b]? = some (.cells us.toArray T (0, 0)) ∧ repL K w cs us ∧ ∀ u ∈ us, u.oneCell' = true
  | .row T sz cs, ob => (ob = none ∧ cs = []) ∨ ∃ (b : Nat) (us : List Value) (cap : Nat), ob = some b ∧ w.heap[b]? = some (.cells us.toArray T (0, 0)) ∧ us.length = cap * sz ∧ cap ≤ maxLen ∧ cs.length ≤ us.length ∧ repL K w cs (us.take cs.length) ∧ ∀ u ∈ us.take cs.length, u.oneCell' = true
  | .mbox _ T cs, ob => ∃ (b : Nat) (us : List Value), ob = some b ∧ w.heap[b]? = some (.cells us.toArray T (0, 0)) ∧ repL K w cs us ∧ ∀ u ∈ us, u.oneCell' = true
  | .mrow _ T sz cs, ob => (ob = none ∧ cs = []) ∨ ∃ (b : Nat) (us : List Value) (cap : Nat), ob = some b ∧ w.heap[b]? = some (.cells us.toArray T (0, 0)) ∧ us.length = cap * sz ∧ cap ≤ maxLen ∧ cs.length ≤ us.length ∧ repL K w cs (us.take cs.length) ∧ ∀ u ∈ us.take cs.length, u.oneCell' = true
def AV.id : AV → Option Nat
  | .ptr g _ => some g
  | .bs g _ _ _ => some g
  | .ow g _ _ => some g
  | _ => none
def AV.dv : AV → Option DV
  | .d X => some X
  | .f X => some X
  | _ => none

abbrev Lo := Nat → Option AV
abbrev Ga := Nat → Option AO
def upd {α : Type} (f : Nat → Option α) (d : Nat) (x : α) : Nat → Option α := fun t => bif Nat.beq t d then some x else f t
def ls {α : Type} : List (Nat × α) → Nat → Option α
  | [], _ => none
  | (d, x) :: r, t => bif Nat.beq t d then some x else ls r t
theorem upd_same {α : Type} (f : Nat → Option α) (d : Nat) (x : α) : upd f d x d = some x := by simp [upd]
theorem upd_other {α : Type} (f : Nat → Option α) (d : Nat) (x : α) (t : Nat) (h : t ≠ d) : upd f d x t = f t := by
  unfold upd; rw [show Nat.beq t d = false from by rw [← Bool.not_eq_true, Nat.beq_eq]; exact h]; rfl
theorem upd_some {α : Type} {f : Nat → Option α} {d : Nat} {x : α} {t : Nat} {y : α} (h : upd f d x t = some y) : (t = d ∧ y = x) ∨ (t ≠ d ∧ f t = some y) := by
  by_cases e : t = d
  · subst e; rw [upd_same] at h; exact .inl ⟨rfl, by injection h with h; exact h.symm⟩
  · rw [upd_other _ _ _ _ e] at h; exact .inr ⟨e, h⟩

def live (Γ : Ga) (g : Nat) : Prop := ∃ o, Γ g = some o ∧ o ≠ .dead
def KK (K0 : Nat → Prop) (ρ : Rho) (Γ : Ga) (b : Nat) : Prop := K0 b ∨ ∃ g, live Γ g ∧ ρ g = some (some b)

/-- A call: the world that it began in, what others may turn, the frame's size. -/
structure Cx where
  w0 : World
  K0 : Nat → Prop
  n : Nat
  M : Nat → Option (Option Nat)
/-- The blocks that are lent. -/
def Cx.MB (C : Cx) (b : Nat) : Prop := ∃ k, C.M k = some (some b)
/-- What was there stays, but for what is lent. -/
structure Kept (M : Nat → Prop) (w w' : World) : Prop where
  os : w'.os = w.os
  tape : w'.tape = w.tape
  output : w'.output = w.output
  size : w.heap.size ≤ w'.heap.size
  block : ∀ k, k < w.heap.size → ¬ M k → w'.heap[k]? = w.heap[k]?
  msz : ∀ k, k < w.heap.size → bsz w' k = bsz w k
theorem bsz_block' {w w' : World} {b : Nat} (h : w'.heap[b]? = w.heap[b]?) : bsz w' b = bsz w b := by unfold bsz; rw [h]
theorem Kept.refl (M : Nat → Prop) (w : World) : Kept M w w := ⟨rfl, rfl, rfl, Nat.le_refl _, fun _ _ _ => rfl, fun _ _ => rfl⟩
theorem Kept.ext {M : Nat → Prop} {a w w' : World} (h : Kept M a w) (hb : Below w.heap.size w w') : Kept M a w' :=
  ⟨hb.os.trans h.os, hb.tape.trans h.tape, hb.output.trans h.output, Nat.le_trans h.size hb.size, fun k hk hm => (hb.block k (Nat.lt_of_lt_of_le hk h.size)).trans (h.block k hk hm), fun k hk => (bsz_block' (hb.block k (Nat.lt_of_lt_of_le hk h.size))).trans (h.msz k hk)⟩
theorem Kept.grown {M : Nat → Prop} {a w w' : World} {row : Option Nat} (h : Kept M a w) (hg : w.grownBy w' row) (hr : ∀ k, row = some k → a.heap.size ≤ k ∨ (M k ∧ bsz w' k = bsz w k)) : Kept M a w' := by
  refine ⟨hg.os.trans h.os, hg.tape.trans h.tape, hg.output.trans h.output, Nat.le_trans h.size hg.size, fun k hk hm => ?_, fun k hk => ?_⟩
  · exact (hg.block k (Nat.lt_of_lt_of_le hk h.size) (fun e => (hr k (by cases e; rfl)).elim (fun q => by omega) (fun q => hm q.1))).trans (h.block k hk hm)
  · by_cases e : row = some k
    · rcases hr k e with q | q
      · omega
      · exact q.2.trans (h.msz k hk)
    · exact (bsz_block' (hg.block k (Nat.lt_of_lt_of_le hk h.size) (fun x => e (by rw [← x])))).trans (h.msz k hk)
theorem Kept.below {M : Nat → Prop} {w w' : World} (h : Kept M w w') (hM : ∀ b, ¬ M b) : Below w.heap.size w w' := ⟨h.os, h.tape, h.output, h.size, fun k hk => h.block k hk (hM k)⟩
structure RepsAt (C : Cx) (ρ : Rho) (L : Lo) (Γ : Ga) (a : Act) (w : World) : Prop where
  df : a.defers = []
  sz : a.tmps.size = C.n
  k0 : ∀ b, C.K0 b → b < C.w0.heap.size ∧ ¬ C.MB b
  fr : Kept C.MB C.w0 w
  dom : ∀ g, ¬ live Γ g → ρ g = none
  ment : ∀ t X g, L t = some X → X.id = some g → Γ g ≠ none
  lt : ∀ g b, ρ g = some (some b) → b < w.heap.size
  inj : ∀ g g' b, ρ g = some (some b) → ρ g' = some (some b) → live Γ g → live Γ g' → g = g'
  new : ∀ g b o, Γ g = some o → o ≠ .dead → o.key = none → ρ g = some (some b) → C.w0.heap.size ≤ b
  len : ∀ g o k ob, Γ g = some o → o.key = some k → ρ g = some ob → C.M k = some ob
  obj : ∀ g o, Γ g = some o → o ≠ .dead → ∃ ob, ρ g = some ob ∧ o.rep (KK C.K0 ρ Γ) w ob
  slot : ∀ t X, L t = some X → X.rep ρ (KK C.K0 ρ Γ) C.w0.heap.size w (a.tmps.getD t undef)
def Reps (C : Cx) (L : Lo) (Γ : Ga) (a : Act) (w : World) : Prop := ∃ ρ, RepsAt C ρ L Γ a w

theorem Keeps.widen {K K' J : Nat → Prop} {w w' : World} (h : Keeps K K' w w') : Keeps (fun b => K b ∨ J b) (fun b => K' b ∨ J b) w w' :=
  fun b hb hk => ⟨(h b hb (fun x => hk (.inl x))).1, (h b hb (fun x => hk (.inl x))).2.1, fun x => x.elim (h b hb (fun x => hk (.inl x))).2.2 (fun x => hk (.inr x))⟩
theorem Keeps.below {K : Nat → Prop} {w w' : World} (h : Below w.heap.size w w') : Keeps K K w w' := fun b hb hk => ⟨h.block b hb, Nat.lt_of_lt_of_le hb h.size, hk⟩
theorem bsz_block {w w' : World} {b : Nat} (h : w'.heap[b]? = w.heap[b]?) : bsz w' b = bsz w b := by unfold bsz; rw [h]
/-- A slot's value goes on where old blocks keep. -/
theorem AV.rep_mono {ρ : Rho} {K K' : Nat → Prop} {B : Nat} {w w' : World} (h : Keeps K K' w w') (hs : ∀ g b, ρ g = some (some b) → bsz w' b = bsz w b) : ∀ (X : AV) (u : Value), X.rep ρ K B w u → X.rep ρ K' B w' u
  | .d X, u, hx => DV.rep_mono h X u hx
  | .f X, u, hx => DV.rep_mono (h.widen (J := fun b => b < B)) X u hx
  | .ptr g off, u, hx => hx
  | .bs g off n sz, u, hx => fun ob hob => by
    obtain ⟨b, c, rfl, h2, h3, h4, h5⟩ := hx ob hob
    exact ⟨b, c, rfl, h2, h3, h4, by rw [hs g b hob]; exact h5⟩
  | .ow g n sz, u, hx => fun ob hob => by
    rcases hx ob hob with hx | ⟨b, c, rfl, h2, h3, h4, h5⟩
    · exact .inl hx
    · exact .inr ⟨b, c, rfl, h2, h3, h4, by rw [hs g b hob]; exact h5⟩
theorem AO.rep_mono {K K' : Nat → Prop} {w w' : World} (h : Keeps K K' w w') {ob : Option Nat} (hb : ∀ b, ob = some b → w'.heap[b]? = w.heap[b]?) : ∀ (o : AO), o.rep K w ob → o.rep K' w' ob
  | .dead, _ => by unfold AO.rep; trivial
  | .box T cs, hx => by
    obtain ⟨b, us, rfl, h1, h2, h3⟩ := hx
    exact ⟨b, us, rfl, by rw [hb b rfl]; exact h1, repL_mono h cs us h2, h3⟩
  | .row T sz cs, hx => by
    rcases hx with hx | ⟨b, us, cap, rfl, h1, h2, h3, h4, h5, h6⟩
    · exact .inl hx
    · exact .inr ⟨b, us, cap, rfl, by rw [hb b rfl]; exact h1, h2, h3, h4, repL_mono h _ _ h5, h6⟩
  | .mbox _ T cs, hx => by
    obtain ⟨b, us, rfl, h1, h2, h3⟩ := hx
    exact ⟨b, us, rfl, by rw [hb b rfl]; exact h1, repL_mono h cs us h2, h3⟩
  | .mrow _ T sz cs, hx => by
    rcases hx with hx | ⟨b, us, cap, rfl, h1, h2, h3, h4, h5, h6⟩
    · exact .inl hx
    · exact .inr ⟨b, us, cap, rfl, by rw [hb b rfl]; exact h1, h2, h3, h4, repL_mono h _ _ h5, h6⟩
/-- Behind a step that turns no old block. -/
theorem RepsAt.ext {C : Cx} {ρ : Rho} {L : Lo} {Γ : Ga} {a : Act} {w w' : World} (h : RepsAt C ρ L Γ a w) (hb : Below w.heap.size w w') : RepsAt C ρ L Γ a w' := by
  have hk : Keeps (KK C.K0 ρ Γ) (KK C.K0 ρ Γ) w w' := Keeps.below hb
  have hz : ∀ g b, ρ g = some (some b) → bsz w' b = bsz w b := fun g b hg => bsz_block (hb.block b (h.lt g b hg))
  exact ⟨h.df, h.sz, h.k0, h.fr.ext hb, h.dom, h.ment, fun g b hg => Nat.lt_of_lt_of_le (h.lt g b hg) hb.size, h.inj, h.new, h.len,
    fun g o ho hd => by
      obtain ⟨ob, h1, h2⟩ := h.obj g o ho hd
      exact ⟨ob, h1, AO.rep_mono hk (fun b e => hb.block b (h.lt g b (by rw [h1, e]))) o h2⟩,
    fun t X ht => AV.rep_mono hk hz X _ (h.slot t X ht)⟩
theorem getD_put (a : Act) (d t : Nat) (u : Value) (hd : d < a.tmps.size) : (a.put (some d) u).tmps.getD t undef = if t = d then u else a.tmps.getD t undef := by
  simp only [Act.put, Array.getD_eq_getD_getElem?]
  by_cases e : t = d
  · subst e; simp [hd]
  · rw [if_neg e, Array.getElem?_setIfInBounds_ne (Ne.symm e)]
theorem RepsAt.put {C : Cx} {ρ : Rho} {L : Lo} {Γ : Ga} {a : Act} {w : World} (h : RepsAt C ρ L Γ a w) {d : Nat} (hd : d < C.n) {X : AV} {u : Value} (hx : X.rep ρ (KK C.K0 ρ Γ) C.w0.heap.size w u) (hi : ∀ g, X.id = some g → Γ g ≠ none) :
    RepsAt C ρ (upd L d X) Γ (a.put (some d) u) w := by
  refine ⟨h.df, by simp [Act.put, h.sz], h.k0, h.fr, h.dom, fun t Y g ht hg => ?_, h.lt, h.inj, h.new, h.len, h.obj, fun t Y ht => ?_⟩
  · rcases upd_some ht with ⟨rfl, rfl⟩ | ⟨_, ht⟩
    · exact hi g hg
    · exact h.ment t Y g ht hg
  rw [getD_put a d t u (by rw [h.sz]; exact hd)]
  rcases upd_some ht with ⟨rfl, rfl⟩ | ⟨hne, ht⟩
  · rw [if_pos rfl]; exact hx
  · rw [if_neg hne]; exact h.slot t Y ht
theorem RepsAt.nodst {C : Cx} {ρ : Rho} {L : Lo} {Γ : Ga} {a : Act} {w : World} (h : RepsAt C ρ L Γ a w) (u : Value) : RepsAt C ρ L Γ (a.put none u) w := h
end Go.Proofs.Ythbcbfghfhecjaa.Pl
