import Derived.Test.YtdjcclcejmeheaaGreatProg
import Derived.WalkKit
import Derived.Below
import Derived.KernelRfl
import Derived.Lib.Hide
import Derived.Orders
import Derived.OwnWalk
import Derived.Laws.OwnMore
import Derived.Laws.Rows
import Derived.Laws.CopyRow
import Derived.Great.Walk
import Derived.Maps.AppendAt
/-
  A logic of walks: what is known of a frame and of memory, without addresses: values that read as data, blocks of one's own. A logic of walks: operations one by one. A logic of walks: addresses, loads, stores, new blocks. A logic of walks: what is written, what is new. A logic of walks: stores, new variables, literals. A logic of walks: slices: their lengths, parts, what is appended, copied, converted. A logic of walks: rows that grow, slices that are made, conversions. A logic of walks: calls by contract; literals of slices; conversions; copy. A logic of walks: code: sequences, tests, blocks, loops. A logic of walks: where a call begins and ends.
-/
section
namespace Go.Proofs.YtdjcclcejmeheaaGreat.Pl
set_option linter.unusedVariables false
set_option linter.unusedSimpArgs false
open Go.RowKit
theorem addr_add (b o j : Nat) : (⟨b, o, none⟩ : Addr).add j = ⟨b, o + j, none⟩ := by
  unfold Addr.add; split
  · rename_i h; subst h; rfl
  · rfl
/-- A value, as far as it is known, wherever its parts lie. -/
inductive DV where
  | v (u : Value)
  | sl (sz n : Nat) (cs : List DV)
  | el (cs : List DV)
  | ag (cs : List DV)
  | tp (cs : List DV)
  | fn (f : Fn) (first caps : List DV)
mutual
def DV.rep (K : Nat → Prop) (w : World) : DV → Value → Prop
  | .v u, x => x = u
  | .sl sz n cs, x => (x = .slice none 0 0 ∧ n = 0 ∧ cs = []) ∨
      ∃ b o c, x = .slice (some ⟨b, o, none⟩) n c ∧ n ≤ c ∧ c ≤ maxLen ∧ cs.length = n * sz ∧ (cs = [] ∨ (b < w.heap.size ∧ ¬ K b)) ∧ repAt K w cs b o
  | .el cs, x => ∃ b o, x = .pointer (some ⟨b, o, none⟩) ∧ (cs = [] ∨ (b < w.heap.size ∧ ¬ K b)) ∧ repAt K w cs b o
  | .ag cs, x => ∃ us, x = .agg us.toArray ∧ repL K w cs us
  | .tp cs, x => ∃ us, x = .tuple us.toArray ∧ repL K w cs us
  | .fn f a c, x => ∃ us vs, x = .func f us.toArray vs.toArray ∧ repL K w a us ∧ repL K w c vs
def repL (K : Nat → Prop) (w : World) : List DV → List Value → Prop
  | [], us => us = []
  | X :: Xs, us => ∃ u t, us = u :: t ∧ X.rep K w u ∧ repL K w Xs t
def repAt (K : Nat → Prop) (w : World) : List DV → Nat → Nat → Prop
  | [], _, _ => True
  | X :: Xs, b, o => (∃ u, w.cell? ⟨b, o, none⟩ = some u ∧ u.oneCell' = true ∧ X.rep K w u) ∧ repAt K w Xs b (o + 1)
end
/-- What holds of old blocks that nobody may turn goes on holding. -/
def Keeps (K K' : Nat → Prop) (w w' : World) : Prop := ∀ b, b < w.heap.size → ¬ K b → w'.heap[b]? = w.heap[b]? ∧ b < w'.heap.size ∧ ¬ K' b
mutual
theorem DV.rep_mono {K K' : Nat → Prop} {w w' : World} (h : Keeps K K' w w') : ∀ (X : DV) (u : Value), X.rep K w u → X.rep K' w' u
  | .v _, _, hx => hx
  | .sl sz n cs, x, hx => by
    unfold DV.rep at hx ⊢
    rcases hx with hx | ⟨b, o, c, hv, h1, h2, h3, h4, h5⟩
    · exact .inl hx
    · refine .inr ⟨b, o, c, hv, h1, h2, h3, ?_, repAt_mono h cs b o ?_ h5⟩
      · rcases h4 with h4 | ⟨h4, h6⟩
        · exact .inl h4
        · exact .inr (h b h4 h6).2
      · exact h4
  | .el cs, x, hx => by
    unfold DV.rep at hx ⊢
    obtain ⟨b, o, hv, h4, h5⟩ := hx
    refine ⟨b, o, hv, ?_, repAt_mono h cs b o h4 h5⟩
    rcases h4 with h4 | ⟨h4, h6⟩
    · exact .inl h4
    · exact .inr (h b h4 h6).2
  | .ag cs, x, hx => by
    unfold DV.rep at hx ⊢
    obtain ⟨us, hv, h1⟩ := hx
    exact ⟨us, hv, repL_mono h cs us h1⟩
  | .tp cs, x, hx => by
    unfold DV.rep at hx ⊢
    obtain ⟨us, hv, h1⟩ := hx
    exact ⟨us, hv, repL_mono h cs us h1⟩
  | .fn f a c, x, hx => by
    unfold DV.rep at hx ⊢
    obtain ⟨us, vs, hv, h1, h2⟩ := hx
    exact ⟨us, vs, hv, repL_mono h a us h1, repL_mono h c vs h2⟩
theorem repL_mono {K K' : Nat → Prop} {w w' : World} (h : Keeps K K' w w') : ∀ (cs : List DV) (us : List Value), repL K w cs us → repL K' w' cs us
  | [], us, hx => by
    unfold repL at hx ⊢; exact hx
  | X :: Xs, us, hx => by
    unfold repL at hx ⊢
    obtain ⟨u, t, rfl, h1, h2⟩ := hx
    exact ⟨u, t, rfl, DV.rep_mono h X u h1, repL_mono h Xs t h2⟩
theorem repAt_mono {K K' : Nat → Prop} {w w' : World} (h : Keeps K K' w w') : ∀ (cs : List DV) (b o : Nat), (cs = [] ∨ (b < w.heap.size ∧ ¬ K b)) → repAt K w cs b o → repAt K' w' cs b o
  | [], b, o, _, _ => by
    unfold repAt; trivial
  | X :: Xs, b, o, hb, hx => by
    unfold repAt at hx ⊢
    obtain ⟨⟨u, hu, h1, h2⟩, h3⟩ := hx
    obtain ⟨hb1, hb2⟩ : b < w.heap.size ∧ ¬ K b := hb.resolve_left (by simp)
    exact ⟨⟨u, by rw [World.cell?_of_block (w := w) (h b hb1 hb2).1]; exact hu, h1, DV.rep_mono h X u h2⟩, repAt_mono h Xs b (o + 1) (.inr ⟨hb1, hb2⟩) h3⟩
end
theorem repL_length {K : Nat → Prop} {w : World} : ∀ {cs : List DV} {us : List Value}, repL K w cs us → us.length = cs.length
  | [], us, h => by unfold repL at h; simp [h]
  | X :: Xs, us, h => by
    unfold repL at h
    obtain ⟨u, t, rfl, _, h2⟩ := h
    simp [repL_length h2]
theorem repL_get {K : Nat → Prop} {w : World} : ∀ {cs : List DV} {us : List Value} {i : Nat} {X : DV}, repL K w cs us → cs[i]? = some X → ∃ u, us[i]? = some u ∧ X.rep K w u
  | [], us, i, X, h, hi => by simp at hi
  | Y :: Ys, us, 0, X, h, hi => by
    unfold repL at h
    obtain ⟨u, t, rfl, h1, h2⟩ := h
    simp at hi; subst hi
    exact ⟨u, by simp, h1⟩
  | Y :: Ys, us, i + 1, X, h, hi => by
    unfold repL at h
    obtain ⟨u, t, rfl, h1, h2⟩ := h
    simp at hi
    obtain ⟨u', h3, h4⟩ := repL_get h2 hi
    exact ⟨u', by simpa using h3, h4⟩
theorem repL_append {K : Nat → Prop} {w : World} : ∀ {cs ds : List DV} {us vs : List Value}, repL K w cs us → repL K w ds vs → repL K w (cs ++ ds) (us ++ vs)
  | [], ds, us, vs, h, k => by unfold repL at h; subst h; simpa using k
  | X :: Xs, ds, us, vs, h, k => by
    unfold repL at h
    obtain ⟨u, t, rfl, h1, h2⟩ := h
    rw [List.cons_append]; unfold repL
    exact ⟨u, t ++ vs, by simp, h1, repL_append h2 k⟩
theorem repL_take {K : Nat → Prop} {w : World} : ∀ {cs : List DV} {us : List Value} (n : Nat), repL K w cs us → repL K w (cs.take n) (us.take n)
  | cs, us, 0, h => by simp [repL]
  | [], us, n + 1, h => by unfold repL at h; subst h; simp [repL]
  | X :: Xs, us, n + 1, h => by
    unfold repL at h
    obtain ⟨u, t, rfl, h1, h2⟩ := h
    rw [List.take_succ_cons, List.take_succ_cons]; unfold repL
    exact ⟨u, t.take n, rfl, h1, repL_take n h2⟩
theorem repL_drop {K : Nat → Prop} {w : World} : ∀ {cs : List DV} {us : List Value} (n : Nat), repL K w cs us → repL K w (cs.drop n) (us.drop n)
  | cs, us, 0, h => by simpa using h
  | [], us, n + 1, h => by unfold repL at h; subst h; simp [repL]
  | X :: Xs, us, n + 1, h => by
    unfold repL at h
    obtain ⟨u, t, rfl, h1, h2⟩ := h
    rw [List.drop_succ_cons, List.drop_succ_cons]
    exact repL_drop n h2
theorem repAt_get {K : Nat → Prop} {w : World} : ∀ {cs : List DV} {b o i : Nat} {X : DV}, repAt K w cs b o → cs[i]? = some X → ∃ u, w.cell? ⟨b, o + i, none⟩ = some u ∧ u.oneCell' = true ∧ X.rep K w u
  | [], b, o, i, X, h, hi => by simp at hi
  | Y :: Ys, b, o, 0, X, h, hi => by
    unfold repAt at h
    simp at hi; subst hi
    exact h.1
  | Y :: Ys, b, o, i + 1, X, h, hi => by
    unfold repAt at h
    obtain ⟨u, h1, h2, h3⟩ := repAt_get h.2 (by simpa using hi)
    exact ⟨u, by rw [show o + (i + 1) = o + 1 + i by omega]; exact h1, h2, h3⟩
theorem repAt_drop {K : Nat → Prop} {w : World} : ∀ {cs : List DV} {b o : Nat} (n : Nat), repAt K w cs b o → repAt K w (cs.drop n) b (o + n)
  | cs, b, o, 0, h => by simpa using h
  | [], b, o, n + 1, h => by simp [repAt]
  | X :: Xs, b, o, n + 1, h => by
    unfold repAt at h
    rw [List.drop_succ_cons, show o + (n + 1) = o + 1 + n by omega]
    exact repAt_drop n h.2
theorem repAt_take {K : Nat → Prop} {w : World} : ∀ {cs : List DV} {b o : Nat} (n : Nat), repAt K w cs b o → repAt K w (cs.take n) b o
  | cs, b, o, 0, h => by simp [repAt]
  | [], b, o, n + 1, h => by simp [repAt]
  | X :: Xs, b, o, n + 1, h => by
    unfold repAt at h
    rw [List.take_succ_cons]; unfold repAt
    exact ⟨h.1, repAt_take n h.2⟩
/-- The cells of a list as values. -/
theorem repAt_vals {K : Nat → Prop} {w : World} : ∀ {cs : List DV} {b o : Nat}, repAt K w cs b o → ∃ us, repL K w cs us ∧ (∀ j u, us[j]? = some u → w.cell? ⟨b, o + j, none⟩ = some u) ∧ ∀ u ∈ us, u.oneCell' = true
  | [], b, o, h => ⟨[], by simp [repL], by simp, by simp⟩
  | X :: Xs, b, o, h => by
    unfold repAt at h
    obtain ⟨⟨u, h1, h2, h3⟩, h4⟩ := h
    obtain ⟨us, k1, k2, k3⟩ := repAt_vals h4
    refine ⟨u :: us, by unfold repL; exact ⟨u, us, rfl, h3, k1⟩, ?_, ?_⟩
    · intro j x hj
      cases j with
      | zero => simp at hj; subst hj; exact h1
      | succ j => rw [show o + (j + 1) = o + 1 + j by omega]; exact k2 j x (by simpa using hj)
    · intro x hx
      rcases List.mem_cons.1 hx with rfl | hx
      · exact h2
      · exact k3 x hx
theorem repAt_of_cells {K : Nat → Prop} {w : World} : ∀ {cs : List DV} {us : List Value} {b o : Nat}, repL K w cs us → (∀ j u, us[j]? = some u → w.cell? ⟨b, o + j, none⟩ = some u) → (∀ u ∈ us, u.oneCell' = true) → repAt K w cs b o
  | [], us, b, o, h, _, _ => by unfold repAt; trivial
  | X :: Xs, us, b, o, h, hc, h1 => by
    unfold repL at h
    obtain ⟨u, t, rfl, h3, h4⟩ := h
    unfold repAt
    refine ⟨⟨u, hc 0 u (by simp), h1 u (by simp), h3⟩, repAt_of_cells h4 (fun j x hj => ?_) (fun x hx => h1 x (by simp [hx]))⟩
    rw [show o + 1 + j = o + (j + 1) by omega]
    exact hc (j + 1) x (by simpa using hj)
/-- What a slot holds: a closed value (d), one whose blocks are all new (f), an address in a block of one's own, a slice of such a block, a row that may grow. -/
inductive AV where
  | d (x : DV)
  | f (x : DV)
  | ptr (g off : Nat)
  | bs (g off n sz : Nat)
  | ow (g n sz : Nat)
inductive AO where
  | dead
  | box (T : TypeId) (cs : List DV)
  | row (T : TypeId) (sz : Nat) (cs : List DV)
  | mbox (k : Nat) (T : TypeId) (cs : List DV)
  | mrow (k : Nat) (T : TypeId) (sz : Nat) (cs : List DV)
  | nrow (u : Value) (n : Nat) (T : TypeId) (sz : Nat) (cs : List DV)
  | obj (b : Nat) (x : Obj)
/-- Which block that the caller lends it is. -/
def AO.key : AO → Option Nat
  | .mbox k .. => some k
  | .mrow k .. => some k
  | _ => none
def bsz (w : World) (b : Nat) : Nat := match w.heap[b]? with | some (.cells c _ _) => c.size | _ => 0
abbrev Rho := Nat → Option (Option Nat)
def AV.rep (ρ : Rho) (K : Nat → Prop) (B : Nat) (w : World) : AV → Value → Prop
  | .d X, u => X.rep K w u
  | .f X, u => X.rep (fun b => K b ∨ b < B) w u
  | .ptr g off, u => ∀ ob, ρ g = some ob → ∃ b, ob = some b ∧ u = .pointer (some ⟨b, off, none⟩)
  | .bs g off n sz, u => ∀ ob, ρ g = some ob → ∃ b c, ob = some b ∧ u = .slice (some ⟨b, off, none⟩) n c ∧ n ≤ c ∧ c ≤ maxLen ∧ off + c * sz ≤ bsz w b
  | .ow g n sz, u => ∀ ob, ρ g = some ob → (ob = none ∧ u = .slice none 0 0 ∧ n = 0) ∨ ∃ b c, ob = some b ∧ u = .slice (some ⟨b, 0, none⟩) n c ∧ n ≤ c ∧ c ≤ maxLen ∧ c * sz = bsz w b
def AO.rep (K : Nat → Prop) (w : World) : AO → Option Nat → Prop
  | .dead, _ => True
  | .box T cs, ob => ∃ (b : Nat) (us : List Value), ob = some b ∧ w.heap[b]? = some (.cells us.toArray T (0, 0)) ∧ repL K w cs us ∧ ∀ u ∈ us, u.oneCell' = true
  | .row T sz cs, ob => (ob = none ∧ cs = []) ∨ ∃ (b : Nat) (us : List Value) (cap : Nat), ob = some b ∧ w.heap[b]? = some (.cells us.toArray T (0, 0)) ∧ us.length = cap * sz ∧ cap ≤ maxLen ∧ cs.length ≤ us.length ∧ repL K w cs (us.take cs.length) ∧ ∀ u ∈ us.take cs.length, u.oneCell' = true
  | .mbox _ T cs, ob => ∃ (b : Nat) (us : List Value), ob = some b ∧ w.heap[b]? = some (.cells us.toArray T (0, 0)) ∧ repL K w cs us ∧ ∀ u ∈ us, u.oneCell' = true
  | .mrow _ T sz cs, ob => (ob = none ∧ cs = []) ∨ ∃ (b : Nat) (us : List Value) (cap : Nat), ob = some b ∧ w.heap[b]? = some (.cells us.toArray T (0, 0)) ∧ us.length = cap * sz ∧ cap ≤ maxLen ∧ cs.length ≤ us.length ∧ repL K w cs (us.take cs.length) ∧ ∀ u ∈ us.take cs.length, u.oneCell' = true
  | .nrow u n T sz cs, ob => (ob = none ∧ u = .slice none 0 0 ∧ n = 0 ∧ cs = []) ∨ ∃ (b : Nat) (us : List Value) (c : Nat), ob = some b ∧ u = .slice (some ⟨b, 0, none⟩) n c ∧ n ≤ c ∧ w.heap[b]? = some (.cells us.toArray T (0, 0)) ∧ us.length = c * sz ∧ c ≤ maxLen ∧ cs.length ≤ us.length ∧ repL K w cs (us.take cs.length) ∧ ∀ u ∈ us.take cs.length, u.oneCell' = true
  | .obj b x, ob => ob = some b ∧ w.heap[b]? = some x
def AV.id : AV → Option Nat
  | .ptr g _ => some g
  | .bs g _ _ _ => some g
  | .ow g _ _ => some g
  | _ => none
def AV.dv : AV → Option DV
  | .d X => some X
  | .f X => some X
  | _ => none
abbrev Lo := Nat → Option AV
abbrev Ga := Nat → Option AO
def upd {α : Type} (f : Nat → Option α) (d : Nat) (x : α) : Nat → Option α := fun t => bif Nat.beq t d then some x else f t
def ls {α : Type} : List (Nat × α) → Nat → Option α
  | [], _ => none
  | (d, x) :: r, t => bif Nat.beq t d then some x else ls r t
theorem upd_same {α : Type} (f : Nat → Option α) (d : Nat) (x : α) : upd f d x d = some x := by simp [upd]
theorem upd_other {α : Type} (f : Nat → Option α) (d : Nat) (x : α) (t : Nat) (h : t ≠ d) : upd f d x t = f t := by
  unfold upd; rw [show Nat.beq t d = false from by rw [← Bool.not_eq_true, Nat.beq_eq]; exact h]; rfl
theorem upd_some {α : Type} {f : Nat → Option α} {d : Nat} {x : α} {t : Nat} {y : α} (h : upd f d x t = some y) : (t = d ∧ y = x) ∨ (t ≠ d ∧ f t = some y) := by
  by_cases e : t = d
  · subst e; rw [upd_same] at h; exact .inl ⟨rfl, by injection h with h; exact h.symm⟩
  · rw [upd_other _ _ _ _ e] at h; exact .inr ⟨e, h⟩
def live (Γ : Ga) (g : Nat) : Prop := ∃ o, Γ g = some o ∧ o ≠ .dead
def KK (K0 : Nat → Prop) (ρ : Rho) (Γ : Ga) (b : Nat) : Prop := K0 b ∨ ∃ g, live Γ g ∧ ρ g = some (some b)
/-- A call: the world that it began in, what others may turn, the frame's size. -/
structure Cx where
  w0 : World
  K0 : Nat → Prop
  n : Nat
  M : Nat → Option (Option Nat)
/-- The blocks that are lent. -/
def Cx.MB (C : Cx) (b : Nat) : Prop := ∃ k, C.M k = some (some b)
/-- What was there stays, but for what is lent. -/
structure Kept (M : Nat → Prop) (w w' : World) : Prop where
  os : w'.os = w.os
  tape : w'.tape = w.tape
  output : w'.output = w.output
  size : w.heap.size ≤ w'.heap.size
  block : ∀ k, k < w.heap.size → ¬ M k → w'.heap[k]? = w.heap[k]?
  msz : ∀ k, k < w.heap.size → bsz w' k = bsz w k
theorem bsz_block' {w w' : World} {b : Nat} (h : w'.heap[b]? = w.heap[b]?) : bsz w' b = bsz w b := by unfold bsz; rw [h]
theorem Kept.refl (M : Nat → Prop) (w : World) : Kept M w w := ⟨rfl, rfl, rfl, Nat.le_refl _, fun _ _ _ => rfl, fun _ _ => rfl⟩
theorem Kept.ext {M : Nat → Prop} {a w w' : World} (h : Kept M a w) (hb : Below w.heap.size w w') : Kept M a w' :=
  ⟨hb.os.trans h.os, hb.tape.trans h.tape, hb.output.trans h.output, Nat.le_trans h.size hb.size, fun k hk hm => (hb.block k (Nat.lt_of_lt_of_le hk h.size)).trans (h.block k hk hm), fun k hk => (bsz_block' (hb.block k (Nat.lt_of_lt_of_le hk h.size))).trans (h.msz k hk)⟩
theorem Kept.grown {M : Nat → Prop} {a w w' : World} {row : Option Nat} (h : Kept M a w) (hg : w.grownBy w' row) (hr : ∀ k, row = some k → a.heap.size ≤ k ∨ (M k ∧ bsz w' k = bsz w k)) : Kept M a w' := by
  refine ⟨hg.os.trans h.os, hg.tape.trans h.tape, hg.output.trans h.output, Nat.le_trans h.size hg.size, fun k hk hm => ?_, fun k hk => ?_⟩
  · exact (hg.block k (Nat.lt_of_lt_of_le hk h.size) (fun e => (hr k (by cases e; rfl)).elim (fun q => by omega) (fun q => hm q.1))).trans (h.block k hk hm)
  · by_cases e : row = some k
    · rcases hr k e with q | q
      · omega
      · exact q.2.trans (h.msz k hk)
    · exact (bsz_block' (hg.block k (Nat.lt_of_lt_of_le hk h.size) (fun x => e (by rw [← x])))).trans (h.msz k hk)
theorem Kept.below {M : Nat → Prop} {w w' : World} (h : Kept M w w') (hM : ∀ b, ¬ M b) : Below w.heap.size w w' := ⟨h.os, h.tape, h.output, h.size, fun k hk => h.block k hk (hM k)⟩
structure RepsAt (C : Cx) (ρ : Rho) (L : Lo) (Γ : Ga) (a : Act) (w : World) : Prop where
  df : a.defers = []
  sz : a.tmps.size = C.n
  k0 : ∀ b, C.K0 b → b < C.w0.heap.size ∧ ¬ C.MB b
  fr : Kept C.MB C.w0 w
  dom : ∀ g, ¬ live Γ g → ρ g = none
  ment : ∀ t X g, L t = some X → X.id = some g → Γ g ≠ none
  lt : ∀ g b, ρ g = some (some b) → b < w.heap.size
  inj : ∀ g g' b, ρ g = some (some b) → ρ g' = some (some b) → live Γ g → live Γ g' → g = g'
  new : ∀ g b o, Γ g = some o → o ≠ .dead → o.key = none → ρ g = some (some b) → C.w0.heap.size ≤ b
  len : ∀ g o k ob, Γ g = some o → o.key = some k → ρ g = some ob → C.M k = some ob
  obj : ∀ g o, Γ g = some o → o ≠ .dead → ∃ ob, ρ g = some ob ∧ o.rep (KK C.K0 ρ Γ) w ob
  slot : ∀ t X, L t = some X → X.rep ρ (KK C.K0 ρ Γ) C.w0.heap.size w (a.tmps.getD t undef)
def Reps (C : Cx) (L : Lo) (Γ : Ga) (a : Act) (w : World) : Prop := ∃ ρ, RepsAt C ρ L Γ a w
theorem Keeps.widen {K K' J : Nat → Prop} {w w' : World} (h : Keeps K K' w w') : Keeps (fun b => K b ∨ J b) (fun b => K' b ∨ J b) w w' :=
  fun b hb hk => ⟨(h b hb (fun x => hk (.inl x))).1, (h b hb (fun x => hk (.inl x))).2.1, fun x => x.elim (h b hb (fun x => hk (.inl x))).2.2 (fun x => hk (.inr x))⟩
theorem Keeps.below {K : Nat → Prop} {w w' : World} (h : Below w.heap.size w w') : Keeps K K w w' := fun b hb hk => ⟨h.block b hb, Nat.lt_of_lt_of_le hb h.size, hk⟩
theorem bsz_block {w w' : World} {b : Nat} (h : w'.heap[b]? = w.heap[b]?) : bsz w' b = bsz w b := by unfold bsz; rw [h]
/-- A slot's value goes on where old blocks keep. -/
theorem AV.rep_mono {ρ : Rho} {K K' : Nat → Prop} {B : Nat} {w w' : World} (h : Keeps K K' w w') (hs : ∀ g b, ρ g = some (some b) → bsz w' b = bsz w b) : ∀ (X : AV) (u : Value), X.rep ρ K B w u → X.rep ρ K' B w' u
  | .d X, u, hx => DV.rep_mono h X u hx
  | .f X, u, hx => DV.rep_mono (h.widen (J := fun b => b < B)) X u hx
  | .ptr g off, u, hx => hx
  | .bs g off n sz, u, hx => fun ob hob => by
    obtain ⟨b, c, rfl, h2, h3, h4, h5⟩ := hx ob hob
    exact ⟨b, c, rfl, h2, h3, h4, by rw [hs g b hob]; exact h5⟩
  | .ow g n sz, u, hx => fun ob hob => by
    rcases hx ob hob with hx | ⟨b, c, rfl, h2, h3, h4, h5⟩
    · exact .inl hx
    · exact .inr ⟨b, c, rfl, h2, h3, h4, by rw [hs g b hob]; exact h5⟩
theorem AO.rep_mono {K K' : Nat → Prop} {w w' : World} (h : Keeps K K' w w') {ob : Option Nat} (hb : ∀ b, ob = some b → w'.heap[b]? = w.heap[b]?) : ∀ (o : AO), o.rep K w ob → o.rep K' w' ob
  | .dead, _ => by unfold AO.rep; trivial
  | .box T cs, hx => by
    obtain ⟨b, us, rfl, h1, h2, h3⟩ := hx
    exact ⟨b, us, rfl, by rw [hb b rfl]; exact h1, repL_mono h cs us h2, h3⟩
  | .row T sz cs, hx => by
    rcases hx with hx | ⟨b, us, cap, rfl, h1, h2, h3, h4, h5, h6⟩
    · exact .inl hx
    · exact .inr ⟨b, us, cap, rfl, by rw [hb b rfl]; exact h1, h2, h3, h4, repL_mono h _ _ h5, h6⟩
  | .mbox _ T cs, hx => by
    obtain ⟨b, us, rfl, h1, h2, h3⟩ := hx
    exact ⟨b, us, rfl, by rw [hb b rfl]; exact h1, repL_mono h cs us h2, h3⟩
  | .mrow _ T sz cs, hx => by
    rcases hx with hx | ⟨b, us, cap, rfl, h1, h2, h3, h4, h5, h6⟩
    · exact .inl hx
    · exact .inr ⟨b, us, cap, rfl, by rw [hb b rfl]; exact h1, h2, h3, h4, repL_mono h _ _ h5, h6⟩
  | .nrow u n T sz cs, hx => by
    rcases hx with hx | ⟨b, us, c, rfl, h0, h00, h1, h2, h3, h4, h5, h6⟩
    · exact .inl hx
    · exact .inr ⟨b, us, c, rfl, h0, h00, by rw [hb b rfl]; exact h1, h2, h3, h4, repL_mono h _ _ h5, h6⟩
  | .obj b x, hx => ⟨hx.1, (hb b hx.1).trans hx.2⟩
theorem nrow_row {K : Nat → Prop} {w : World} {u : Value} {n : Nat} {T : TypeId} {sz : Nat} {cs : List DV} {ob : Option Nat} (h : (AO.nrow u n T sz cs).rep K w ob) : (AO.row T sz cs).rep K w ob := by
  rcases h with ⟨h, _, _, k⟩ | ⟨b, us, c, h, _, _, h1, h2, h3, h4, h5, h6⟩
  · exact .inl ⟨h, k⟩
  · exact .inr ⟨b, us, c, h, h1, h2, h3, h4, h5, h6⟩
/-- Behind a step that turns no old block. -/
theorem RepsAt.ext {C : Cx} {ρ : Rho} {L : Lo} {Γ : Ga} {a : Act} {w w' : World} (h : RepsAt C ρ L Γ a w) (hb : Below w.heap.size w w') : RepsAt C ρ L Γ a w' := by
  have hk : Keeps (KK C.K0 ρ Γ) (KK C.K0 ρ Γ) w w' := Keeps.below hb
  have hz : ∀ g b, ρ g = some (some b) → bsz w' b = bsz w b := fun g b hg => bsz_block (hb.block b (h.lt g b hg))
  exact ⟨h.df, h.sz, h.k0, h.fr.ext hb, h.dom, h.ment, fun g b hg => Nat.lt_of_lt_of_le (h.lt g b hg) hb.size, h.inj, h.new, h.len,
    fun g o ho hd => by
      obtain ⟨ob, h1, h2⟩ := h.obj g o ho hd
      exact ⟨ob, h1, AO.rep_mono hk (fun b e => hb.block b (h.lt g b (by rw [h1, e]))) o h2⟩,
    fun t X ht => AV.rep_mono hk hz X _ (h.slot t X ht)⟩
theorem getD_put (a : Act) (d t : Nat) (u : Value) (hd : d < a.tmps.size) : (a.put (some d) u).tmps.getD t undef = if t = d then u else a.tmps.getD t undef := by
  simp only [Act.put, Array.getD_eq_getD_getElem?]
  by_cases e : t = d
  · subst e; simp [hd]
  · rw [if_neg e, Array.getElem?_setIfInBounds_ne (Ne.symm e)]
theorem RepsAt.put {C : Cx} {ρ : Rho} {L : Lo} {Γ : Ga} {a : Act} {w : World} (h : RepsAt C ρ L Γ a w) {d : Nat} (hd : d < C.n) {X : AV} {u : Value} (hx : X.rep ρ (KK C.K0 ρ Γ) C.w0.heap.size w u) (hi : ∀ g, X.id = some g → Γ g ≠ none) :
    RepsAt C ρ (upd L d X) Γ (a.put (some d) u) w := by
  refine ⟨h.df, by simp [Act.put, h.sz], h.k0, h.fr, h.dom, fun t Y g ht hg => ?_, h.lt, h.inj, h.new, h.len, h.obj, fun t Y ht => ?_⟩
  · rcases upd_some ht with ⟨rfl, rfl⟩ | ⟨_, ht⟩
    · exact hi g hg
    · exact h.ment t Y g ht hg
  rw [getD_put a d t u (by rw [h.sz]; exact hd)]
  rcases upd_some ht with ⟨rfl, rfl⟩ | ⟨hne, ht⟩
  · rw [if_pos rfl]; exact hx
  · rw [if_neg hne]; exact h.slot t Y ht
end Go.Proofs.YtdjcclcejmeheaaGreat.Pl
end
section
namespace Go.Proofs.YtdjcclcejmeheaaGreat.Pl
set_option linter.unusedVariables false
set_option linter.unusedSimpArgs false
open Go.RowKit
/-- An operation turns what is known so. -/
def OT (P : Program) (C : Cx) (o : Oper) (L : Lo) (Γ : Ga) (L' : Lo) (Γ' : Ga) : Prop :=
  ∀ a w, Reps C L Γ a w → o.wp P a w (fun a' w' => Reps C L' Γ' a' w') (fun _ _ _ => False)
def ev (L : Lo) : Operand → Option AV
  | .tmp t => L t
  | .const v => some (.f (.v v))
  | .func f => some (.f (.fn (.func f) [] []))
  | .global _ => none
def AV.val : AV → Option Value
  | .d (.v u) => some u
  | .f (.v u) => some u
  | _ => none
def evv (L : Lo) (x : Operand) : Option Value := (ev L x).bind AV.val
def evd (L : Lo) (x : Operand) : Option DV := (ev L x).bind AV.dv
theorem ev_rep {C : Cx} {ρ : Rho} {L : Lo} {Γ : Ga} {a : Act} {w : World} (h : RepsAt C ρ L Γ a w) {x : Operand} {X : AV} (hx : ev L x = some X) : X.rep ρ (KK C.K0 ρ Γ) C.w0.heap.size w (a.eval x) := by
  cases x with
  | tmp t => exact h.slot t X hx
  | const v => simp only [ev, Option.some.injEq] at hx; subst hx; simp only [AV.rep, DV.rep]; rfl
  | global g => simp [ev] at hx
  | func f => simp only [ev, Option.some.injEq] at hx; subst hx; exact ⟨[], [], rfl, by simp [repL], by simp [repL]⟩
theorem dv_rep {ρ : Rho} {K : Nat → Prop} {B : Nat} {w : World} {A : AV} {X : DV} {u : Value} (h : A.rep ρ K B w u) (hx : A.dv = some X) : X.rep K w u := by
  cases A with
  | d Y => simp only [AV.dv, Option.some.injEq] at hx; subst hx; exact h
  | f Y => simp only [AV.dv, Option.some.injEq] at hx; subst hx; exact DV.rep_mono (fun b hb hk => ⟨rfl, hb, fun x => hk (.inl x)⟩) _ _ h
  | _ => simp [AV.dv] at hx
theorem evv_eval {C : Cx} {ρ : Rho} {L : Lo} {Γ : Ga} {a : Act} {w : World} (h : RepsAt C ρ L Γ a w) {x : Operand} {u : Value} (hx : evv L x = some u) : a.eval x = u := by
  unfold evv at hx
  cases hA : ev L x with
  | none => simp [hA] at hx
  | some A =>
    rw [hA, Option.bind_some] at hx
    have hr := ev_rep h hA
    cases A with
    | d Y => cases Y <;> simp [AV.val] at hx; subst hx; simpa [AV.rep, DV.rep] using hr
    | f Y => cases Y <;> simp [AV.val] at hx; subst hx; simpa [AV.rep, DV.rep] using hr
    | _ => simp [AV.val] at hx
theorem evd_rep {C : Cx} {ρ : Rho} {L : Lo} {Γ : Ga} {a : Act} {w : World} (h : RepsAt C ρ L Γ a w) {x : Operand} {X : DV} (hx : evd L x = some X) : X.rep (KK C.K0 ρ Γ) w (a.eval x) := by
  unfold evd at hx
  cases hA : ev L x with
  | none => simp [hA] at hx
  | some A => rw [hA, Option.bind_some] at hx; exact dv_rep (ev_rep h hA) hx
/-- An operation that gives a value and leaves memory as it is. -/
theorem OT.value {P : Program} {C : Cx} {L : Lo} {Γ : Ga} {d : Nat} {p : Op} {ty : TypeId} {pos : String} {af : Array Edge} {gd : Option (Nat × Bool)} (hn : Nat.blt d C.n = true) {X : AV} (hi : ∀ g, X.id = some g → ∀ ρ a w, RepsAt C ρ L Γ a w → Γ g ≠ none)
    (h : ∀ ρ a w, RepsAt C ρ L Γ a w → ∃ u, (execOp a.eval ⟨some d, p, ty, pos, af, gd⟩).run P w = .ok (.value u) w ∧ X.rep ρ (KK C.K0 ρ Γ) C.w0.heap.size w u) :
    OT P C ⟨some d, p, ty, pos, af, gd⟩ L Γ (upd L d X) Γ := by
  rintro a w ⟨ρ, hr⟩
  obtain ⟨u, h1, h2⟩ := h ρ a w hr
  unfold Oper.wp
  rw [h1, Oper.upon_value]
  exact ⟨ρ, hr.put (by simpa using hn) h2 fun g hg => hi g hg ρ a w hr⟩
theorem ev_ment {C : Cx} {ρ : Rho} {L : Lo} {Γ : Ga} {a : Act} {w : World} (h : RepsAt C ρ L Γ a w) {x : Operand} {X : AV} (hx : ev L x = some X) {g : Nat} (hg : X.id = some g) : Γ g ≠ none := by
  cases x with
  | tmp t => exact h.ment t X g hx hg
  | const v => simp only [ev, Option.some.injEq] at hx; subst hx; simp [AV.id] at hg
  | global g => simp [ev] at hx
  | func f => simp only [ev, Option.some.injEq] at hx; subst hx; simp [AV.id] at hg
theorem AV.re_id (A : AV) (X : DV) (g : Nat) : (AV.id (match A with | .f _ => .f X | _ => .d X)) ≠ some g := by cases A <;> simp [AV.id]
section
variable {P : Program} {C : Cx} {L : Lo} {Γ : Ga} {d : Nat} {ty : TypeId} {pos : String} {af : Array Edge} {gd : Option (Nat × Bool)}
theorem OT.move {x : Operand} {X : AV} (hn : Nat.blt d C.n = true) (hx : ev L x = some X) : OT P C ⟨some d, .move x, ty, pos, af, gd⟩ L Γ (upd L d X) Γ :=
  OT.value hn (fun g hg ρ a w h => ev_ment h hx hg) fun ρ a w h => ⟨_, by simp only [execOp, Sem.run_pure], ev_rep h hx⟩
theorem OT.assign {x : Operand} {X : AV} (hn : Nat.blt d C.n = true) (hx : ev L x = some X) : OT P C ⟨some d, .assign x, ty, pos, af, gd⟩ L Γ (upd L d X) Γ :=
  OT.value hn (fun g hg ρ a w h => ev_ment h hx hg) fun ρ a w h => ⟨_, by simp only [execOp, Sem.run_pure], ev_rep h hx⟩
/-- What an operator makes of two values. -/
def ikb (k k' : IntKind) : Bool := Nat.beq k.ctorIdx k'.ctorIdx
theorem ikb_eq {k k' : IntKind} (h : ikb k k' = true) : k = k' := by cases k <;> cases k' <;> first | rfl | (exfalso; revert h; decide)
def bo : BinOp → Value → Value → Option Value
  | .add, .int k a, .int k' b => bif ikb k k' then some (.int k (k.wrap (a + b))) else none
  | .sub, .int k a, .int k' b => bif ikb k k' then some (.int k (k.wrap (a - b))) else none
  | .mul, .int k a, .int k' b => bif ikb k k' then some (.int k (k.wrap (a * b))) else none
  | .eql, .int k a, .int k' b => bif ikb k k' then some (.bool (decide (a = b))) else none
  | .neq, .int k a, .int k' b => bif ikb k k' then some (.bool (!decide (a = b))) else none
  | .lss, .int k a, .int k' b => bif ikb k k' then some (.bool (decide (a < b))) else none
  | .leq, .int k a, .int k' b => bif ikb k k' then some (.bool (decide (a ≤ b))) else none
  | .gtr, .int k a, .int k' b => bif ikb k k' then some (.bool (decide (b < a))) else none
  | .geq, .int k a, .int k' b => bif ikb k k' then some (.bool (decide (b ≤ a))) else none
  | .eql, .string ⟨⟨l⟩⟩, .string ⟨⟨m⟩⟩ => some (.bool (decide (l = m)))
  | .neq, .string ⟨⟨l⟩⟩, .string ⟨⟨m⟩⟩ => some (.bool (!decide (l = m)))
  | .lss, .string ⟨⟨l⟩⟩, .string ⟨⟨m⟩⟩ => some (.bool (Op.bytesLess l m))
  | .leq, .string ⟨⟨l⟩⟩, .string ⟨⟨m⟩⟩ => some (.bool (Op.bytesLess l m || decide (l = m)))
  | .gtr, .string ⟨⟨l⟩⟩, .string ⟨⟨m⟩⟩ => some (.bool (!(Op.bytesLess l m || decide (l = m))))
  | .geq, .string ⟨⟨l⟩⟩, .string ⟨⟨m⟩⟩ => some (.bool (!Op.bytesLess l m))
  | _, _, _ => none
theorem ba_toList (l : List UInt8) : ByteArray.toList ⟨⟨l⟩⟩ = l := by
  have h : ∀ (n i : Nat) (acc : List UInt8), n = l.length - i → ByteArray.toList.loop ⟨⟨l⟩⟩ i acc = acc.reverse ++ l.drop i := by
    intro n
    induction n with
    | zero =>
      intro i acc hn
      rw [ByteArray.toList.loop.eq_1]
      have : ¬ i < ByteArray.size ⟨⟨l⟩⟩ := by show ¬ i < l.length; omega
      rw [if_neg this, List.drop_eq_nil_of_le (by omega), List.append_nil]
    | succ n ih =>
      intro i acc hn
      have hi : i < l.length := by omega
      rw [ByteArray.toList.loop.eq_1]
      have : i < ByteArray.size ⟨⟨l⟩⟩ := by show i < l.length; omega
      rw [if_pos this, ih (i + 1) _ (by omega)]
      rw [List.reverse_cons, List.append_assoc, List.singleton_append, ← List.getElem_cons_drop hi]
      congr 2
      show (ByteArray.get! ⟨⟨l⟩⟩ i) = l[i]
      simp [ByteArray.get!, hi]
  have := h l.length 0 [] (by simp)
  rw [ByteArray.toList]; simpa using this
theorem bo_run {op : BinOp} {x y u : Value} (t : TypeId) (h : bo op x y = some u) (w : World) : (binOp op t x y).run P w = .ok u w := by
  unfold bo at h
  split at h
  case h_16 => cases h
  case h_10 | h_11 | h_12 | h_13 | h_14 | h_15 =>
    simp only [Option.some.injEq] at h
    subst h
    have hb : ∀ l m : List UInt8, (l == m) = decide (l = m) := fun l m => by rw [Bool.eq_iff_iff]; simp
    simp only [binOp, Op.stringOp, ba_toList, Sem.run_pure, hb]
    try rfl
  all_goals
    rename_i k a k' b
    cases hk : ikb k k' with
    | false => simp [hk] at h
    | true =>
      obtain rfl := ikb_eq hk
      simp only [hk, cond_true, Option.some.injEq] at h
      subst h
      simp only [binOp, ne_eq, not_true_eq_false, if_false, Op.intArith, Op.intCmp, Sem.run_pure]
      try first | rfl | (simp; done)
theorem bo_kinds {op : BinOp} {u1 u2 u : Value} (h : bo op u1 u2 = some u) : (∃ k a k' b, u1 = .int k a ∧ u2 = .int k' b) ∨ ∃ s t, u1 = .string s ∧ u2 = .string t := by
  unfold bo at h
  split at h
  case h_16 => cases h
  case h_10 | h_11 | h_12 | h_13 | h_14 | h_15 => exact .inr ⟨_, _, rfl, rfl⟩
  all_goals exact .inl ⟨_, _, _, _, rfl, rfl⟩
theorem eqGuard_val {op : BinOp} {u1 u2 u : Value} (h : bo op u1 u2 = some u) (t : TypeId) (x y : Operand) (w : World) : (eqGuard op t x y u1 u2).run P w = .ok () w := by
  rcases bo_kinds h with ⟨k, a, k', b, rfl, rfl⟩ | ⟨s, t, rfl, rfl⟩ <;> (clear h; cases op <;> rfl)
theorem OT.bin {op : BinOp} {xt yt : TypeId} {x y : Operand} {u1 u2 u : Value} (hn : Nat.blt d C.n = true) (hx : evv L x = some u1) (hy : evv L y = some u2) (h : bo op u1 u2 = some u) :
    OT P C ⟨some d, .binOp op xt x y yt, ty, pos, af, gd⟩ L Γ (upd L d (.f (.v u))) Γ :=
  OT.value hn (fun g hg => by simp [AV.id] at hg) fun ρ a w hr => ⟨u, by simp only [execOp, evv_eval hr hx, evv_eval hr hy, Sem.run_bind, eqGuard_val h, bo_run xt h, Result.andThen_ok, Sem.run_pure], rfl⟩
/-- The same with the value in another spelling. -/
theorem OT.binv {op : BinOp} {xt yt : TypeId} {x y : Operand} {u1 u2 u : Value} (u' : Value) (hn : Nat.blt d C.n = true) (hx : evv L x = some u1) (hy : evv L y = some u2) (h : bo op u1 u2 = some u) (hu : u = u') :
    OT P C ⟨some d, .binOp op xt x y yt, ty, pos, af, gd⟩ L Γ (upd L d (.f (.v u'))) Γ := hu ▸ OT.bin hn hx hy h
def uo : UnOp → Value → Option Value
  | .not, .bool b => some (.bool !b)
  | .neg, .int k n => some (.int k (k.wrap (0 - n)))
  | _, _ => none
theorem OT.un {op : UnOp} {xt : TypeId} {x : Operand} {u1 u : Value} (hn : Nat.blt d C.n = true) (hx : evv L x = some u1) (h : uo op u1 = some u) :
    OT P C ⟨some d, .unOp op xt x, ty, pos, af, gd⟩ L Γ (upd L d (.f (.v u))) Γ :=
  OT.value hn (fun g hg => by simp [AV.id] at hg) fun ρ a w hr => by
    refine ⟨u, ?_, rfl⟩
    unfold uo at h
    split at h
    · simp only [Option.some.injEq] at h; subst h; simp only [execOp, evv_eval hr hx, Op.unary, Sem.run_bind, Sem.run_pure, Result.andThen_ok]
    · simp only [Option.some.injEq] at h; subst h; simp only [execOp, evv_eval hr hx, Op.unary, Op.intArith, Sem.run_bind, Sem.run_pure, Result.andThen_ok]
    · cases h
theorem OT.pick {c x y : Operand} {b : Bool} {X : AV} (hn : Nat.blt d C.n = true) (hc : evv L c = some (.bool b)) (hx : (bif b then ev L x else ev L y) = some X) :
    OT P C ⟨some d, .pick c x y, ty, pos, af, gd⟩ L Γ (upd L d X) Γ :=
  OT.value hn (fun g hg ρ a w h => by cases b <;> exact ev_ment h hx hg) fun ρ a w hr => by
    cases b with
    | true => exact ⟨a.eval x, by simp only [execOp, evv_eval hr hc, Sem.run_bind]; rfl, ev_rep hr hx⟩
    | false => exact ⟨a.eval y, by simp only [execOp, evv_eval hr hc, Sem.run_bind]; rfl, ev_rep hr hx⟩
def AV.re (A : AV) (X : DV) : AV := match A with | .f _ => .f X | _ => .d X
theorem AV.re_rep {ρ : Rho} {K : Nat → Prop} {B : Nat} {w : World} {A : AV} {X Y : DV} {u v : Value} (h : A.rep ρ K B w u) (hx : A.dv = some X) (hy : ∀ J, X.rep J w u → Y.rep J w v) : (A.re Y).rep ρ K B w v := by
  cases A with
  | d Z => simp only [AV.dv, Option.some.injEq] at hx; subst hx; exact hy _ h
  | f Z => simp only [AV.dv, Option.some.injEq] at hx; subst hx; exact hy _ h
  | _ => simp [AV.dv] at hx
theorem OT.extract {x : Operand} {i : Nat} {A : AV} {cs : List DV} {Y : DV} (hn : Nat.blt d C.n = true) (hx : ev L x = some A) (hA : A.dv = some (.tp cs)) (hi : cs[i]? = some Y) :
    OT P C ⟨some d, .extract x i, ty, pos, af, gd⟩ L Γ (upd L d (A.re Y)) Γ :=
  OT.value hn (fun g hg => absurd hg (AV.re_id A Y g)) fun ρ a w hr => by
    have h1 := ev_rep hr hx
    have h2 := dv_rep h1 hA
    unfold DV.rep at h2
    obtain ⟨us, hu, hl⟩ := h2
    obtain ⟨u, hu2, _⟩ := repL_get hl hi
    refine ⟨u, ?_, AV.re_rep h1 hA fun J hJ => ?_⟩
    · simp only [execOp, hu, Instr.extract]; simp [hu2]
    · unfold DV.rep at hJ
      obtain ⟨us', hu', hl'⟩ := hJ
      rw [hu] at hu'
      have : us = us' := by simpa using hu'
      subst this
      obtain ⟨u', h3, h4⟩ := repL_get hl' hi
      rw [hu2] at h3; cases h3; exact h4
end
end Go.Proofs.YtdjcclcejmeheaaGreat.Pl
end
section
namespace Go.Proofs.YtdjcclcejmeheaaGreat.Pl
set_option linter.unusedVariables false
set_option linter.unusedSimpArgs false
open Go.RowKit
def tyk (P : Program) (t : TypeId) : Option (Option Nat) :=
  match P.underlying t with
  | some (.struct _) | some (.array _ _) => (P.info? t).map fun i => some i.size
  | some _ => some none
  | none => none
def fo (P : Program) (s i : Nat) : Option Nat :=
  match P.underlying s with
  | some (.struct fs) => match fs[i]? with
    | some f => match P.info? f.type with
      | some j => if j.size = 0 then none else some f.offset
      | none => none
    | none => none
  | _ => none
def elt (P : Program) (t : TypeId) : Option (TypeId × Nat) :=
  match P.underlying t with
  | some (.slice e) => (P.info? e).map fun i => (e, i.size)
  | _ => none
def arr (P : Program) (t : TypeId) : Option (Nat × Nat) :=
  match P.underlying t with
  | some (.array n e) => (P.info? e).map fun i => (n, i.size)
  | _ => none
def zc (P : Program) (t : TypeId) : Option (List Value) :=
  match P.info? t with
  | some i => i.zero.map fun z => z.cells.toList
  | none => none
def szt (P : Program) (t : TypeId) : Option Nat := (P.info? t).map (·.size)
section
variable {P : Program}
theorem tyk_one {t : TypeId} (h : tyk P t = some none) (w : World) : (isAgg t).run P w = .ok false w := by
  unfold tyk at h
  cases hu : P.underlying t with
  | none => simp [hu] at h
  | some d => cases d <;> simp [hu] at h <;> simp [isAgg, run_underlying hu]
theorem tyk_many {t : TypeId} {n : Nat} (h : tyk P t = some (some n)) (w : World) : (isAgg t).run P w = .ok true w ∧ (sizeOf t).run P w = .ok n w := by
  unfold tyk at h
  cases hu : P.underlying t with
  | none => simp [hu] at h
  | some d =>
    cases hi : P.info? t with
    | none => cases d <;> simp [hu, hi] at h
    | some i => cases d <;> simp [hu, hi] at h <;> (subst h; simp [isAgg, run_underlying hu, sizeOf, typeInfo, hi])
theorem szt_run {t : TypeId} {n : Nat} (h : szt P t = some n) (w : World) : (sizeOf t).run P w = .ok n w := by
  unfold szt at h
  cases hi : P.info? t with
  | none => simp [hi] at h
  | some i => simp [hi] at h; subst h; simp [sizeOf, typeInfo, hi]
theorem fo_run {s i k : Nat} (h : fo P s i = some k) (b o : Nat) (w : World) : (Instr.fieldAt s (.pointer (some ⟨b, o, none⟩)) i).run P w = .ok (.pointer (some ⟨b, o + k, none⟩)) w := by
  unfold fo at h
  cases hu : P.underlying s with
  | none => simp [hu] at h
  | some d =>
    cases d <;> simp [hu] at h
    rename_i fs
    cases hf : fs[i]? with
    | none => simp [hf] at h
    | some f =>
      simp [hf] at h
      cases hi : P.info? f.type with
      | none => simp [hi] at h
      | some j =>
        simp [hi] at h
        obtain ⟨h0, rfl⟩ := h
        simp [Instr.fieldAt, run_underlying hu, hf, Instr.sureAddr, fieldPlace, sizeOf, typeInfo, hi, h0, addr_add]
theorem elt_parts {t e n : Nat} (h : elt P t = some (e, n)) : P.underlying t = some (.slice e) ∧ ∃ i, P.info? e = some i ∧ i.size = n := by
  unfold elt at h
  cases hu : P.underlying t with
  | none => simp [hu] at h
  | some d =>
    cases d <;> simp [hu] at h
    obtain ⟨i, hi, rfl, hs⟩ := h
    exact ⟨rfl, i, hi, hs⟩
theorem arr_parts {t n m : Nat} (h : arr P t = some (n, m)) : ∃ e i, P.underlying t = some (.array n e) ∧ P.info? e = some i ∧ i.size = m := by
  unfold arr at h
  cases hu : P.underlying t with
  | none => simp [hu] at h
  | some d =>
    cases d <;> simp [hu] at h
    obtain ⟨i, hi, rfl, hs⟩ := h
    exact ⟨_, i, rfl, hi, hs⟩
theorem zc_run {t : TypeId} {zs : List Value} (h : zc P t = some zs) (w : World) : ∃ z, (zeroValue t).run P w = .ok z w ∧ z.cells.toList = zs := by
  unfold zc at h
  cases hi : P.info? t with
  | none => simp [hi] at h
  | some i =>
    simp [hi] at h
    obtain ⟨z, hz, rfl⟩ := h
    exact ⟨z, by simp [zeroValue, typeInfo, hi, hz], rfl⟩
end
section
variable {P : Program} {C : Cx} {L : Lo} {Γ : Ga} {d : Nat} {ty : TypeId} {pos : String} {af : Array Edge} {gd : Option (Nat × Bool)}
/-- The cells of a block of one's own. -/
def AO.cells : AO → Option (List DV)
  | .box _ cs => some cs
  | .row _ _ cs => some cs
  | .mbox _ _ cs => some cs
  | .mrow _ _ _ cs => some cs
  | .nrow _ _ _ _ cs => some cs
  | .obj .. => none
  | .dead => none
theorem own_block {ρ : Rho} {a : Act} {w : World} (h : RepsAt C ρ L Γ a w) {g : Nat} {o : AO} {cs : List DV} (hg : Γ g = some o) (ho : o.cells = some cs) : ∃ ob, ρ g = some ob := by
  obtain ⟨ob, h1, _⟩ := h.obj g o hg (by rintro rfl; simp [AO.cells] at ho)
  exact ⟨ob, h1⟩
theorem OT.fieldp {s i k g off : Nat} {x : Operand} (hn : Nat.blt d C.n = true) (hx : ev L x = some (.ptr g off)) {o : AO} {cs : List DV} (hg : Γ g = some o) (ho : o.cells = some cs) (hf : fo P s i = some k) :
    OT P C ⟨some d, .fieldAddr s x i, ty, pos, af, gd⟩ L Γ (upd L d (.ptr g (off + k))) Γ :=
  OT.value hn (fun g' hg' ρ a w h => ev_ment h hx hg') fun ρ a w h => by
    obtain ⟨ob, h1⟩ := own_block h hg ho
    obtain ⟨b, rfl, h2⟩ := ev_rep h hx ob h1
    exact ⟨.pointer (some ⟨b, off + k, none⟩), by simp only [execOp, h2, Sem.run_bind, fo_run hf, Result.andThen_ok, Sem.run_pure], fun ob' h3 => by rw [h1] at h3; cases h3; exact ⟨b, rfl, rfl⟩⟩
theorem OT.fielde {s i k : Nat} {x : Operand} {A : AV} {cs : List DV} (hn : Nat.blt d C.n = true) (hx : ev L x = some A) (hA : A.dv = some (.el cs)) (hf : fo P s i = some k) :
    OT P C ⟨some d, .fieldAddr s x i, ty, pos, af, gd⟩ L Γ (upd L d (A.re (.el (cs.drop k)))) Γ :=
  OT.value hn (fun g hg => absurd hg (AV.re_id A _ g)) fun ρ a w h => by
    have h1 := ev_rep h hx
    have h2 := dv_rep h1 hA
    unfold DV.rep at h2
    obtain ⟨b, o, hv, _⟩ := h2
    refine ⟨.pointer (some ⟨b, o + k, none⟩), by simp only [execOp, hv, Sem.run_bind, fo_run hf, Result.andThen_ok, Sem.run_pure], AV.re_rep h1 hA fun J hJ => ?_⟩
    unfold DV.rep at hJ ⊢
    obtain ⟨b', o', hv', hb', hr'⟩ := hJ
    rw [hv] at hv'
    simp at hv'
    obtain ⟨rfl, rfl⟩ := hv'
    exact ⟨b, o + k, rfl, hb'.imp (fun e => by simp [e]) id, repAt_drop k hr'⟩
/-- An element of a slice that reads as this list. -/
abbrev slT {α : Type} (enc : α → List DV) (sz : Nat) (xs : List α) : DV := .sl sz xs.length (xs.flatMap enc)
theorem flat_length {α : Type} {enc : α → List DV} {sz : Nat} (h : ∀ x, (enc x).length = sz) (xs : List α) : (xs.flatMap enc).length = xs.length * sz := by
  induction xs with
  | nil => simp
  | cons x r ih => rw [List.flatMap_cons, List.length_append, ih, h, List.length_cons, Nat.succ_mul, Nat.add_comm]
theorem flat_drop {α : Type} {enc : α → List DV} {sz : Nat} (h : ∀ x, (enc x).length = sz) : ∀ (xs : List α) (n : Nat), (xs.flatMap enc).drop (n * sz) = (xs.drop n).flatMap enc
  | [], n => by simp
  | x :: r, 0 => by simp
  | x :: r, n + 1 => by
    rw [List.flatMap_cons, List.drop_succ_cons, ← flat_drop h r n, Nat.succ_mul, Nat.add_comm, ← List.drop_drop]
    rw [show (enc x ++ List.flatMap enc r).drop sz = List.flatMap enc r from by rw [← h x]; exact List.drop_left]
theorem flat_take {α : Type} {enc : α → List DV} {sz : Nat} (h : ∀ x, (enc x).length = sz) : ∀ (xs : List α) (n : Nat), (xs.flatMap enc).take (n * sz) = (xs.take n).flatMap enc
  | [], n => by simp
  | x :: r, 0 => by simp
  | x :: r, n + 1 => by
    rw [List.flatMap_cons, List.take_succ_cons, List.flatMap_cons, ← flat_take h r n, Nat.succ_mul, Nat.add_comm, ← h x]
    rw [List.take_append, List.take_of_length_le (by omega)]
    congr 2; omega
theorem OT.idx {α : Type} {enc : α → List DV} {sz : Nat} {xs : List α} {t e : TypeId} {x y : Operand} {A : AV} {k : IntKind} {i : Int} (v : α) (hn : Nat.blt d C.n = true) (hx : ev L x = some A) (hA : A.dv = some (slT enc sz xs)) (hy : evv L y = some (.int k i))
    (ht : elt P t = some (e, sz)) (he : ∀ z, (enc z).length = sz) (h0 : 0 ≤ i) (hv : xs[i.toNat]? = some v) :
    OT P C ⟨some d, .indexAddr t x y, ty, pos, af, gd⟩ L Γ (upd L d (A.re (.el (enc v)))) Γ :=
  OT.value hn (fun g hg => absurd hg (AV.re_id A _ g)) fun ρ a w h => by
    have h1 := ev_rep h hx
    have h2 := dv_rep h1 hA
    have hlt : i.toNat < xs.length := (List.getElem?_eq_some_iff.1 hv).1
    have hv2 : xs[i.toNat] = v := by have := List.getElem?_eq_getElem hlt; rw [hv] at this; injection this with h; exact h.symm
    unfold DV.rep at h2
    rcases h2 with ⟨_, h3, _⟩ | ⟨b, o, c, hs, hc, hm, hl, hb, hr⟩
    · omega
    · obtain ⟨hu, j, hi, hj⟩ := elt_parts ht
      refine ⟨.pointer (some ⟨b, o + i.toNat * sz, none⟩), ?_, AV.re_rep h1 hA fun J hJ => ?_⟩
      · have hi2 : 0 ≤ i ∧ i < (xs.length : Int) := ⟨h0, by omega⟩
        simp [execOp, hs, evv_eval h hy, Instr.indexAt, run_underlying hu, asIntOf, hi2, sizeOf, typeInfo, hi, hj, addr_add]
      · unfold DV.rep at hJ ⊢
        rcases hJ with ⟨_, h3, _⟩ | ⟨b', o', c', hs', hc', hm', hl', hb', hr'⟩
        · omega
        · rw [hs] at hs'
          simp at hs'
          obtain ⟨⟨rfl, rfl⟩, rfl⟩ := hs'
          refine ⟨b, _, rfl, ?_, ?_⟩
          · rcases hb' with hb' | hb'
            · left
              have hz : (xs.flatMap enc).length = 0 := by rw [hb']; rfl
              rw [flat_length he] at hz
              have : sz = 0 := by
                rcases Nat.mul_eq_zero.1 hz with h | h
                · omega
                · exact h
              exact List.eq_nil_of_length_eq_zero (by rw [he, this])
            · exact .inr hb'
          · have hd := repAt_drop (i.toNat * sz) hr'
            rw [flat_drop he, ← List.getElem_cons_drop hlt, hv2, List.flatMap_cons] at hd
            have htk := repAt_take (enc v).length hd
            rw [List.take_left] at htk
            exact htk
/-- An element of an array, or of a row, of one's own. -/
theorem OT.idxp {t n sz g off : Nat} {x y : Operand} {k : IntKind} {i : Int} (hn : Nat.blt d C.n = true) (hx : ev L x = some (.ptr g off)) (hy : evv L y = some (.int k i)) {o : AO} {cs : List DV} (hg : Γ g = some o) (ho : o.cells = some cs) (ht : arr P t = some (n, sz)) (h0 : 0 ≤ i) (h1 : i < n) :
    OT P C ⟨some d, .indexAddr t x y, ty, pos, af, gd⟩ L Γ (upd L d (.ptr g (off + i.toNat * sz))) Γ :=
  OT.value hn (fun g' hg' ρ a w h => ev_ment h hx hg') fun ρ a w h => by
    obtain ⟨ob, h3⟩ := own_block h hg ho
    obtain ⟨b, rfl, h2⟩ := ev_rep h hx ob h3
    obtain ⟨e, j, hu, hi, hj⟩ := arr_parts ht
    have hi2 : 0 ≤ i ∧ i < (n : Int) := ⟨h0, h1⟩
    exact ⟨.pointer (some ⟨b, off + i.toNat * sz, none⟩), by simp [execOp, h2, evv_eval h hy, Instr.indexAt, run_underlying hu, asIntOf, hi2, sizeOf, typeInfo, hi, hj, addr_add, Instr.sureAddr], fun ob' h5 => by rw [h3] at h5; cases h5; exact ⟨b, rfl, rfl⟩⟩
theorem OT.idxo {t e n sz g : Nat} {x y : Operand} {k : IntKind} {i : Int} (hn : Nat.blt d C.n = true) (hx : ev L x = some (.ow g n sz)) (hy : evv L y = some (.int k i)) {o : AO} {cs : List DV} (hg : Γ g = some o) (ho : o.cells = some cs) (ht : elt P t = some (e, sz)) (h0 : 0 ≤ i) (h1 : i < n) :
    OT P C ⟨some d, .indexAddr t x y, ty, pos, af, gd⟩ L Γ (upd L d (.ptr g (i.toNat * sz))) Γ :=
  OT.value hn (fun g' hg' ρ a w h => ev_ment h hx hg') fun ρ a w h => by
    obtain ⟨ob, h3⟩ := own_block h hg ho
    rcases ev_rep h hx ob h3 with ⟨_, _, h2⟩ | ⟨b, c, rfl, h2, _⟩
    · omega
    · obtain ⟨hu, j, hi, hj⟩ := elt_parts ht
      have hi2 : 0 ≤ i ∧ i < (n : Int) := ⟨h0, h1⟩
      exact ⟨.pointer (some ⟨b, i.toNat * sz, none⟩), by simp [execOp, h2, evv_eval h hy, Instr.indexAt, run_underlying hu, asIntOf, hi2, sizeOf, typeInfo, hi, hj, addr_add], fun ob' h5 => by rw [h3] at h5; cases h5; exact ⟨b, rfl, rfl⟩⟩
theorem add_at (b o j : Nat) : (⟨b, o, none⟩ : Addr).add j = ⟨b, o + j, none⟩ := addr_add b o j
theorem load_one {t : TypeId} {b o : Nat} {u : Value} {w : World} (ht : tyk P t = some none) (h : w.cell? ⟨b, o, none⟩ = some u) : (Instr.loadAt t (.pointer (some ⟨b, o, none⟩))).run P w = .ok u w := by
  simp [Instr.loadAt, Instr.sureAddr, loadVar, tyk_one ht, h]
theorem load_many {t : TypeId} {b o : Nat} {us : List Value} {w : World} (ht : tyk P t = some (some us.length)) (h : ∀ j u, us[j]? = some u → w.cell? ⟨b, o + j, none⟩ = some u) : (Instr.loadAt t (.pointer (some ⟨b, o, none⟩))).run P w = .ok (.agg us.toArray) w := by
  have hl := run_loadCells_list (P := P) w ⟨b, o, none⟩ us (fun j u hj => by rw [add_at]; exact h j u hj)
  simp [Instr.loadAt, Instr.sureAddr, loadVar, (tyk_many ht w).1, (tyk_many ht w).2, hl]
theorem obj_cells {K : Nat → Prop} {w : World} {T : TypeId} {cs : List DV} {ob : Option Nat} (h : (AO.box T cs).rep K w ob) : ∃ b, ob = some b ∧ repAt K w cs b 0 := by
  obtain ⟨b, us, rfl, h1, h2, h3⟩ := h
  refine ⟨b, rfl, repAt_of_cells h2 (fun j u hj => ?_) h3⟩
  rw [Nat.zero_add, cell_of_row w b j _ T _ h1]
  simpa using hj
theorem row_cells {K : Nat → Prop} {w : World} {T : TypeId} {sz : Nat} {cs : List DV} {b : Nat} (h : (AO.row T sz cs).rep K w (some b)) : repAt K w cs b 0 := by
  rcases h with ⟨h, _⟩ | ⟨b', us, cap, h0, h1, h2, h3, h4, h5, h6⟩
  · cases h
  · cases h0
    refine repAt_of_cells h5 (fun j u hj => ?_) h6
    rw [Nat.zero_add, cell_of_row w b j _ T _ h1]
    rw [List.getElem?_take] at hj
    split at hj
    · simpa using hj
    · cases hj
theorem own_cells {ρ : Rho} {a : Act} {w : World} (h : RepsAt C ρ L Γ a w) {g b : Nat} {o : AO} {cs : List DV} (hg : Γ g = some o) (ho : o.cells = some cs) (hb : ρ g = some (some b)) : repAt (KK C.K0 ρ Γ) w cs b 0 := by
  have hd : o ≠ .dead := by rintro rfl; simp [AO.cells] at ho
  obtain ⟨ob, h1, h2⟩ := h.obj g o hg hd
  rw [hb] at h1
  cases h1
  cases o with
  | dead => exact absurd rfl hd
  | box T cs' => simp [AO.cells] at ho; subst ho; obtain ⟨b', e, h3⟩ := obj_cells h2; cases e; exact h3
  | row T sz cs' => simp [AO.cells] at ho; subst ho; exact row_cells h2
  | mbox _ T cs' => simp [AO.cells] at ho; subst ho; obtain ⟨b', e, h3⟩ := obj_cells (T := T) h2; cases e; exact h3
  | mrow _ T sz cs' => simp [AO.cells] at ho; subst ho; exact row_cells (T := T) (sz := sz) h2
  | nrow u n T sz cs' => simp [AO.cells] at ho; subst ho; exact row_cells (nrow_row h2)
  | obj _ _ => simp [AO.cells] at ho
theorem OT.ldp {t g off : Nat} {x : Operand} {o : AO} {cs : List DV} {X : DV} (hn : Nat.blt d C.n = true) (hx : ev L x = some (.ptr g off)) (hg : Γ g = some o) (ho : o.cells = some cs) (hX : cs[off]? = some X) (ht : tyk P t = some none) :
    OT P C ⟨some d, .load t x, ty, pos, af, gd⟩ L Γ (upd L d (.d X)) Γ :=
  OT.value hn (fun g hg => by simp [AV.id] at hg) fun ρ a w h => by
    obtain ⟨ob, h1⟩ := own_block h hg ho
    obtain ⟨b, rfl, h2⟩ := ev_rep h hx ob h1
    obtain ⟨u, h3, h4, h5⟩ := repAt_get (own_cells h hg ho h1) hX
    rw [Nat.zero_add] at h3
    exact ⟨u, by simp only [execOp, h2, Sem.run_bind, load_one ht h3, Result.andThen_ok, Sem.run_pure], h5⟩
theorem OT.ldpm {t g off n : Nat} {x : Operand} {o : AO} {cs ds : List DV} (hn : Nat.blt d C.n = true) (hx : ev L x = some (.ptr g off)) (hg : Γ g = some o) (ho : o.cells = some cs) (hds : (cs.drop off).take n = ds) (hl : ds.length = n) (ht : tyk P t = some (some n)) :
    OT P C ⟨some d, .load t x, ty, pos, af, gd⟩ L Γ (upd L d (.d (.ag ds))) Γ :=
  OT.value hn (fun g hg => by simp [AV.id] at hg) fun ρ a w h => by
    obtain ⟨ob, h1⟩ := own_block h hg ho
    obtain ⟨b, rfl, h2⟩ := ev_rep h hx ob h1
    have h3 := repAt_take n (repAt_drop off (own_cells h hg ho h1))
    rw [hds, Nat.zero_add] at h3
    obtain ⟨us, h4, h5, h6⟩ := repAt_vals h3
    have hlen := repL_length h4
    refine ⟨.agg us.toArray, by simp only [execOp, h2, Sem.run_bind, load_many (us := us) (by rw [hlen, hl]; exact ht) h5, Result.andThen_ok, Sem.run_pure], ?_⟩
    show DV.rep _ _ _ _
    unfold DV.rep
    exact ⟨us, rfl, h4⟩
theorem OT.lde {t : Nat} {x : Operand} {A : AV} {cs : List DV} {X : DV} (hn : Nat.blt d C.n = true) (hx : ev L x = some A) (hA : A.dv = some (.el cs)) (hX : cs[0]? = some X) (ht : tyk P t = some none) :
    OT P C ⟨some d, .load t x, ty, pos, af, gd⟩ L Γ (upd L d (A.re X)) Γ :=
  OT.value hn (fun g hg => absurd hg (AV.re_id A _ g)) fun ρ a w h => by
    have h1 := ev_rep h hx
    have h2 := dv_rep h1 hA
    unfold DV.rep at h2
    obtain ⟨b, o, hv, hb, hr⟩ := h2
    obtain ⟨u, h3, h4, h5⟩ := repAt_get hr hX
    rw [Nat.add_zero] at h3
    refine ⟨u, by simp only [execOp, hv, Sem.run_bind, load_one ht h3, Result.andThen_ok, Sem.run_pure], AV.re_rep h1 hA fun J hJ => ?_⟩
    unfold DV.rep at hJ
    obtain ⟨b', o', hv', hb', hr'⟩ := hJ
    rw [hv] at hv'; simp at hv'; obtain ⟨rfl, rfl⟩ := hv'
    obtain ⟨u', k3, k4, k5⟩ := repAt_get hr' hX
    rw [Nat.add_zero, h3] at k3; cases k3; exact k5
theorem OT.ldem {t n : Nat} {x : Operand} {A : AV} {cs ds : List DV} (hn : Nat.blt d C.n = true) (hx : ev L x = some A) (hA : A.dv = some (.el cs)) (hds : cs.take n = ds) (hl : ds.length = n) (ht : tyk P t = some (some n)) :
    OT P C ⟨some d, .load t x, ty, pos, af, gd⟩ L Γ (upd L d (A.re (.ag ds))) Γ :=
  OT.value hn (fun g hg => absurd hg (AV.re_id A _ g)) fun ρ a w h => by
    have h1 := ev_rep h hx
    have h2 := dv_rep h1 hA
    unfold DV.rep at h2
    obtain ⟨b, o, hv, hb, hr⟩ := h2
    have h3 := repAt_take n hr
    rw [hds] at h3
    obtain ⟨us, h4, h5, h6⟩ := repAt_vals h3
    have hlen := repL_length h4
    refine ⟨.agg us.toArray, by simp only [execOp, hv, Sem.run_bind, load_many (us := us) (by rw [hlen, hl]; exact ht) h5, Result.andThen_ok, Sem.run_pure], AV.re_rep h1 hA fun J hJ => ?_⟩
    unfold DV.rep at hJ ⊢
    obtain ⟨b', o', hv', hb', hr'⟩ := hJ
    rw [hv] at hv'; simp at hv'; obtain ⟨rfl, rfl⟩ := hv'
    have k3 := repAt_take n hr'
    rw [hds] at k3
    obtain ⟨us', k4, k5, k6⟩ := repAt_vals k3
    have hlen' := repL_length k4
    have : us = us' := by
      apply List.ext_getElem?
      intro j
      by_cases hj : j < ds.length
      · have e1 := h5 j us[j] (by simp [List.getElem?_eq_getElem (show j < us.length by omega)])
        have e2 := k5 j us'[j] (by simp [List.getElem?_eq_getElem (show j < us'.length by omega)])
        rw [e1] at e2
        injection e2 with e2
        rw [List.getElem?_eq_getElem (show j < us.length by omega), List.getElem?_eq_getElem (show j < us'.length by omega), e2]
      · rw [List.getElem?_eq_none (by omega), List.getElem?_eq_none (by omega)]
    subst this
    exact ⟨us, rfl, k4⟩
end
end Go.Proofs.YtdjcclcejmeheaaGreat.Pl
end
section
namespace Go.Proofs.YtdjcclcejmeheaaGreat.Pl
set_option linter.unusedVariables false
set_option linter.unusedSimpArgs false
open Go.RowKit
section
variable {P : Program} {C : Cx} {ρ : Rho} {L : Lo} {Γ : Ga} {a : Act} {w : World}
theorem live_upd {Γ : Ga} {g : Nat} {o : AO} (ho : o ≠ .dead) (g' : Nat) : live (upd Γ g o) g' ↔ g' = g ∨ live Γ g' := by
  constructor
  · rintro ⟨x, h1, h2⟩
    rcases upd_some h1 with ⟨rfl, _⟩ | ⟨_, h⟩
    · exact .inl rfl
    · exact .inr ⟨x, h, h2⟩
  · rintro h
    by_cases e : g' = g
    · subst e; exact ⟨o, upd_same _ _ _, ho⟩
    · obtain ⟨x, h1, h2⟩ := h.resolve_left e
      exact ⟨x, by rw [upd_other _ _ _ _ e]; exact h1, h2⟩
theorem KK_upd {K0 : Nat → Prop} {Γ : Ga} {g : Nat} {o : AO} (ho : o ≠ .dead) (hg : live Γ g) : KK K0 ρ (upd Γ g o) = KK K0 ρ Γ := by
  funext b
  refine propext ⟨?_, ?_⟩
  · rintro (h | ⟨g', h1, h2⟩)
    · exact .inl h
    · rcases (live_upd ho g').1 h1 with rfl | h1
      · exact .inr ⟨g', hg, h2⟩
      · exact .inr ⟨g', h1, h2⟩
  · rintro (h | ⟨g', h1, h2⟩)
    · exact .inl h
    · exact .inr ⟨g', (live_upd ho g').2 (.inr h1), h2⟩
/-- A block of one's own is turned. -/
theorem RepsAt.turn (h : RepsAt C ρ L Γ a w) {g b : Nat} {o' : AO} {w' : World} (hg : live Γ g) (hb : ρ g = some (some b)) (hgr : w.grownBy w' (some b)) (hz : bsz w' b = bsz w b) (ho' : o' ≠ .dead) (hM : ∀ o, Γ g = some o → o.key = o'.key)
    (ho : o'.rep (KK C.K0 ρ Γ) w' (some b)) : RepsAt C ρ L (upd Γ g o') a w' := by
  have hk : Keeps (KK C.K0 ρ Γ) (KK C.K0 ρ Γ) w w' := fun b' hb' hn => ⟨hgr.block b' hb' (fun e => hn (.inr ⟨g, hg, by rw [hb]; cases e; rfl⟩)), Nat.lt_of_lt_of_le hb' hgr.size, hn⟩
  have hs : ∀ g' b', ρ g' = some (some b') → bsz w' b' = bsz w b' := fun g' b' h' => by
    by_cases e : b' = b
    · subst e; exact hz
    · exact bsz_block (hgr.block b' (h.lt g' b' h') (fun x => e (by cases x; rfl)))
  refine ⟨h.df, h.sz, h.k0, h.fr.grown hgr (fun k e => by cases e; obtain ⟨o, q1, q2⟩ := hg; cases hkk : o.key with | none => exact .inl (h.new g b o q1 q2 hkk hb) | some k => exact .inr ⟨⟨k, h.len g o k _ q1 hkk hb⟩, hz⟩), fun g' hn => h.dom g' (fun x => hn ((live_upd ho' g').2 (.inr x))), fun t X g' ht hx => ?_, fun g' b' h' => Nat.lt_of_lt_of_le (h.lt g' b' h') hgr.size, ?_, ?_, ?_, ?_, ?_⟩
  · by_cases e : g' = g
    · subst e; rw [upd_same]; simp
    · rw [upd_other _ _ _ _ e]; exact h.ment t X g' ht hx
  · intro g1 g2 b' h1 h2 l1 l2
    have e1 : live Γ g1 := ((live_upd ho' g1).1 l1).elim (fun e => e ▸ hg) id
    have e2 : live Γ g2 := ((live_upd ho' g2).1 l2).elim (fun e => e ▸ hg) id
    exact h.inj g1 g2 b' h1 h2 e1 e2
  · intro g' b' o h1 h2 h3 h'
    rcases upd_some h1 with ⟨rfl, rfl⟩ | ⟨_, h1⟩
    · obtain ⟨oo, q1, q2⟩ := hg
      exact h.new g' b' oo q1 q2 ((hM oo q1).trans h3) h'
    · exact h.new g' b' o h1 h2 h3 h'
  · intro g' o k ob h1 h3 h'
    rcases upd_some h1 with ⟨rfl, rfl⟩ | ⟨_, h1⟩
    · obtain ⟨oo, q1, q2⟩ := hg
      exact h.len g' oo k ob q1 ((hM oo q1).trans h3) h'
    · exact h.len g' o k ob h1 h3 h'
  · intro g' o h1 h2
    rw [KK_upd ho' hg]
    rcases upd_some h1 with ⟨rfl, rfl⟩ | ⟨hne, h1⟩
    · exact ⟨_, hb, ho⟩
    · obtain ⟨ob, h3, h4⟩ := h.obj g' o h1 h2
      refine ⟨ob, h3, AO.rep_mono hk (fun b' e => ?_) o h4⟩
      subst e
      exact hgr.block b' (h.lt g' b' h3) (fun e => hne (h.inj g' g b' h3 (by rw [hb]; cases e; rfl) ⟨o, h1, h2⟩ hg))
  · intro t X ht
    rw [KK_upd ho' hg]
    exact AV.rep_mono hk hs X _ (h.slot t X ht)
/-- A new block; an elder one may go (its id is dead from then on). -/
theorem RepsAt.gain (h : RepsAt C ρ L Γ a w) {g : Nat} {ob ob' : Option Nat} {o' : AO} {w' : World} {Γ1 : Ga} (hg : Γ g = none)
    (hΓ : ∀ g' o, Γ1 g' = some o → o ≠ .dead → Γ g' = some o) (hd : ∀ g', Γ g' ≠ none → Γ1 g' ≠ none) (hfree : ∀ b g', ob = some b → live Γ1 g' → ρ g' ≠ some (some b))
    (hold : ∀ b, ob = some b → C.w0.heap.size ≤ b ∧ ∃ g', live Γ g' ∧ ρ g' = some (some b))
    (hgr : w.grownBy w' ob) (hob : ∀ b, ob' = some b → (ob = some b ∨ w.heap.size ≤ b) ∧ b < w'.heap.size) (ho' : o' ≠ .dead) (hkey : o'.key = none)
    (ho : ∀ K, (Keeps (KK C.K0 ρ Γ) K w w') → (∀ b, K b → b < w.heap.size ∨ ob' = some b) → o'.rep K w' ob') : ∃ ρ', RepsAt C ρ' L (upd Γ1 g o') a w' ∧ ρ' g = some ob' ∧ Keeps (KK C.K0 ρ Γ) (KK C.K0 ρ' (upd Γ1 g o')) w w' := by
  have hρg : ρ g = none := h.dom g (fun ⟨o, h1, _⟩ => by rw [hg] at h1; cases h1)
  have l1 : ∀ g', live Γ1 g' → live Γ g' := fun g' ⟨o, h1, h2⟩ => ⟨o, hΓ g' o h1 h2, h2⟩
  have hbw : ∀ b, ob = some b → b < w.heap.size := fun b e => by obtain ⟨g', _, h2⟩ := (hold b e).2; exact h.lt g' b h2
  classical
  let ρ' : Rho := fun x => if x = g then some ob' else if live Γ1 x then ρ x else none
  have r1 : ρ' g = some ob' := by simp [ρ']
  have r2 : ∀ x, x ≠ g → live Γ1 x → ρ' x = ρ x := fun x hx hl => by simp [ρ', hx, hl]
  have r3 : ∀ x y, x ≠ g → ρ' x = some y → live Γ1 x ∧ ρ x = some y := fun x y hx hy => by
    by_cases hl : live Γ1 x
    · rw [r2 x hx hl] at hy; exact ⟨hl, hy⟩
    · simp [ρ', hx, hl] at hy
  have notold : ∀ x b, x ≠ g → ρ' x = some (some b) → ob ≠ some b := fun x b hx hy e => hfree b x e (r3 x _ hx hy).1 (r3 x _ hx hy).2
  have hk : Keeps (KK C.K0 ρ Γ) (KK C.K0 ρ' (upd Γ1 g o')) w w' := fun b hb hn => by
    have hne : ob ≠ some b := fun e => hn (.inr (hold b e).2)
    refine ⟨hgr.block b hb (fun e => hne e.symm), Nat.lt_of_lt_of_le hb hgr.size, ?_⟩
    rintro (hK | ⟨g', h1, h2⟩)
    · exact hn (.inl hK)
    · by_cases e : g' = g
      · subst e
        rw [r1] at h2
        have := (hob b (by injection h2)).1
        rcases this with e | e
        · exact hne e
        · omega
      · obtain ⟨q1, q2⟩ := r3 g' _ e h2
        exact hn (.inr ⟨g', l1 g' q1, q2⟩)
  have hkb : ∀ b, KK C.K0 ρ' (upd Γ1 g o') b → b < w.heap.size ∨ ob' = some b := by
    rintro b (hK | ⟨g', h1, h2⟩)
    · exact .inl (Nat.lt_of_lt_of_le (h.k0 b hK).1 h.fr.size)
    · by_cases e : g' = g
      · subst e; rw [r1] at h2; right; injection h2
      · exact .inl (h.lt g' b (r3 g' _ e h2).2)
  refine ⟨ρ', ⟨h.df, h.sz, h.k0, h.fr.grown hgr (fun k e => .inl (hold k e).1), ?_, ?_, ?_, ?_, ?_, ?_, ?_, ?_⟩, r1, hk⟩
  · intro g' hn
    have hne : g' ≠ g := fun e => hn ((live_upd ho' g').2 (.inl e))
    have hl : ¬ live Γ1 g' := fun x => hn ((live_upd ho' g').2 (.inr x))
    simp [ρ', hne, hl]
  · intro t X g' ht hx
    by_cases e : g' = g
    · subst e; rw [upd_same]; simp
    · rw [upd_other _ _ _ _ e]; exact hd g' (h.ment t X g' ht hx)
  · intro g' b hb
    by_cases e : g' = g
    · subst e; rw [r1] at hb; exact (hob b (by injection hb)).2
    · exact Nat.lt_of_lt_of_le (h.lt g' b (r3 g' _ e hb).2) hgr.size
  · intro g1 g2 b h1 h2 k1 k2
    by_cases e1 : g1 = g <;> by_cases e2 : g2 = g
    · rw [e1, e2]
    · subst e1
      rw [r1] at h1
      have q := (hob b (by injection h1)).1
      rcases q with q | q
      · exact absurd q (notold g2 b e2 h2)
      · have := h.lt g2 b (r3 g2 _ e2 h2).2; omega
    · subst e2
      rw [r1] at h2
      have q := (hob b (by injection h2)).1
      rcases q with q | q
      · exact absurd q (notold g1 b e1 h1)
      · have := h.lt g1 b (r3 g1 _ e1 h1).2; omega
    · exact h.inj g1 g2 b (r3 g1 _ e1 h1).2 (r3 g2 _ e2 h2).2 (l1 _ (r3 g1 _ e1 h1).1) (l1 _ (r3 g2 _ e2 h2).1)
  · intro g' b o k1 k2 k3 hb
    by_cases e : g' = g
    · subst e
      rw [r1] at hb
      rcases (hob b (by injection hb)).1 with q | q
      · exact (hold b q).1
      · exact Nat.le_trans h.fr.size q
    · rw [upd_other _ _ _ _ e] at k1
      exact h.new g' b o (hΓ g' o k1 k2) k2 k3 (r3 g' _ e hb).2
  · intro g' o k oo k1 k3 hb
    by_cases e : g' = g
    · subst e
      rw [upd_same] at k1; cases k1
      rw [hkey] at k3; cases k3
    · rw [upd_other _ _ _ _ e] at k1
      exact h.len g' o k oo (hΓ g' o k1 (by rintro rfl; simp [AO.key] at k3)) k3 (r3 g' _ e hb).2
  · intro g' o h1 h2
    rcases upd_some h1 with ⟨rfl, rfl⟩ | ⟨hne, h1⟩
    · exact ⟨ob', r1, ho _ hk hkb⟩
    · obtain ⟨oo, h3, h4⟩ := h.obj g' o (hΓ g' o h1 h2) h2
      have hl1 : live Γ1 g' := ⟨o, h1, h2⟩
      refine ⟨oo, by rw [r2 g' hne hl1]; exact h3, AO.rep_mono hk (fun b e => ?_) o h4⟩
      subst e
      exact hgr.block b (h.lt g' b h3) (fun e => hfree b g' e.symm hl1 h3)
  · intro t X ht
    have hX := h.slot t X ht
    cases X with
    | d X => exact DV.rep_mono hk X _ hX
    | f X => exact DV.rep_mono (hk.widen (J := fun b => b < C.w0.heap.size)) X _ hX
    | ptr g' off =>
      intro oo hoo
      have hne : g' ≠ g := fun e => h.ment t _ g' ht rfl (e ▸ hg)
      exact hX oo (r3 g' _ hne hoo).2
    | bs g' off n sz =>
      intro oo hoo
      have hne : g' ≠ g := fun e => h.ment t _ g' ht rfl (e ▸ hg)
      obtain ⟨b, c, rfl, k2, k3, k4, k5⟩ := hX oo (r3 g' _ hne hoo).2
      refine ⟨b, c, rfl, k2, k3, k4, ?_⟩
      rw [bsz_block (hgr.block b (h.lt g' b (r3 g' _ hne hoo).2) (fun e => notold g' b hne hoo e.symm))]
      exact k5
    | ow g' n sz =>
      intro oo hoo
      have hne : g' ≠ g := fun e => h.ment t _ g' ht rfl (e ▸ hg)
      rcases hX oo (r3 g' _ hne hoo).2 with hX | ⟨b, c, rfl, k2, k3, k4, k5⟩
      · exact .inl hX
      · refine .inr ⟨b, c, rfl, k2, k3, k4, ?_⟩
        rw [bsz_block (hgr.block b (h.lt g' b (r3 g' _ hne hoo).2) (fun e => notold g' b hne hoo e.symm))]
        exact k5
theorem grown_alloc (w : World) (o : Obj) : w.grownBy (w.alloc o) none := ⟨rfl, rfl, rfl, by simp, fun k hk _ => heap_alloc_old _ _ hk⟩
/-- A new block without an elder one. -/
theorem RepsAt.fresh (h : RepsAt C ρ L Γ a w) {g b : Nat} {o' : AO} {w' : World} (hg : Γ g = none) (hgr : w.grownBy w' none) (hb : w.heap.size ≤ b ∧ b < w'.heap.size) (ho' : o' ≠ .dead) (hkey : o'.key = none)
    (ho : ∀ K, (Keeps (KK C.K0 ρ Γ) K w w') → (∀ b', K b' → b' < w.heap.size ∨ some b = some b') → o'.rep K w' (some b)) : ∃ ρ', RepsAt C ρ' L (upd Γ g o') a w' ∧ ρ' g = some (some b) ∧ Keeps (KK C.K0 ρ Γ) (KK C.K0 ρ' (upd Γ g o')) w w' :=
  h.gain (ob := none) (Γ1 := Γ) hg (fun _ _ h _ => h) (fun _ h => h) (fun b g' e => by cases e) (fun b e => by cases e) hgr (fun b' e => by cases e; exact ⟨.inr hb.1, hb.2⟩) ho' hkey ho
end
def DV.cells : DV → List DV
  | .ag cs => cs
  | .v (.agg us) => us.toList.map .v
  | X => [X]
def DV.one : DV → Bool
  | .v u => u.oneCell'
  | .sl .. => true
  | .el .. => true
  | .fn .. => true
  | _ => false
theorem one_rep {K : Nat → Prop} {w : World} {X : DV} {u : Value} (h : X.one = true) (hr : X.rep K w u) : u.oneCell' = true := by
  cases X <;> simp only [DV.one, Bool.false_eq_true] at h
  · simp only [DV.rep] at hr; subst hr; exact h
  · unfold DV.rep at hr; rcases hr with ⟨rfl, _⟩ | ⟨b, o, c, rfl, _⟩ <;> rfl
  · unfold DV.rep at hr; obtain ⟨b, o, rfl, _⟩ := hr; rfl
  · unfold DV.rep at hr; obtain ⟨us, vs, rfl, _⟩ := hr; rfl
theorem repL_v {K : Nat → Prop} {w : World} : ∀ us : List Value, repL K w (us.map .v) us
  | [] => by simp [repL]
  | u :: r => by rw [List.map_cons]; unfold repL; exact ⟨u, r, rfl, rfl, repL_v r⟩
theorem repL_v_eq {K : Nat → Prop} {w : World} : ∀ {us vs : List Value}, repL K w (us.map .v) vs → vs = us
  | [], vs, h => by simpa [repL] using h
  | u :: r, vs, h => by
    rw [List.map_cons] at h; unfold repL at h
    obtain ⟨x, t, rfl, h1, h2⟩ := h
    simp only [DV.rep] at h1
    rw [h1, repL_v_eq h2]
theorem cells_rep {K : Nat → Prop} {w : World} {X : DV} {u : Value} (h : X.rep K w u) (h1 : X.cells.all DV.one = true) : repL K w X.cells u.cells.toList ∧ ∀ x ∈ u.cells.toList, x.oneCell' = true := by
  have key : ∀ (cs : List DV) (us : List Value), repL K w cs us → cs.all DV.one = true → ∀ x ∈ us, x.oneCell' = true := by
    intro cs
    induction cs with
    | nil => intro us h _; unfold repL at h; subst h; simp
    | cons Y Ys ih =>
      intro us h h1
      unfold repL at h
      obtain ⟨u, t, rfl, h3, h4⟩ := h
      simp only [List.all_cons, Bool.and_eq_true] at h1
      intro x hx
      rcases List.mem_cons.1 hx with rfl | hx
      · exact one_rep h1.1 h3
      · exact ih t h4 h1.2 x hx
  have single : ∀ Y : DV, Y.one = true → Y.rep K w u → u.oneCell' = true → repL K w [Y] u.cells.toList := fun Y hY hr h1 => by
    have : u.cells = #[u] := by cases u <;> first | rfl | (simp [Value.oneCell'] at h1)
    rw [this]; unfold repL; exact ⟨u, [], rfl, hr, by simp [repL]⟩
  cases X with
  | ag cs =>
    unfold DV.rep at h
    obtain ⟨us, rfl, hl⟩ := h
    exact ⟨by simpa [DV.cells, Value.cells] using hl, by simpa [Value.cells] using key cs us hl h1⟩
  | v x =>
    simp only [DV.rep] at h
    subst h
    cases u with
    | agg us =>
      have hl : repL K w (us.toList.map .v) us.toList := repL_v us.toList
      exact ⟨hl, key _ _ hl h1⟩
    | _ => exact ⟨by unfold DV.cells Value.cells repL; exact ⟨_, [], rfl, rfl, by simp [repL]⟩, by
        intro x hx
        simp [Value.cells] at hx
        subst hx
        simpa [DV.cells, DV.one] using h1⟩
  | sl sz n cs =>
    have h2 := one_rep (X := .sl sz n cs) rfl h
    have h3 := single _ rfl h h2
    exact ⟨h3, key _ _ h3 (by simp [DV.one])⟩
  | el cs =>
    have h2 := one_rep (X := .el cs) rfl h
    have h3 := single _ rfl h h2
    exact ⟨h3, key _ _ h3 (by simp [DV.one])⟩
  | tp cs => simp [DV.cells, DV.one] at h1
  | fn f a c =>
    have h2 := one_rep (X := .fn f a c) rfl h
    have h3 := single _ rfl h h2
    exact ⟨h3, key _ _ h3 (by simp [DV.one])⟩
end Go.Proofs.YtdjcclcejmeheaaGreat.Pl
end
section
namespace Go.Proofs.YtdjcclcejmeheaaGreat.Pl
set_option linter.unusedVariables false
set_option linter.unusedSimpArgs false
open Go.RowKit
def splice {α : Type} (cs : List α) (off : Nat) (ds : List α) : List α := cs.take off ++ ds ++ cs.drop (off + ds.length)
theorem splice_rep {K : Nat → Prop} {w : World} {cs ds : List DV} {us vs : List Value} (off : Nat) (h : repL K w cs us) (k : repL K w ds vs) : repL K w (splice cs off ds) (splice us off vs) := by
  unfold splice
  rw [show vs.length = ds.length from repL_length k]
  exact repL_append (repL_append (repL_take off h) k) (repL_drop _ h)
theorem splice_mem {us vs : List Value} {off : Nat} {p : Value → Prop} (h : ∀ u ∈ us, p u) (k : ∀ u ∈ vs, p u) : ∀ u ∈ splice us off vs, p u := by
  intro u hu
  unfold splice at hu
  simp only [List.mem_append] at hu
  rcases hu with (hu | hu) | hu
  · exact h u (List.mem_of_mem_take hu)
  · exact k u hu
  · exact h u (List.mem_of_mem_drop hu)
theorem splice_length {α : Type} {cs ds : List α} {off : Nat} (h : off + ds.length ≤ cs.length) : (splice cs off ds).length = cs.length := by
  unfold splice; simp; omega
theorem heap_row_turn {w : World} {b : Nat} {us : List Value} {T : TypeId} {off : Nat} {vs : List Value} {P : Program} (hg : w.heap[b]? = some (.cells us.toArray T (0, 0))) (hl : off + vs.length ≤ us.length) (h1 : ∀ v ∈ vs, v.oneCell' = true) :
    (storeCells ⟨b, off, none⟩ vs).run P w = .ok () (w.setRow b (splice us off vs).toArray) ∧ (w.setRow b (splice us off vs).toArray).heap[b]? = some (.cells (splice us off vs).toArray T (0, 0)) ∧ w.grownBy (w.setRow b (splice us off vs).toArray) (some b) ∧ bsz (w.setRow b (splice us off vs).toArray) b = bsz w b := by
  have h2 := run_storeCells_at P b off T vs 0 us.toArray w hg (by simpa using hl) h1
  simp only [Nat.add_zero] at h2
  have h3 := setRow_heap w b _ (splice us off vs).toArray T (0, 0) hg
  refine ⟨h2, h3, ⟨rfl, rfl, rfl, by simp [World.setRow], fun k hk hne => setRow_other _ _ _ _ (fun e => hne (by rw [e]))⟩, ?_⟩
  unfold bsz
  rw [h3, hg]
  simp [splice_length hl]
section
variable {P : Program} {C : Cx} {L : Lo} {Γ : Ga} {d : Nat} {ty : TypeId} {pos : String} {af : Array Edge} {gd : Option (Nat × Bool)}
/-- An operation that gives a value and turns memory. -/
theorem OT.turns {d : Option Nat} {L' : Lo} {Γ' : Ga} {p : Op}
    (h : ∀ ρ a w, RepsAt C ρ L Γ a w → ∃ u w', (execOp a.eval ⟨d, p, ty, pos, af, gd⟩).run P w = .ok (.value u) w' ∧ Reps C L' Γ' (a.put d u) w') : OT P C ⟨d, p, ty, pos, af, gd⟩ L Γ L' Γ' := by
  rintro a w ⟨ρ, hr⟩
  obtain ⟨u, w', h1, h2⟩ := h ρ a w hr
  unfold Oper.wp
  rw [h1, Oper.upon_value]
  exact h2
theorem splice_take {α : Type} {us vs : List α} {off n : Nat} (h : off + vs.length ≤ n) (hn : n ≤ us.length) : (splice us off vs).take n = splice (us.take n) off vs := by
  unfold splice
  have h1 : (us.take off).length = off := by simp; omega
  rw [List.append_assoc, List.append_assoc, List.take_append, List.take_of_length_le (by omega), h1, List.take_append, List.take_of_length_le (by omega : vs.length ≤ n - off), List.take_take, Nat.min_eq_left (by omega : off ≤ n), List.drop_take]
  congr 3
  omega
/-- The same block with other cells. -/
def AO.re (cs : List DV) : AO → AO
  | .box T _ => .box T cs
  | .row T sz _ => .row T sz cs
  | .mbox k T _ => .mbox k T cs
  | .mrow k T sz _ => .mrow k T sz cs
  | .nrow u n T sz _ => .nrow u n T sz cs
  | .obj b x => .obj b x
  | .dead => .dead
theorem AO.re_key (o : AO) (cs : List DV) : (o.re cs).key = o.key := by cases o <;> rfl
theorem AO.re_dead (o : AO) (cs : List DV) (h : o ≠ .dead) : o.re cs ≠ .dead := by cases o <;> simp [AO.re] <;> exact h rfl
/-- The values of a block, those that are known and the others behind. -/
theorem AO.vals {K : Nat → Prop} {w : World} {o : AO} {cs : List DV} {b : Nat} (ho : o.cells = some cs) (h : o.rep K w (some b)) : ∃ (us : List Value) (T : TypeId), w.heap[b]? = some (.cells us.toArray T (0, 0)) ∧ cs.length ≤ us.length ∧ repL K w cs (us.take cs.length) ∧ (∀ u ∈ us.take cs.length, u.oneCell' = true) ∧
    ∀ (K' : Nat → Prop) (w' : World) (us' : List Value) (cs' : List DV), w'.heap[b]? = some (.cells us'.toArray T (0, 0)) → us'.length = us.length → cs'.length = cs.length → repL K' w' cs' (us'.take cs.length) → (∀ u ∈ us'.take cs.length, u.oneCell' = true) → (o.re cs').rep K' w' (some b) := by
  have bx : ∀ T cs', (AO.box T cs').rep K w (some b) → cs' = cs → ∃ (us : List Value) (T' : TypeId), w.heap[b]? = some (.cells us.toArray T' (0, 0)) ∧ cs.length ≤ us.length ∧ repL K w cs (us.take cs.length) ∧ (∀ u ∈ us.take cs.length, u.oneCell' = true) ∧
      ∀ (K' : Nat → Prop) (w' : World) (us' : List Value) (ds : List DV), w'.heap[b]? = some (.cells us'.toArray T' (0, 0)) → us'.length = us.length → ds.length = cs.length → repL K' w' ds (us'.take cs.length) → (∀ u ∈ us'.take cs.length, u.oneCell' = true) → (AO.box T ds).rep K' w' (some b) := fun T cs' h e => by
    subst e
    obtain ⟨b', us, e, h1, h2, h3⟩ := h
    cases e
    have hl := repL_length h2
    refine ⟨us, T, h1, by omega, by rw [← hl, List.take_length]; exact h2, by rw [← hl, List.take_length]; exact h3, fun K' w' us' ds q1 q2 q3 q4 q5 => ?_⟩
    rw [← hl, ← q2, List.take_length] at q4 q5
    exact ⟨b, us', rfl, q1, q4, q5⟩
  have rw' : ∀ T sz cs', (AO.row T sz cs').rep K w (some b) → cs' = cs → ∃ (us : List Value) (T' : TypeId), w.heap[b]? = some (.cells us.toArray T' (0, 0)) ∧ cs.length ≤ us.length ∧ repL K w cs (us.take cs.length) ∧ (∀ u ∈ us.take cs.length, u.oneCell' = true) ∧
      ∀ (K' : Nat → Prop) (w' : World) (us' : List Value) (ds : List DV), w'.heap[b]? = some (.cells us'.toArray T' (0, 0)) → us'.length = us.length → ds.length = cs.length → repL K' w' ds (us'.take cs.length) → (∀ u ∈ us'.take cs.length, u.oneCell' = true) → (AO.row T sz ds).rep K' w' (some b) := fun T sz cs' h e => by
    subst e
    rcases h with ⟨h, _⟩ | ⟨b', us, cap, e, h1, h2, h3, h4, h5, h6⟩
    · cases h
    · cases e
      exact ⟨us, T, h1, h4, h5, h6, fun K' w' us' ds q1 q2 q3 q4 q5 => .inr ⟨b, us', cap, rfl, q1, by omega, h3, by omega, by rw [q3]; exact q4, by rw [q3]; exact q5⟩⟩
  cases o with
  | dead => simp [AO.cells] at ho
  | box T cs' => exact bx T cs' h (by simpa [AO.cells] using ho)
  | row T sz cs' => exact rw' T sz cs' h (by simpa [AO.cells] using ho)
  | mbox _ T cs' => exact bx T cs' h (by simpa [AO.cells] using ho)
  | mrow _ T sz cs' => exact rw' T sz cs' h (by simpa [AO.cells] using ho)
  | obj _ _ => simp [AO.cells] at ho
  | nrow u n T sz cs' =>
    have e : cs' = cs := by simpa [AO.cells] using ho
    subst e
    rcases h with ⟨h, _⟩ | ⟨b', us, c, e, h0, h00, h1, h2, h3, h4, h5, h6⟩
    · cases h
    · cases e
      exact ⟨us, T, h1, h4, h5, h6, fun K' w' us' ds q1 q2 q3 q4 q5 => .inr ⟨b, us', c, rfl, h0, h00, q1, by omega, h3, by omega, by rw [q3]; exact q4, by rw [q3]; exact q5⟩⟩
/-- A store into a block of one's own, or of one that is lent. -/
theorem OT.storeg {t g off : Nat} {x y : Operand} {o : AO} {cs : List DV} {X : DV} (hx : ev L x = some (.ptr g off)) (hg : Γ g = some o) (ho : o.cells = some cs) (hy : evd L y = some X) (ht : szt P t = some X.cells.length) (h1 : X.cells.all DV.one = true) (hle : off + X.cells.length ≤ cs.length) :
    OT P C ⟨none, .store t x y, ty, pos, af, gd⟩ L Γ L (upd Γ g (o.re (splice cs off X.cells))) := by
  rintro a w ⟨ρ, h⟩
  have hd : o ≠ .dead := by rintro rfl; simp [AO.cells] at ho
  obtain ⟨ob, hb, hr⟩ := h.obj g _ hg hd
  obtain ⟨b, e, hv⟩ := ev_rep h hx _ hb
  cases e
  obtain ⟨us, T, k1, k0, k2, k3, back⟩ := AO.vals ho hr
  obtain ⟨c1, c2⟩ := cells_rep (evd_rep h hy) h1
  have hlen : (a.eval y).cells.toList.length = X.cells.length := repL_length c1
  obtain ⟨s1, s2, s3, s4⟩ := heap_row_turn (P := P) k1 (off := off) (vs := (a.eval y).cells.toList) (by omega) c2
  unfold Oper.wp
  have hrun : (execOp a.eval ⟨none, .store t x y, ty, pos, af, gd⟩).run P w = .ok .skip (w.setRow b (splice us off (a.eval y).cells.toList).toArray) := by
    have hsz : (a.eval y).cells.size = X.cells.length := by rw [← hlen]; simp
    simp [execOp, hv, Instr.storeAt, Instr.sureAddr, storeVar, szt_run ht, hsz, s1]
  rw [hrun, Oper.upon_skip]
  have hk : Keeps (KK C.K0 ρ Γ) (KK C.K0 ρ Γ) w (w.setRow b (splice us off (a.eval y).cells.toList).toArray) := fun b' hb' hn => ⟨s3.block b' hb' (fun e => hn (.inr ⟨g, ⟨_, hg, hd⟩, by rw [hb]; cases e; rfl⟩)), Nat.lt_of_lt_of_le hb' s3.size, hn⟩
  refine ⟨ρ, h.turn ⟨_, hg, hd⟩ hb s3 s4 (AO.re_dead _ _ hd) (fun o' ho' => by rw [hg] at ho'; cases ho'; exact (AO.re_key _ _).symm) (back _ _ _ _ s2 (splice_length (by omega)) (splice_length hle) ?_ ?_)⟩
  · rw [splice_take (by omega) k0]
    exact splice_rep off (repL_mono hk _ _ k2) (repL_mono hk _ _ c1)
  · rw [splice_take (by omega) k0]
    exact splice_mem k3 c2
theorem OT.store {t g off : Nat} {x y : Operand} {T : TypeId} {cs : List DV} {X : DV} (hx : ev L x = some (.ptr g off)) (hg : Γ g = some (.box T cs)) (hy : evd L y = some X) (ht : szt P t = some X.cells.length) (h1 : X.cells.all DV.one = true) (hl : Nat.ble (off + X.cells.length) cs.length = true) :
    OT P C ⟨none, .store t x y, ty, pos, af, gd⟩ L Γ L (upd Γ g (.box T (splice cs off X.cells))) := OT.storeg hx hg rfl hy ht h1 (by simpa using hl)
theorem splice_app {α : Type} (a b d : List α) (k : Nat) : splice (a ++ b) (a.length + k) d = a ++ splice b k d := by
  unfold splice
  rw [List.take_append, List.take_of_length_le (by omega), show a.length + k - a.length = k by omega, List.drop_append, List.drop_of_length_le (by omega), List.nil_append, show a.length + k + d.length - a.length = k + d.length by omega]
  simp
theorem flat_set {α : Type} {enc : α → List DV} {sz : Nat} (h : ∀ x, (enc x).length = sz) : ∀ (xs : List α) (i : Nat) (v : α), i < xs.length → splice (xs.flatMap enc) (i * sz) (enc v) = (xs.set i v).flatMap enc
  | x :: r, 0, v, _ => by
    unfold splice
    rw [List.flatMap_cons, List.set_cons_zero, List.flatMap_cons, Nat.zero_mul, List.take_zero, List.nil_append, Nat.zero_add, h v, ← h x, List.drop_left]
  | x :: r, i + 1, v, hi => by
    have ih := flat_set h r i v (by simpa using hi)
    rw [List.set_cons_succ, List.flatMap_cons, List.flatMap_cons, ← ih, Nat.succ_mul, show i * sz + sz = (enc x).length + i * sz by rw [h x, Nat.add_comm], splice_app]
/-- A store into an item of a row. -/
theorem OT.storer {α : Type} {enc : α → List DV} {sz i : Nat} {xs : List α} {t g off : Nat} {x y : Operand} {T : TypeId} {cs : List DV} {X : DV} (v : α) (hx : ev L x = some (.ptr g off)) (hoff : off = i * sz) (hg : Γ g = some (.row T sz cs)) (hcs : cs = xs.flatMap enc) (hy : evd L y = some X) (hX : X.cells = enc v) (he : ∀ z, (enc z).length = sz) (ht : szt P t = some sz) (h1 : (enc v).all DV.one = true) (hi : i < xs.length) :
    OT P C ⟨none, .store t x y, ty, pos, af, gd⟩ L Γ L (upd Γ g (.row T sz ((xs.set i v).flatMap enc))) := by
  subst hcs; subst hoff
  have hb : i * sz + sz ≤ xs.length * sz := by rw [← Nat.succ_mul]; exact Nat.mul_le_mul_right _ hi
  have := OT.storeg (P := P) (C := C) (ty := ty) (pos := pos) (af := af) (gd := gd) hx hg rfl hy (by rw [hX, he]; exact ht) (by rw [hX]; exact h1) (by rw [hX, he, flat_length he]; exact hb)
  rw [hX, flat_set he xs i v hi] at this
  exact this
theorem OT.storerm {α : Type} {enc : α → List DV} {sz i k : Nat} {xs : List α} {t g off : Nat} {x y : Operand} {T : TypeId} {cs : List DV} {X : DV} (v : α) (hx : ev L x = some (.ptr g off)) (hoff : off = i * sz) (hg : Γ g = some (.mrow k T sz cs)) (hcs : cs = xs.flatMap enc) (hy : evd L y = some X) (hX : X.cells = enc v) (he : ∀ z, (enc z).length = sz) (ht : szt P t = some sz) (h1 : (enc v).all DV.one = true) (hi : i < xs.length) :
    OT P C ⟨none, .store t x y, ty, pos, af, gd⟩ L Γ L (upd Γ g (.mrow k T sz ((xs.set i v).flatMap enc))) := by
  subst hcs; subst hoff
  have hb : i * sz + sz ≤ xs.length * sz := by rw [← Nat.succ_mul]; exact Nat.mul_le_mul_right _ hi
  have := OT.storeg (P := P) (C := C) (ty := ty) (pos := pos) (af := af) (gd := gd) hx hg rfl hy (by rw [hX, he]; exact ht) (by rw [hX]; exact h1) (by rw [hX, he, flat_length he]; exact hb)
  rw [hX, flat_set he xs i v hi] at this
  exact this
theorem run_newVar {t : TypeId} (v : Value) (w : World) : (newVar t v).run P w = .ok ⟨w.heap.size, 0, none⟩ (w.alloc (.cells v.cells t)) := by
  simp [newVar, newRow]
theorem OT.alloc {t : TypeId} {zs : List Value} (g : Nat) (hn : Nat.blt d C.n = true) (hg : Γ g = none) (hz : zc P t = some zs) (h1 : zs.all Value.oneCell' = true) :
    OT P C ⟨some d, .alloc t, ty, pos, af, gd⟩ L Γ (upd L d (.ptr g 0)) (upd Γ g (.box t (zs.map .v))) :=
  OT.turns fun ρ a w h => by
    obtain ⟨z, hz1, rfl⟩ := zc_run hz w
    refine ⟨.pointer (some ⟨w.heap.size, 0, none⟩), w.alloc (.cells z.cells t), by simp [execOp, Instr.alloc, hz1, run_newVar], ?_⟩
    obtain ⟨ρ', hr, hρ, _⟩ := h.fresh (g := g) (b := w.heap.size) (o' := .box t (z.cells.toList.map .v)) hg (grown_alloc w (.cells z.cells t)) ⟨Nat.le_refl _, by simp⟩ (by simp) rfl
      (fun K hK _ => ⟨w.heap.size, z.cells.toList, rfl, by rw [Array.toArray_toList]; exact heap_alloc_new _ _, repL_v _, List.all_eq_true.1 h1⟩)
    refine ⟨ρ', hr.put (by simpa using hn) (fun ob hob => ?_) (fun g' hg' => ?_)⟩
    · rw [hρ] at hob; cases hob; exact ⟨_, rfl, rfl⟩
    · cases hg'; rw [upd_same]; simp
theorem OT.box {t : TypeId} {x : Operand} {X : DV} (g : Nat) (hn : Nat.blt d C.n = true) (hg : Γ g = none) (hx : evd L x = some X) (h1 : X.cells.all DV.one = true) :
    OT P C ⟨some d, .box t x, ty, pos, af, gd⟩ L Γ (upd L d (.ptr g 0)) (upd Γ g (.box t X.cells)) :=
  OT.turns fun ρ a w h => by
    obtain ⟨c1, c2⟩ := cells_rep (evd_rep h hx) h1
    refine ⟨.pointer (some ⟨w.heap.size, 0, none⟩), w.alloc (.cells (a.eval x).cells t), by simp [execOp, Instr.box, run_newVar], ?_⟩
    obtain ⟨ρ', hr, hρ, _⟩ := h.fresh (g := g) (b := w.heap.size) (o' := .box t X.cells) hg (grown_alloc w (.cells (a.eval x).cells t)) ⟨Nat.le_refl _, by simp⟩ (by simp) rfl
      (fun K hK _ => ⟨w.heap.size, (a.eval x).cells.toList, rfl, by rw [Array.toArray_toList]; exact heap_alloc_new _ _, repL_mono hK _ _ c1, c2⟩)
    refine ⟨ρ', hr.put (by simpa using hn) (fun ob hob => ?_) (fun g' hg' => ?_)⟩
    · rw [hρ] at hob; cases hob; exact ⟨_, rfl, rfl⟩
    · cases hg'; rw [upd_same]; simp
end
theorem fold_splice (off : Nat) : ∀ (l : List Value) (k : Nat) (arr : Array Value), off + k + l.length ≤ arr.size →
    ((l.zipIdx k).foldl (fun cs (x : Value × Nat) => cs.setIfInBounds (off + x.2) x.1) arr).toList = splice arr.toList (off + k) l
  | [], k, arr, h => by simp [splice]
  | v :: r, k, arr, h => by
    simp only [List.length_cons] at h
    rw [List.zipIdx_cons, List.foldl_cons, fold_splice off r (k + 1) _ (by simp; omega)]
    unfold splice
    rw [Array.toList_setIfInBounds]
    apply List.ext_getElem?
    intro j
    simp only [List.getElem?_append, List.length_append, List.length_take, List.length_set, Array.length_toList, List.length_cons, List.getElem?_take, List.getElem?_drop, List.getElem?_set]
    have h1 : min (off + (k + 1)) arr.size = off + k + 1 := by omega
    have h2 : min (off + k) arr.size = off + k := by omega
    rw [h1, h2]
    by_cases a1 : j < off + k
    · rw [if_pos (by omega), if_pos (by omega), if_pos (by omega), if_neg (by omega), if_pos (by omega), if_pos (by omega), if_pos a1]
    · by_cases a2 : j = off + k
      · subst a2
        rw [if_pos (by omega), if_pos (by omega), if_pos (by omega), if_pos rfl, if_pos (by omega), if_pos (by omega), if_neg (by omega)]
        simp
      · by_cases a3 : j < off + k + 1 + r.length
        · rw [if_pos (by omega), if_neg (by omega), if_pos (by omega), if_neg (by omega)]
          rw [show j - (off + k) = (j - (off + k + 1)) + 1 by omega, List.getElem?_cons_succ]
        · rw [if_neg (by omega), if_neg (by omega), if_neg (by omega)]
          rw [show off + (k + 1) + r.length + (j - (off + k + 1 + r.length)) = off + k + (r.length + 1) + (j - (off + k + (r.length + 1))) by omega]
def bldD (pl : List (Nat × Nat)) : List DV → List (Nat × DV) → Option (List DV)
  | cs, [] => some cs
  | cs, (i, X) :: r => match pl[i]? with
    | none => none
    | some (off, size) => bif Nat.beq X.cells.length size && Nat.ble (off + size) cs.length && X.cells.all DV.one then bldD pl (splice cs off X.cells) r else none
def repP (K : Nat → Prop) (w : World) : List (Nat × DV) → List (Nat × Value) → Prop
  | [], us => us = []
  | (i, X) :: r, us => ∃ u t, us = (i, u) :: t ∧ X.rep K w u ∧ repP K w r t
theorem fill_bld {K : Nat → Prop} {w : World} {pl : List (Nat × Nat)} {place : Nat → Option (Nat × Nat)} (hp : ∀ i x, pl[i]? = some x → place i = some x) : ∀ (parts : List (Nat × DV)) (us : List (Nat × Value)) (cs ds : List DV) (arr : Array Value),
    repP K w parts us → repL K w cs arr.toList → (∀ u ∈ arr.toList, u.oneCell' = true) → bldD pl cs parts = some ds → ∃ r, Instr.fill place arr us = some r ∧ repL K w ds r.toList ∧ ∀ u ∈ r.toList, u.oneCell' = true
  | [], us, cs, ds, arr, h, hc, h1, hb => by
    unfold repP at h; subst h
    simp only [bldD, Option.some.injEq] at hb; subst hb
    exact ⟨arr, rfl, hc, h1⟩
  | (i, X) :: r, us, cs, ds, arr, h, hc, h1, hb => by
    unfold repP at h
    obtain ⟨u, t, rfl, hX, ht⟩ := h
    unfold bldD at hb
    cases hpl : pl[i]? with
    | none => simp [hpl] at hb
    | some x =>
      obtain ⟨off, size⟩ := x
      simp only [hpl] at hb
      cases hcond : (Nat.beq X.cells.length size && Nat.ble (off + size) cs.length && X.cells.all DV.one) with
      | false => rw [hcond] at hb; simp at hb
      | true =>
        rw [hcond, cond_true] at hb
        simp only [Bool.and_eq_true, Nat.beq_eq, Nat.ble_eq] at hcond
        obtain ⟨⟨q1, q2⟩, q3⟩ := hcond
        obtain ⟨c1, c2⟩ := cells_rep hX q3
        have hlen : u.cells.toList.length = X.cells.length := repL_length c1
        have hal : arr.toList.length = cs.length := repL_length hc
        have hsz : u.cells.size = size := by rw [← q1, ← hlen]; simp
        have hfs := fold_splice off u.cells.toList 0 arr (by simp only [Array.length_toList] at hlen hal ⊢; omega)
        rw [Nat.add_zero] at hfs
        have hz : (Array.foldl (fun cs (x : Value × Nat) => cs.setIfInBounds (off + x.2) x.1) arr u.cells.zipIdx) = (splice arr.toList off u.cells.toList).toArray := by
          apply Array.ext'
          rw [← Array.foldl_toList, Array.toList_zipIdx, List.toList_toArray]
          exact hfs
        obtain ⟨rr, k1, k2, k3⟩ := fill_bld hp r t (splice cs off X.cells) ds (splice arr.toList off u.cells.toList).toArray ht (by rw [List.toList_toArray]; exact splice_rep off hc c1) (by rw [List.toList_toArray]; exact splice_mem h1 c2) hb
        refine ⟨rr, ?_, k2, k3⟩
        rw [← k1, ← hz]
        show (match place i with
          | none => none
          | some (off, size) => if u.cells.size ≠ size || off + u.cells.size > arr.size then none else Instr.fill place (u.cells.zipIdx.foldl (fun cs (c, j) => cs.setIfInBounds (off + j) c) arr) t) = _
        rw [hp i _ hpl]
        have hcnd : (decide (u.cells.size ≠ size) || decide (off + u.cells.size > arr.size)) = false := by
          have : arr.size = cs.length := by rw [← hal]; simp
          simp [hsz]; omega
        simp only [hcnd, Bool.false_eq_true, if_false]
/-- A struct's or an array's zero cells, and where its parts lie. -/
def stp (P : Program) (t : TypeId) : Option (List Value × List (Nat × Nat)) :=
  match P.info? t with
  | none => none
  | some it => match it.zero, P.underlying t with
    | some z, some (.array n e) => (P.info? e).map fun ie => (z.cells.toList, (List.range n).map fun i => (i * ie.size, ie.size))
    | some z, some (.struct fs) => (fs.toList.mapM (fun f => (P.info? f.type).map fun i => (f.offset, i.size))).map fun pl => (z.cells.toList, pl)
    | _, _ => none
theorem built_rep {P : Program} {K : Nat → Prop} {w : World} {t : TypeId} {zs : List Value} {pl : List (Nat × Nat)} (h : stp P t = some (zs, pl)) (h1 : zs.all Value.oneCell' = true) {parts : List (Nat × DV)} {us : List (Nat × Value)} {ds : List DV} (hr : repP K w parts us)
    (hb : bldD pl (zs.map .v) parts = some ds) : ∃ r, P.built t us = some r ∧ repL K w ds r.toList := by
  unfold stp at h
  cases hi : P.info? t with
  | none => simp [hi] at h
  | some it =>
    cases hz : it.zero with
    | none => cases hu : P.underlying t with
      | none => simp [hi, hz, hu] at h
      | some d => cases d <;> simp [hi, hz, hu] at h
    | some z =>
      cases hu : P.underlying t with
      | none => simp [hi, hz, hu] at h
      | some d =>
        cases d <;> try (simp [hi, hz, hu] at h; done)
        case array n e =>
          cases he : P.info? e with
          | none => simp [hi, hz, hu, he] at h
          | some ie =>
            simp only [hi, hz, hu, he, Option.map_some, Option.some.injEq, Prod.mk.injEq] at h
            obtain ⟨rfl, rfl⟩ := h
            obtain ⟨r, k1, k2, _⟩ := fill_bld (K := K) (w := w) (place := fun i => some (i * ie.size, ie.size)) (by
              intro i x hx
              rw [List.getElem?_map] at hx
              cases hq : (List.range n)[i]? with
              | none => simp [hq] at hx
              | some j =>
                rw [hq] at hx; simp at hx
                have : j = i := by have := List.getElem?_range (show i < n from by have := (List.getElem?_eq_some_iff.1 hq).1; simpa using this); rw [hq] at this; injection this
                subst this; rw [← hx]) parts us _ ds z.cells hr (repL_v _) (List.all_eq_true.1 h1) hb
            exact ⟨r, by simp only [Program.built, hi, hu, hz, he, k1], k2⟩
        case struct fs =>
          cases hm : fs.toList.mapM (fun f => (P.info? f.type).map fun i => (f.offset, i.size)) with
          | none => simp [hi, hz, hu, hm] at h
          | some pls =>
            simp only [hi, hz, hu, hm, Option.map_some, Option.some.injEq, Prod.mk.injEq] at h
            obtain ⟨rfl, rfl⟩ := h
            obtain ⟨r, k1, k2, _⟩ := fill_bld (K := K) (w := w) (place := fun i => pls.toArray[i]?) (by intro i x hx; simpa using hx) parts us _ ds z.cells hr (repL_v _) (List.all_eq_true.1 h1) hb
            exact ⟨r, by simp only [Program.built, hi, hu, hz, hm]; exact k1, k2⟩
def evP (L : Lo) : List (Nat × Operand) → Option (List (Nat × DV))
  | [] => some []
  | (i, x) :: r => match evd L x, evP L r with
    | some X, some l => some ((i, X) :: l)
    | _, _ => none
section
variable {P : Program} {C : Cx} {L : Lo} {Γ : Ga} {d : Nat} {ty : TypeId} {pos : String} {af : Array Edge} {gd : Option (Nat × Bool)}
theorem evP_rep {ρ : Rho} {a : Act} {w : World} (h : RepsAt C ρ L Γ a w) : ∀ {ps : List (Nat × Operand)} {Xs : List (Nat × DV)}, evP L ps = some Xs → repP (KK C.K0 ρ Γ) w Xs (ps.map fun (i, x) => (i, a.eval x))
  | [], Xs, hx => by simp only [evP, Option.some.injEq] at hx; subst hx; simp [repP]
  | (i, x) :: r, Xs, hx => by
    unfold evP at hx
    cases h1 : evd L x with
    | none => simp [h1] at hx
    | some X =>
      cases h2 : evP L r with
      | none => simp [h1, h2] at hx
      | some l =>
        simp only [h1, h2, Option.some.injEq] at hx
        subst hx
        unfold repP
        exact ⟨_, _, rfl, evd_rep h h1, evP_rep h h2⟩
theorem OT.build {t : TypeId} {ps : List (Nat × Operand)} {Xs : List (Nat × DV)} {zs : List Value} {pl : List (Nat × Nat)} {ds : List DV} (hn : Nat.blt d C.n = true) (hx : evP L ps = some Xs) (hs : stp P t = some (zs, pl)) (h1 : zs.all Value.oneCell' = true) (hb : bldD pl (zs.map .v) Xs = some ds) :
    OT P C ⟨some d, .build t ps.toArray, ty, pos, af, gd⟩ L Γ (upd L d (.d (.ag ds))) Γ :=
  OT.value hn (fun g hg => by simp [AV.id] at hg) fun ρ a w h => by
    obtain ⟨r, k1, k2⟩ := built_rep hs h1 (evP_rep h hx) hb
    refine ⟨.agg r, ?_, ?_⟩
    · have := run_build (P := P) w t (ps.toArray.map fun (i, x) => (i, a.eval x)) r (by simpa using k1)
      simp only [execOp, Sem.run_bind, this, Result.andThen_ok, Sem.run_pure]
    · show DV.rep _ _ _ _
      unfold DV.rep
      exact ⟨r.toList, by simp, k2⟩
end
end Go.Proofs.YtdjcclcejmeheaaGreat.Pl
end
section
namespace Go.Proofs.YtdjcclcejmeheaaGreat.Pl
set_option linter.unusedVariables false
set_option linter.unusedSimpArgs false
open Go.RowKit
/-- What a slot reads as, blocks of one's own among it. -/
def rdv (Γ : Ga) : AV → Option DV
  | .d X => some X
  | .f X => some X
  | .bs g off n sz => match (Γ g).bind AO.cells with
    | some cs => bif Nat.ble (off + n * sz) cs.length then some (.sl sz n ((cs.drop off).take (n * sz))) else none
    | none => none
  | .ow g n sz => match (Γ g).bind AO.cells with
    | some cs => some (.sl sz n cs)
    | none => none
  | .ptr g off => match (Γ g).bind AO.cells with
    | some cs => some (.el (cs.drop off))
    | none => none
def noK : Nat → Prop := fun _ => False
theorem rep_noK {K : Nat → Prop} {w : World} {X : DV} {u : Value} (h : X.rep K w u) : X.rep noK w u := DV.rep_mono (fun b hb _ => ⟨rfl, hb, fun x => x⟩) X u h
theorem at_noK {K : Nat → Prop} {w : World} {cs : List DV} {b o : Nat} (hb : b < w.heap.size) (h : repAt K w cs b o) : repAt noK w cs b o := by
  obtain ⟨us, k1, k2, k3⟩ := repAt_vals h
  exact repAt_of_cells (repL_mono (fun b hb _ => ⟨rfl, hb, fun x => x⟩) _ _ k1) k2 k3
section
variable {P : Program} {C : Cx} {L : Lo} {Γ : Ga} {d : Nat} {ty : TypeId} {pos : String} {af : Array Edge} {gd : Option (Nat × Bool)}
theorem bind_cells {Γ : Ga} {g : Nat} {cs : List DV} (h : (Γ g).bind AO.cells = some cs) : ∃ o, Γ g = some o ∧ o.cells = some cs := by
  cases hg : Γ g with
  | none => simp [hg] at h
  | some o => exact ⟨o, rfl, by simpa [hg] using h⟩
theorem row_len {K : Nat → Prop} {w : World} {o : AO} {cs : List DV} {b : Nat} (ho : o.cells = some cs) (h : o.rep K w (some b)) : cs.length ≤ bsz w b := by
  cases o with
  | dead => simp [AO.cells] at ho
  | box T cs' =>
    simp only [AO.cells, Option.some.injEq] at ho; subst ho
    obtain ⟨b', us, e, h1, h2, h3⟩ := h
    cases e
    unfold bsz; rw [h1]; simp [repL_length h2]
  | row T sz cs' =>
    simp only [AO.cells, Option.some.injEq] at ho; subst ho
    rcases h with ⟨e, _⟩ | ⟨b', us, cap, e, h1, h2, h3, h4, h5, h6⟩
    · cases e
    · cases e; unfold bsz; rw [h1]; simpa using h4
  | mbox _ T cs' =>
    simp only [AO.cells, Option.some.injEq] at ho; subst ho
    obtain ⟨b', us, e, h1, h2, h3⟩ := h
    cases e
    unfold bsz; rw [h1]; simp [repL_length h2]
  | mrow _ T sz cs' =>
    simp only [AO.cells, Option.some.injEq] at ho; subst ho
    rcases h with ⟨e, _⟩ | ⟨b', us, cap, e, h1, h2, h3, h4, h5, h6⟩
    · cases e
    · cases e; unfold bsz; rw [h1]; simpa using h4
  | obj _ _ => simp [AO.cells] at ho
  | nrow u n T sz cs' =>
    simp only [AO.cells, Option.some.injEq] at ho; subst ho
    rcases nrow_row h with ⟨e, _⟩ | ⟨b', us, cap, e, h1, h2, h3, h4, h5, h6⟩
    · cases e
    · cases e; unfold bsz; rw [h1]; simpa using h4
theorem rdv_rep {ρ : Rho} {a : Act} {w : World} (h : RepsAt C ρ L Γ a w) {A : AV} {X : DV} {u : Value} (hA : A.rep ρ (KK C.K0 ρ Γ) C.w0.heap.size w u) (hx : rdv Γ A = some X)
    (hl : ∀ g n sz, A = .ow g n sz → ∀ sz' n' cs, X = .sl sz' n' cs → cs.length = n * sz) : X.rep noK w u := by
  cases A with
  | d Y => simp only [rdv, Option.some.injEq] at hx; subst hx; exact rep_noK hA
  | f Y => simp only [rdv, Option.some.injEq] at hx; subst hx; exact rep_noK hA
  | ptr g off =>
    simp only [rdv] at hx
    cases hc : (Γ g).bind AO.cells with
    | none => simp [hc] at hx
    | some cs =>
      simp only [hc, Option.some.injEq] at hx; subst hx
      obtain ⟨o, hg, ho⟩ := bind_cells hc
      obtain ⟨ob, h1⟩ := own_block h hg ho
      obtain ⟨b, rfl, rfl⟩ := hA ob h1
      have h2 := own_cells h hg ho h1
      have h3 := repAt_drop off h2
      rw [Nat.zero_add] at h3
      unfold DV.rep
      exact ⟨b, off, rfl, .inr ⟨h.lt g b h1, fun x => x⟩, at_noK (h.lt g b h1) h3⟩
  | bs g off n sz =>
    simp only [rdv] at hx
    cases hc : (Γ g).bind AO.cells with
    | none => simp [hc] at hx
    | some cs =>
      simp only [hc] at hx
      cases hle : Nat.ble (off + n * sz) cs.length with
      | false => simp [hle] at hx
      | true =>
        simp only [hle, cond_true, Option.some.injEq] at hx; subst hx
        have hle' : off + n * sz ≤ cs.length := by simpa using hle
        obtain ⟨o, hg, ho⟩ := bind_cells hc
        obtain ⟨ob, h1⟩ := own_block h hg ho
        obtain ⟨b, c, rfl, rfl, k2, k3, k4⟩ := hA ob h1
        have h2 := own_cells h hg ho h1
        have h3 := repAt_take (n * sz) (repAt_drop off h2)
        rw [Nat.zero_add] at h3
        unfold DV.rep
        exact .inr ⟨b, off, c, rfl, k2, k3, by simp; omega, .inr ⟨h.lt g b h1, fun x => x⟩, at_noK (h.lt g b h1) h3⟩
  | ow g n sz =>
    simp only [rdv] at hx
    cases hc : (Γ g).bind AO.cells with
    | none => simp [hc] at hx
    | some cs =>
      simp only [hc, Option.some.injEq] at hx; subst hx
      have hlen := hl g n sz rfl sz n cs rfl
      obtain ⟨o, hg, ho⟩ := bind_cells hc
      obtain ⟨ob, h1⟩ := own_block h hg ho
      rcases hA ob h1 with ⟨rfl, rfl, rfl⟩ | ⟨b, c, rfl, rfl, k2, k3, k4⟩
      · unfold DV.rep
        refine .inl ⟨rfl, rfl, ?_⟩
        exact List.eq_nil_of_length_eq_zero (by rw [hlen]; simp)
      · have h2 := own_cells h hg ho h1
        unfold DV.rep
        exact .inr ⟨b, 0, c, rfl, k2, k3, hlen, .inr ⟨h.lt g b h1, fun x => x⟩, at_noK (h.lt g b h1) h2⟩
/-- The length of what is read fits (for rows that grow: their cells are all that there are). -/
def okr (Γ : Ga) : AV → Prop
  | .ow g n sz => ∀ cs, (Γ g).bind AO.cells = some cs → cs.length = n * sz
  | _ => True
theorem evr_rep {ρ : Rho} {a : Act} {w : World} (h : RepsAt C ρ L Γ a w) {x : Operand} {A : AV} {X : DV} (hA : ev L x = some A) (hx : rdv Γ A = some X) (hl : okr Γ A) : X.rep noK w (a.eval x) :=
  rdv_rep h (ev_rep h hA) hx fun g n sz e sz' n' cs e' => by
    subst e
    simp only [rdv] at hx
    cases hc : (Γ g).bind AO.cells with
    | none => simp [hc] at hx
    | some cs' =>
      simp only [hc, Option.some.injEq] at hx
      rw [e'] at hx
      cases hx
      exact hl cs hc
def lenV (P : Program) (t : TypeId) : AV → Option Int
  | .d (.sl _ n _) => some n
  | .f (.sl _ n _) => some n
  | .bs _ _ n _ => some n
  | .ow _ n _ => some n
  | .d (.v (.string s)) => some s.size
  | .f (.v (.string s)) => some s.size
  | .d (.v (.slice none 0 0)) => some 0
  | .f (.v (.slice none 0 0)) => some 0
  | _ => none
def isSl (P : Program) (t : TypeId) : Option Bool := match P.underlying t with | some (.slice _) => some true | some .string => some false | _ => none
theorem len_sl {t : TypeId} {c n : Nat} {ad : Option Addr} {w : World} (h : isSl P t = some true) : (Builtin.len_ #[t] ty #[.slice ad n c]).run P w = .ok (.int .i64 n) w := by
  unfold isSl at h
  cases hu : P.underlying t with
  | none => simp [hu] at h
  | some d => cases d <;> simp [hu] at h; simp [Builtin.len_, run_underlying hu, goInt]
theorem len_str {t : TypeId} {s : ByteArray} {w : World} (h : isSl P t = some false) : (Builtin.len_ #[t] ty #[.string s]).run P w = .ok (.int .i64 s.size) w := by
  unfold isSl at h
  cases hu : P.underlying t with
  | none => simp [hu] at h
  | some d => cases d <;> simp [hu] at h; simp [Builtin.len_, run_underlying hu, goInt]
theorem OT.len {t : TypeId} {x : Operand} {A : AV} {n : Nat} (hn : Nat.blt d C.n = true) (hx : ev L x = some A) (hA : ∃ sz cs, A.dv = some (.sl sz n cs)) (ht : isSl P t = some true) :
    OT P C ⟨some d, .call { callee := .builtin .len, args := #[x], argTypes := #[t] }, ty, pos, af, gd⟩ L Γ (upd L d (.f (.v (.int .i64 n)))) Γ :=
  OT.value hn (fun g hg => by simp [AV.id] at hg) fun ρ a w h => by
    obtain ⟨sz, cs, hA⟩ := hA
    have h2 := dv_rep (ev_rep h hx) hA
    unfold DV.rep at h2
    have : ∃ ad c, a.eval x = .slice ad n c := by
      rcases h2 with ⟨h2, rfl, _⟩ | ⟨b, o, c, h2, _⟩
      · exact ⟨_, _, h2⟩
      · exact ⟨_, _, h2⟩
    obtain ⟨ad, c, he⟩ := this
    exact ⟨_, by simp [execOp, resolve, invoke, builtin, he, len_sl ht], rfl⟩
theorem OT.leno {t : TypeId} {x : Operand} {g n sz : Nat} {cs : List DV} (hn : Nat.blt d C.n = true) (hx : ev L x = some (.ow g n sz)) (hg : (Γ g).bind AO.cells = some cs) (ht : isSl P t = some true) :
    OT P C ⟨some d, .call { callee := .builtin .len, args := #[x], argTypes := #[t] }, ty, pos, af, gd⟩ L Γ (upd L d (.f (.v (.int .i64 n)))) Γ :=
  OT.value hn (fun g hg => by simp [AV.id] at hg) fun ρ a w h => by
    obtain ⟨o, hg, ho⟩ := bind_cells hg
    obtain ⟨ob, h1⟩ := own_block h hg ho
    have : ∃ ad c, a.eval x = .slice ad n c := by
      rcases ev_rep h hx ob h1 with ⟨_, h2, rfl⟩ | ⟨b, c, _, h2, _⟩
      · exact ⟨_, _, h2⟩
      · exact ⟨_, _, h2⟩
    obtain ⟨ad, c, he⟩ := this
    exact ⟨_, by simp [execOp, resolve, invoke, builtin, he, len_sl ht], rfl⟩
theorem OT.lens {t : TypeId} {x : Operand} {l : List UInt8} (hn : Nat.blt d C.n = true) (hx : evv L x = some (.string ⟨⟨l⟩⟩)) (ht : isSl P t = some false) :
    OT P C ⟨some d, .call { callee := .builtin .len, args := #[x], argTypes := #[t] }, ty, pos, af, gd⟩ L Γ (upd L d (.f (.v (.int .i64 l.length)))) Γ :=
  OT.value hn (fun g hg => by simp [AV.id] at hg) fun ρ a w h => ⟨_, by simp [execOp, resolve, invoke, builtin, evv_eval h hx, len_str ht]; rfl, rfl⟩
def bnd (L : Lo) (n : Nat) : Option Operand → Option Int
  | none => some n
  | some x => match evv L x with
    | some (.int _ i) => some i
    | _ => none
theorem bound_run {ρ : Rho} {a : Act} {w : World} (h : RepsAt C ρ L Γ a w) {x : Operand} {k : IntKind} {i : Int} (hx : evv L x = some (.int k i)) (y : Nat) (code : BoundsCode) (h0 : 0 ≤ i) (h1 : i ≤ y) : (Instr.sliceBound (a.eval x) y code).run P w = .ok i.toNat w := by
  have : 0 ≤ i ∧ i ≤ (y : Int) := ⟨h0, h1⟩
  simp [Instr.sliceBound, evv_eval h hx, asIntOf, this]
theorem bounds_run {ρ : Rho} {a : Act} {w : World} (h : RepsAt C ρ L Γ a w) {lo hi : Option Operand} {l r : Int} (isS : Bool) (n c : Nat) (hc : n ≤ c) (hl : bnd L 0 lo = some l) (hh : bnd L n hi = some r) (h0 : 0 ≤ l) (h1 : l ≤ r) (h2 : r ≤ n) :
    (Instr.sliceBounds isS n c (lo.map a.eval) (hi.map a.eval) none).run P w = .ok (l.toNat, r.toNat, c) w := by
  have hlo : lo = none ∧ l = 0 ∨ ∃ x k, lo = some x ∧ evv L x = some (.int k l) := by
    cases lo with
    | none => simp [bnd] at hl; exact .inl ⟨rfl, by omega⟩
    | some x =>
      simp only [bnd] at hl
      split at hl
      · rename_i k i hk; simp at hl; subst hl; exact .inr ⟨x, _, rfl, hk⟩
      · cases hl
  have hhi : hi = none ∧ r = n ∨ ∃ x k, hi = some x ∧ evv L x = some (.int k r) := by
    cases hi with
    | none => simp [bnd] at hh; exact .inl ⟨rfl, by omega⟩
    | some x =>
      simp only [bnd] at hh
      split at hh
      · rename_i k i hk; simp at hh; subst hh; exact .inr ⟨x, _, rfl, hk⟩
      · cases hh
  unfold Instr.sliceBounds
  rcases hhi with ⟨rfl, rfl⟩ | ⟨x, k, rfl, hx⟩ <;> rcases hlo with ⟨rfl, rfl⟩ | ⟨y, k', rfl, hy⟩
  · simp
  · simp [bound_run (P := P) h hy n _ h0 (by omega)]
  · simp [bound_run (P := P) h hx c _ (by omega) (by omega)]
  · simp [bound_run (P := P) h hx c _ (by omega) (by omega), bound_run (P := P) h hy r.toNat _ h0 (by omega)]
theorem OT.slice {α : Type} {enc : α → List DV} {sz : Nat} {xs : List α} {t e : TypeId} {x : Operand} {lo hi : Option Operand} {A : AV} {l r : Int} (hn : Nat.blt d C.n = true) (hx : ev L x = some A) (hA : A.dv = some (slT enc sz xs)) (hl : bnd L 0 lo = some l) (hh : bnd L xs.length hi = some r)
    (ht : elt P t = some (e, sz)) (he : ∀ z, (enc z).length = sz) (h0 : 0 ≤ l) (h1 : l ≤ r) (h2 : r ≤ xs.length) :
    OT P C ⟨some d, .slice t x lo hi none, ty, pos, af, gd⟩ L Γ (upd L d (A.re (slT enc sz ((xs.take r.toNat).drop l.toNat)))) Γ :=
  OT.value hn (fun g hg => absurd hg (AV.re_id A _ g)) fun ρ a w h => by
    have k1 := ev_rep h hx
    have k2 := dv_rep k1 hA
    obtain ⟨hu, j, hi', hj⟩ := elt_parts ht
    have hlen : ((xs.take r.toNat).drop l.toNat).length = r.toNat - l.toNat := by rw [List.length_drop, List.length_take]; omega
    have hcs : ((xs.take r.toNat).drop l.toNat).flatMap enc = ((xs.flatMap enc).take (r.toNat * sz)).drop (l.toNat * sz) := by rw [flat_take he, flat_drop he]
    unfold DV.rep at k2
    rcases k2 with ⟨hv, hz, hc⟩ | ⟨b, o, c, hv, hc, hm, hl', hb, hr⟩
    · have hxs : xs = [] := List.eq_nil_of_length_eq_zero hz
      subst hxs
      obtain rfl : l = 0 := by simp at h2; omega
      obtain rfl : r = 0 := by simp at h2; omega
      have hb := bounds_run (P := P) h true 0 0 (Nat.le_refl _) hl (by simpa using hh) h0 h1 (by simp)
      refine ⟨.slice none 0 0, ?_, AV.re_rep k1 hA fun J hJ => ?_⟩
      · simp [execOp, hv, Instr.sliceAt, Instr.slice, run_underlying hu, hb, sizeOf, typeInfo, hi']
      · unfold DV.rep; exact .inl ⟨rfl, by simp, by simp⟩
    · have hb' := bounds_run (P := P) h true xs.length c hc hl hh h0 h1 h2
      refine ⟨.slice (some (if c = l.toNat then ⟨b, o, none⟩ else ⟨b, o + l.toNat * sz, none⟩)) (r.toNat - l.toNat) (c - l.toNat), ?_, AV.re_rep k1 hA fun J hJ => ?_⟩
      · have : (if c = l.toNat then (some ⟨b, o, none⟩ : Option Addr) else some ⟨b, o + l.toNat * sz, none⟩) = some (if c = l.toNat then ⟨b, o, none⟩ else ⟨b, o + l.toNat * sz, none⟩) := by split <;> rfl
        simp [execOp, hv, Instr.sliceAt, Instr.slice, run_underlying hu, hb', sizeOf, typeInfo, hi', hj, addr_add, this]
      · unfold DV.rep at hJ ⊢
        rcases hJ with ⟨q, _⟩ | ⟨b', o', c', q, _, _, _, hb2, hr2⟩
        · rw [hv] at q; cases q
        · rw [hv] at q
          simp at q
          obtain ⟨⟨rfl, rfl⟩, rfl⟩ := q
          right
          have hat : repAt J w (((xs.take r.toNat).drop l.toNat).flatMap enc) b (o + l.toNat * sz) := by
            rw [hcs]; exact repAt_drop _ (repAt_take _ hr2)
          by_cases hcl : c = l.toNat
          · have hnil : ((xs.take r.toNat).drop l.toNat) = [] := List.eq_nil_of_length_eq_zero (by rw [hlen]; omega)
            refine ⟨b, o, c - l.toNat, by rw [if_pos hcl, hlen], by rw [hlen]; omega, by omega, by rw [hnil]; simp, .inl (by rw [hnil]; rfl), by rw [hnil]; simp [repAt]⟩
          · refine ⟨b, o + l.toNat * sz, c - l.toNat, by rw [if_neg hcl, hlen], by rw [hlen]; omega, by omega, flat_length he _, ?_, hat⟩
            rcases hb2 with hb2 | hb2
            · left; rw [hcs, hb2]; simp
            · exact .inr hb2
/-- A part of an array of one's own. -/
theorem OT.slicep {t n sz g off : Nat} {x : Operand} {lo hi : Option Operand} {o : AO} {cs : List DV} {l r : Int} (hn : Nat.blt d C.n = true) (hx : ev L x = some (.ptr g off)) (hg : Γ g = some o) (ho : o.cells = some cs) (ht : arr P t = some (n, sz)) (hl : bnd L 0 lo = some l) (hh : bnd L n hi = some r)
    (h0 : 0 ≤ l) (h1 : l ≤ r) (h2 : r ≤ n) (h3 : l < n) (hfit : off + n * sz ≤ cs.length) (hm : n ≤ 1048576) :
    OT P C ⟨some d, .slice t x lo hi none, ty, pos, af, gd⟩ L Γ (upd L d (.bs g (off + l.toNat * sz) (r.toNat - l.toNat) sz)) Γ :=
  OT.value hn (fun g' hg' ρ a w h => ev_ment h hx hg') fun ρ a w h => by
    obtain ⟨ob, h3'⟩ := own_block h hg ho
    obtain ⟨b, rfl, hv⟩ := ev_rep h hx ob h3'
    obtain ⟨e, j, hu, hi', hj⟩ := arr_parts ht
    have hb := bounds_run (P := P) h false n n (Nat.le_refl _) hl hh h0 h1 h2
    have hne : n ≠ l.toNat := by omega
    have hd : o ≠ .dead := by rintro rfl; simp [AO.cells] at ho
    obtain ⟨ob2, q1, q2⟩ := h.obj g o hg hd
    rw [h3'] at q1; cases q1
    have hrl := row_len ho q2
    refine ⟨.slice (some ⟨b, off + l.toNat * sz, none⟩) (r.toNat - l.toNat) (n - l.toNat), by simp [execOp, hv, Instr.sliceAt, Instr.sureAddr, run_underlying hu, hb, sizeOf, typeInfo, hi', hj, addr_add, hne], fun ob' h5 => ?_⟩
    rw [h3'] at h5; cases h5
    refine ⟨b, n - l.toNat, rfl, rfl, by omega, by unfold maxLen; omega, ?_⟩
    have : l.toNat * sz + (n - l.toNat) * sz = n * sz := by rw [← Nat.add_mul]; congr 1; omega
    omega
end
end Go.Proofs.YtdjcclcejmeheaaGreat.Pl
end
section
namespace Go.Proofs.YtdjcclcejmeheaaGreat.Pl
set_option linter.unusedVariables false
set_option linter.unusedSimpArgs false
open Go.RowKit
/-- What an append needs of its slice type: element, cells and bytes of one, its zero. -/
def apt (P : Program) (t : TypeId) : Option (TypeId × Nat × Nat) :=
  match P.underlying t with
  | some (.slice e) => match P.info? e with
    | some i => match i.zero with
      | some z => bif Nat.beq z.cells.size i.size && Nat.blt 0 i.size then some (e, i.size, i.bytes) else none
      | none => none
    | none => none
  | _ => none
theorem apt_parts {P : Program} {t e sz by_ : Nat} (h : apt P t = some (e, sz, by_)) : P.underlying t = some (.slice e) ∧ ∃ i z, P.info? e = some i ∧ i.zero = some z ∧ i.size = sz ∧ i.bytes = by_ ∧ z.cells.size = sz ∧ 0 < sz := by
  unfold apt at h
  cases hu : P.underlying t with
  | none => simp [hu] at h
  | some d =>
    cases d <;> simp [hu] at h
    rename_i e'
    cases hi : P.info? e' with
    | none => simp [hi] at h
    | some i =>
      cases hz : i.zero with
      | none => simp [hi, hz] at h
      | some z =>
        simp only [hi, hz] at h
        cases hc : (z.cells.size.beq i.size && Nat.blt 0 i.size) with
        | false => simp [hc] at h
        | true =>
          simp [hc] at h
          obtain ⟨rfl, rfl, rfl⟩ := h
          simp only [Bool.and_eq_true, Nat.beq_eq, Nat.blt_eq] at hc
          exact ⟨rfl, i, z, hi, hz, rfl, rfl, hc.1, hc.2⟩
section
variable {P : Program} {C : Cx} {L : Lo} {Γ : Ga} {d : Nat} {ty : TypeId} {pos : String} {af : Array Edge} {gd : Option (Nat × Bool)}
/-- What is to be appended: its cells as values. -/
theorem src_cells {K : Nat → Prop} {w : World} {m sz : Nat} {ds : List DV} {u : Value} (h : (DV.sl sz m ds).rep K w u) : (u = .slice none 0 0 ∧ m = 0 ∧ ds = []) ∨ ∃ b o c us, u = .slice (some ⟨b, o, none⟩) m c ∧ repL K w ds us ∧ us.length = m * sz ∧ (∀ j x, us[j]? = some x → w.cell? ((⟨b, o, none⟩ : Addr).add j) = some x) ∧ ∀ x ∈ us, x.oneCell' = true := by
  unfold DV.rep at h
  rcases h with h | ⟨b, o, c, hv, _, _, hl, _, hr⟩
  · exact .inl h
  · obtain ⟨us, k1, k2, k3⟩ := repAt_vals hr
    exact .inr ⟨b, o, c, us, hv, k1, by rw [repL_length k1, hl], fun j x hj => by rw [addr_add]; exact k2 j x hj, k3⟩
/-- What is read goes on being read under the blocks that a new world makes one's own. -/
theorem all_one_of {K : Nat → Prop} {w : World} : ∀ {cs : List DV} {us : List Value}, repL K w cs us → cs.all DV.one = true → ∀ x ∈ us, x.oneCell' = true
  | [], us, h, _ => by unfold repL at h; subst h; simp
  | X :: Xs, us, h, h1 => by
    unfold repL at h
    obtain ⟨u, t, rfl, h3, h4⟩ := h
    simp only [List.all_cons, Bool.and_eq_true] at h1
    intro x hx
    rcases List.mem_cons.1 hx with rfl | hx
    · exact one_rep h1.1 h3
    · exact all_one_of h4 h1.2 x hx
/-- An owned row as the library's laws name it. -/
theorem row_owns {K : Nat → Prop} {w : World} {B e sz n : Nat} {cs : List DV} {ob : Option Nat} {u : Value} (h : (AO.row e sz cs).rep K w ob) (hu : (ob = none ∧ u = .slice none 0 0 ∧ n = 0) ∨ ∃ b c, ob = some b ∧ u = .slice (some ⟨b, 0, none⟩) n c ∧ n ≤ c ∧ c ≤ maxLen ∧ c * sz = bsz w b) (hl : cs.length = n * sz) (hsz : 0 < sz) (hB : ∀ b, ob = some b → B ≤ b) :
    ∃ us, w.ownsRow B e sz u n us ∧ repL K w cs us ∧ u.ownBlock = ob ∧ ∀ x ∈ us, x.oneCell' = true := by
  rcases hu with ⟨rfl, rfl, rfl⟩ | ⟨b, c, rfl, rfl, h1, h2, h3⟩
  · rcases h with ⟨_, rfl⟩ | ⟨b, us, cap, e', _⟩
    · exact ⟨[], ⟨by simp, .inl ⟨rfl, rfl⟩⟩, by simp [repL], rfl, by simp⟩
    · cases e'
  · rcases h with ⟨e', _⟩ | ⟨b', us, cap, e', k1, k2, k3, k4, k5, k6⟩
    · cases e'
    · cases e'
      have hc : c = cap := by
        unfold bsz at h3
        rw [k1] at h3
        simp only [List.size_toArray, k2] at h3
        exact Nat.eq_of_mul_eq_mul_right hsz h3
      subst hc
      have hlen : (us.take cs.length).length = n * sz := by rw [List.length_take, ← hl]; omega
      exact ⟨us.take cs.length, ⟨hlen, .inr ⟨b, c, us.toArray, rfl, hB b rfl, k1, h1, h2, by simpa using k2, by rw [hl]⟩⟩, k5, rfl, k6⟩
/-- And back. -/
theorem owns_row {K : Nat → Prop} {w : World} {B e sz n : Nat} {cs : List DV} {u : Value} {us : List Value} (h : w.ownsRow B e sz u n us) (hr : repL K w cs us) (h1 : ∀ x ∈ us, x.oneCell' = true) :
    (AO.row e sz cs).rep K w u.ownBlock ∧ ((u.ownBlock = none ∧ u = .slice none 0 0 ∧ n = 0) ∨ ∃ b c, u.ownBlock = some b ∧ u = .slice (some ⟨b, 0, none⟩) n c ∧ n ≤ c ∧ c ≤ maxLen ∧ c * sz = bsz w b) := by
  have hlen := repL_length hr
  rcases h.2 with ⟨rfl, rfl⟩ | ⟨g, cap, cur, rfl, hb, hg, hnc, hcm, hcs, htake⟩
  · have : cs = [] := List.eq_nil_of_length_eq_zero (by rw [← hlen, h.1]; simp)
    exact ⟨.inl ⟨rfl, this⟩, .inl ⟨rfl, rfl, rfl⟩⟩
  · have hcl : cs.length = n * sz := by rw [← hlen, h.1]
    have hle : n * sz ≤ cap * sz := Nat.mul_le_mul_right _ hnc
    refine ⟨.inr ⟨g, cur.toList, cap, rfl, by simpa using hg, by simpa using hcs, hcm, by rw [hcl]; simp [hcs]; exact hle, by rw [hcl, htake]; exact hr, by rw [hcl, htake]; exact h1⟩, .inr ⟨g, cap, rfl, rfl, hnc, hcm, ?_⟩⟩
    unfold bsz; rw [hg]; exact hcs.symm
theorem owns_lt {w : World} {B e sz n : Nat} {u : Value} {us : List Value} (h : w.ownsRow B e sz u n us) : ∀ b, u.ownBlock = some b → b < w.heap.size := fun b hb => (World.ownsRow.lt h b hb).2
theorem okA_len {g n sz : Nat} {cs : List DV} {T : TypeId} (hg : Γ g = some (.row T sz cs)) (hl : cs.length = n * sz) : okr Γ (.ow g n sz) := fun cs' h => by
  rw [hg] at h; simp [AO.cells] at h; subst h; exact hl
/-- The cells of what is read, as this call knows them. -/
theorem src_vals {ρ : Rho} {a : Act} {w : World} (h : RepsAt C ρ L Γ a w) {x : Operand} {A : AV} {m sz : Nat} {ds : List DV} (hx : ev L x = some A) (hA : rdv Γ A = some (.sl sz m ds)) (hok : okr Γ A) :
    (a.eval x = .slice none 0 0 ∧ m = 0 ∧ ds = []) ∨ ∃ b o c us, a.eval x = .slice (some ⟨b, o, none⟩) m c ∧ repL (KK C.K0 ρ Γ) w ds us ∧ us.length = m * sz ∧ (∀ j x, us[j]? = some x → w.cell? ((⟨b, o, none⟩ : Addr).add j) = some x) ∧ ∀ x ∈ us, x.oneCell' = true := by
  have hr := ev_rep h hx
  have fin : ∀ {b o c : Nat} {cs : List DV}, repAt (KK C.K0 ρ Γ) w cs b o → cs.length = m * sz → a.eval x = .slice (some ⟨b, o, none⟩) m c → ∃ b o c us, a.eval x = .slice (some ⟨b, o, none⟩) m c ∧ repL (KK C.K0 ρ Γ) w cs us ∧ us.length = m * sz ∧ (∀ j x, us[j]? = some x → w.cell? ((⟨b, o, none⟩ : Addr).add j) = some x) ∧ ∀ x ∈ us, x.oneCell' = true := by
    intro b o c cs h1 h2 h3
    obtain ⟨us, k1, k2, k3⟩ := repAt_vals h1
    exact ⟨b, o, c, us, h3, k1, by rw [repL_length k1, h2], fun j x hj => by rw [addr_add]; exact k2 j x hj, k3⟩
  cases A with
  | d Y =>
    simp only [rdv, Option.some.injEq] at hA; subst hA
    exact src_cells hr
  | f Y =>
    simp only [rdv, Option.some.injEq] at hA; subst hA
    exact src_cells (dv_rep hr rfl)
  | ptr g off =>
    simp only [rdv] at hA
    cases hc : (Γ g).bind AO.cells <;> simp [hc] at hA
  | bs g off n sz' =>
    simp only [rdv] at hA
    cases hc : (Γ g).bind AO.cells with
    | none => simp [hc] at hA
    | some cs =>
      simp only [hc] at hA
      cases hle : Nat.ble (off + n * sz') cs.length with
      | false => simp [hle] at hA
      | true =>
        simp only [hle, cond_true, Option.some.injEq, DV.sl.injEq] at hA
        obtain ⟨rfl, rfl, rfl⟩ := hA
        have hle' : off + n * sz' ≤ cs.length := by simpa using hle
        obtain ⟨o, hg, ho⟩ := bind_cells hc
        obtain ⟨ob, h1⟩ := own_block h hg ho
        obtain ⟨b, c, rfl, k1, _⟩ := hr ob h1
        have h3 := repAt_take (n * sz') (repAt_drop off (own_cells h hg ho h1))
        rw [Nat.zero_add] at h3
        exact .inr (fin h3 (by simp; omega) k1)
  | ow g n sz' =>
    simp only [rdv] at hA
    cases hc : (Γ g).bind AO.cells with
    | none => simp [hc] at hA
    | some cs =>
      simp only [hc, Option.some.injEq, DV.sl.injEq] at hA
      obtain ⟨rfl, rfl, rfl⟩ := hA
      have hlen := hok cs hc
      obtain ⟨o, hg, ho⟩ := bind_cells hc
      obtain ⟨ob, h1⟩ := own_block h hg ho
      rcases hr ob h1 with ⟨_, k1, rfl⟩ | ⟨b, c, rfl, k1, _⟩
      · exact .inl ⟨k1, rfl, List.eq_nil_of_length_eq_zero (by rw [hlen]; simp)⟩
      · exact .inr (fin (own_cells h hg ho h1) hlen k1)
/-- append to a row of one's own: the row is another one from then on. -/
theorem OT.append {t e sz by_ g n m : Nat} {s x : Operand} {cs ds : List DV} {A : AV} (g' : Nat) (hn : Nat.blt d C.n = true) (hs : ev L s = some (.ow g n sz)) (hg : Γ g = some (.row e sz cs)) (hl : cs.length = n * sz) (hg' : Γ g' = none) (ht : apt P t = some (e, sz, by_))
    (hx : ev L x = some A) (hA : rdv Γ A = some (.sl sz m ds)) (hok : okr Γ A) (h1 : ds.all DV.one = true) (hbig : (n + m) * by_ ≤ 140737488355328) (hmax : n + m ≤ 1099511627776) :
    OT P C ⟨some d, .call { callee := .builtin .append, args := #[s, x], argTypes := #[t, t] }, ty, pos, af, gd⟩ L Γ (upd L d (.ow g' (n + m) sz)) (upd (upd Γ g .dead) g' (.row e sz (cs ++ ds))) :=
  OT.turns fun ρ a w h => by
    obtain ⟨hu, i, z, hi, hz, hsz, hby, hzs, h0⟩ := apt_parts ht
    obtain ⟨ob, hρ, ho⟩ := h.obj g _ hg (by simp)
    have hB : ∀ b, ob = some b → C.w0.heap.size ≤ b := fun b eb => h.new g b _ hg (by simp) rfl (by rw [hρ, eb])
    obtain ⟨us, k1, k2, k3, k4⟩ := row_owns (B := C.w0.heap.size) ho (ev_rep h hs ob hρ) hl h0 hB
    have hsrc := src_vals h hx hA hok
    have key : ∃ v' w' vs, (Builtin.append_ #[t, t] ty #[a.eval s, a.eval x]).run P w = .ok v' w' ∧ w'.ownsRow C.w0.heap.size e sz v' (n + m) (us ++ vs) ∧ w.grownBy w' ob ∧ repL (KK C.K0 ρ Γ) w ds vs ∧ (∀ b, v'.ownBlock = some b → ob = some b ∨ w.heap.size ≤ b) := by
      rcases hsrc with ⟨hxv, rfl, rfl⟩ | ⟨b, o, c, vs, hxv, q1, q2, q3, q4⟩
      · rw [hxv]
        refine ⟨a.eval s, w, [], run_append_owned_none w _ _ _ _ i sz hu hi _ _ _ k1, by simpa using k1, ⟨rfl, rfl, rfl, Nat.le_refl _, fun _ _ _ => rfl⟩, by simp [repL], fun b hb => .inl (by rw [← k3, hb])⟩
      · rw [hxv]
        obtain ⟨v', w', r1, r2, r3, _, r5⟩ := run_append_own_at (P := P) w C.w0.heap.size t ty e i z sz by_ hu hi hz hsz hby hzs h0 (a.eval s) n us k1 ⟨b, o, none⟩ m c vs q2 q3 q4 (by unfold maxLen; omega) hbig h.fr.size
        refine ⟨v', w', vs, r1, r2, by rw [← k3]; exact r3, q1, fun b' hb' => ?_⟩
        rcases r5 with r5 | r5
        · exact .inl (by rw [← k3, ← r5, hb'])
        · rw [r5] at hb'; cases hb'; exact .inr (Nat.le_refl _)
    obtain ⟨v', w', vs, r1, r2, r3, r4, r5⟩ := key
    refine ⟨v', w', by simp only [execOp, resolve, invoke, builtin, Sem.run_bind, Sem.run_pure, Result.andThen_ok, List.map_toArray, List.map_cons, List.map_nil, r1], ?_⟩
    have hlt := owns_lt r2
    have hones : ∀ x ∈ us ++ vs, x.oneCell' = true := fun x hx => (List.mem_append.1 hx).elim (k4 x) (all_one_of r4 h1 x)
    -- the cells of the elder row and what is appended, in the new world
    have hreads : ∀ K, Keeps (KK C.K0 ρ Γ) K w w' → repL K w' (cs ++ ds) (us ++ vs) := fun K hK => by
      refine repL_append (repL_mono hK _ _ k2) ?_
      exact repL_mono hK _ _ r4
    obtain ⟨ρ', hr, hρ', _⟩ := h.gain (g := g') (ob := ob) (ob' := v'.ownBlock) (o' := .row e sz (cs ++ ds)) (w' := w') (Γ1 := upd Γ g .dead) hg'
      (fun g1 o1 h1 h2 => (upd_some h1).elim (fun e => absurd e.2 h2) (fun e => e.2))
      (fun g1 h1 => by by_cases e : g1 = g; · subst e; rw [upd_same]; simp
                       · rw [upd_other _ _ _ _ e]; exact h1)
      (fun b g1 eb hl1 hρ1 => by
        obtain ⟨o1, p1, p2⟩ := hl1
        rcases upd_some p1 with ⟨_, e⟩ | ⟨hne, p1⟩
        · exact p2 e
        · exact hne (h.inj g1 g b hρ1 (by rw [hρ, eb]) ⟨o1, p1, p2⟩ ⟨_, hg, by simp⟩))
      (fun b eb => ⟨hB b eb, g, ⟨_, hg, by simp⟩, by rw [hρ, eb]⟩) r3 (fun b eb => ⟨r5 b eb, hlt b eb⟩) (by simp) rfl
      (fun K hK _ => (owns_row r2 (hreads K hK) hones).1)
    refine ⟨ρ', hr.put (by simpa using hn) (fun ob' hob => ?_) (fun g1 hg1 => ?_)⟩
    · rw [hρ'] at hob; cases hob
      exact (owns_row r2 (hreads _ ‹_›) hones).2
    · cases hg1; rw [upd_same]; simp
end
end Go.Proofs.YtdjcclcejmeheaaGreat.Pl
end
section
namespace Go.Proofs.YtdjcclcejmeheaaGreat.Pl
set_option linter.unusedVariables false
set_option linter.unusedSimpArgs false
open Go.RowKit
/-- Of closed data; the result is new, or has no parts. -/
def PF (P : Program) (f : FuncId) (Xs : List DV) (Y : DV) : Prop := ∀ w us, repL noK w Xs us → Calls P f us.toArray w fun e w' => ∃ u, e = .returned u ∧ Below w.heap.size w w' ∧ ∀ K, (∀ b, K b → b < w.heap.size) → Y.rep K w' u
/-- Of closed data; the result may have parts in common with the arguments. -/
def PC (P : Program) (f : FuncId) (Xs : List DV) (Y : DV) : Prop := ∀ w K us, (∀ b, K b → b < w.heap.size) → repL K w Xs us → Calls P f us.toArray w fun e w' => ∃ u, e = .returned u ∧ Below w.heap.size w w' ∧ Y.rep K w' u
/-- The result is a row of one's own. -/
def PO (P : Program) (f : FuncId) (Xs : List DV) (e sz n : Nat) (cs : List DV) : Prop := ∀ w us, repL noK w Xs us → Calls P f us.toArray w fun r w' => ∃ u vs, r = .returned u ∧ Below w.heap.size w w' ∧ w'.ownsRow w.heap.size e sz u n vs ∧ (∀ x ∈ vs, x.oneCell' = true) ∧ ∀ K, (∀ b, K b → b < w.heap.size ∨ u.ownBlock = some b) → repL K w' cs vs
theorem PF.pc {P : Program} {f : FuncId} {Xs : List DV} {Y : DV} (h : PF P f Xs Y) : PC P f Xs Y := fun w K us hK hr =>
  (h w us (repL_mono (fun b hb _ => ⟨rfl, hb, fun x => x⟩) _ _ hr)).mono fun e w' ⟨u, h1, h2, h3⟩ => ⟨u, h1, h2, h3 K hK⟩
theorem PO.pf {P : Program} {f : FuncId} {Xs : List DV} {e sz n : Nat} {cs : List DV} (h : PO P f Xs e sz n cs) : PF P f Xs (.sl sz n cs) := fun w us hr =>
  (h w us hr).mono fun r w' ⟨u, vs, h1, h2, h3, h4, h5⟩ => ⟨u, h1, h2, fun K hK => by
    have hK' := fun b hb => Or.inl (b := u.ownBlock = some b) (hK b hb)
    have hl := repL_length (h5 K hK')
    unfold DV.rep
    rcases h3.2 with ⟨rfl, rfl⟩ | ⟨g, cap, cur, rfl, hb, hg, hnc, hcm, hcs, htake⟩
    · exact .inl ⟨rfl, rfl, List.eq_nil_of_length_eq_zero (by rw [← hl, h3.1]; simp)⟩
    · refine .inr ⟨g, 0, cap, rfl, hnc, hcm, by rw [← hl, h3.1], .inr ⟨(Array.getElem?_eq_some_iff.1 hg).1, fun x => by have := hK g x; omega⟩, repAt_of_cells (h5 K hK') (fun j u hj => ?_) h4⟩
      have := World.ownsRow.cells h3 (g := g) rfl j u hj
      rwa [addr_add] at this⟩
def cfn (P : Program) (f : FuncId) : Bool := match P.funcs[f]? with
  | some fn => !(fn.name == "runtime.NumGoroutine") && fn.body.isSome
  | none => false
theorem callFunc_run {P : Program} {f : FuncId} (h : cfn P f = true) (args : Array Value) (w : World) : (callFunc f args).run P w = .ok (.enter f args) w := by
  unfold cfn at h
  cases hf : P.funcs[f]? with
  | none => simp [hf] at h
  | some fn =>
    simp only [hf, Bool.and_eq_true, Bool.not_eq_true'] at h
    have hb : fn.body ≠ none := by intro e; simp [e] at h
    have hn : ¬ fn.name = "runtime.NumGoroutine" := by simpa using h.1
    simp [callFunc, hf, hn, hb]
def evR (L : Lo) (Γ : Ga) : List Operand → Option (List DV)
  | [] => some []
  | x :: r => match (ev L x).bind (rdv Γ), evR L Γ r with
    | some X, some l => some (X :: l)
    | _, _ => none
def okR (L : Lo) (Γ : Ga) : List Operand → Prop
  | [] => True
  | x :: r => (match ev L x with | some (.ow g n sz) => okr Γ (.ow g n sz) | _ => True) ∧ okR L Γ r
def evD (L : Lo) : List Operand → Option (List DV)
  | [] => some []
  | x :: r => match evd L x, evD L r with
    | some X, some l => some (X :: l)
    | _, _ => none
section
variable {P : Program} {C : Cx} {L : Lo} {Γ : Ga} {d : Nat} {ty : TypeId} {pos : String} {af : Array Edge} {gd : Option (Nat × Bool)}
theorem evR_rep {ρ : Rho} {a : Act} {w : World} (h : RepsAt C ρ L Γ a w) : ∀ {xs : List Operand} {Xs : List DV}, evR L Γ xs = some Xs → okR L Γ xs → repL noK w Xs (xs.map a.eval)
  | [], Xs, hx, _ => by simp only [evR, Option.some.injEq] at hx; subst hx; simp [repL]
  | x :: r, Xs, hx, hok => by
    unfold evR at hx
    cases h0 : ev L x with
    | none => simp [h0] at hx
    | some A =>
      cases h1 : rdv Γ A with
      | none => simp [h0, h1] at hx
      | some X =>
        cases h2 : evR L Γ r with
        | none => simp [h0, h1, h2] at hx
        | some l =>
          simp only [h0, Option.bind_some, h1, h2, Option.some.injEq] at hx
          subst hx
          unfold okR at hok
          rw [List.map_cons]
          unfold repL
          refine ⟨_, _, rfl, evr_rep h h0 h1 ?_, evR_rep h h2 hok.2⟩
          have := hok.1
          rw [h0] at this
          cases A <;> first | exact this | trivial
theorem evD_rep {ρ : Rho} {a : Act} {w : World} (h : RepsAt C ρ L Γ a w) : ∀ {xs : List Operand} {Xs : List DV}, evD L xs = some Xs → repL (KK C.K0 ρ Γ) w Xs (xs.map a.eval)
  | [], Xs, hx => by simp only [evD, Option.some.injEq] at hx; subst hx; simp [repL]
  | x :: r, Xs, hx => by
    unfold evD at hx
    cases h1 : evd L x with
    | none => simp [h1] at hx
    | some X =>
      cases h2 : evD L r with
      | none => simp [h1, h2] at hx
      | some l =>
        simp only [h1, h2, Option.some.injEq] at hx
        subst hx
        rw [List.map_cons]
        unfold repL
        exact ⟨_, _, rfl, evd_rep h h1, evD_rep h h2⟩
theorem call_run {f : FuncId} (hf : cfn P f = true) (xs : List Operand) (at_ : Array TypeId) (a : Act) (w : World) (d : Option Nat) : (execOp a.eval ⟨d, .call { callee := .value (.func f), args := xs.toArray, argTypes := at_ }, ty, pos, af, gd⟩).run P w = .ok (.enter f (xs.map a.eval).toArray) w := by
  have : a.eval (.func f) = .func (.func f) #[] #[] := rfl
  simp [execOp, resolve, this, Deferred.ofValue, invoke, callFunc_run hf]
theorem kk_lt {ρ : Rho} {a : Act} {w : World} (h : RepsAt C ρ L Γ a w) (b : Nat) (hb : KK C.K0 ρ Γ b ∨ b < C.w0.heap.size) : b < w.heap.size := by
  rcases hb with (hb | ⟨g, _, hb⟩) | hb
  · exact Nat.lt_of_lt_of_le (h.k0 b hb).1 h.fr.size
  · exact h.lt g b hb
  · exact Nat.lt_of_lt_of_le hb h.fr.size
theorem OT.callf {f : FuncId} {xs : List Operand} {at_ : Array TypeId} {Xs : List DV} {Y : DV} (hn : Nat.blt d C.n = true) (hf : cfn P f = true) (hx : evR L Γ xs = some Xs) (hok : okR L Γ xs) (hc : PF P f Xs Y) :
    OT P C ⟨some d, .call { callee := .value (.func f), args := xs.toArray, argTypes := at_ }, ty, pos, af, gd⟩ L Γ (upd L d (.f Y)) Γ := by
  rintro a w ⟨ρ, h⟩
  unfold Oper.wp
  rw [call_run hf, Oper.upon_enter]
  refine (hc w _ (evR_rep h hx hok)).mono ?_
  rintro e w' ⟨u, rfl, hb, hY⟩
  exact ⟨ρ, (h.ext hb).put (by simpa using hn) (hY _ fun b hb => kk_lt h b hb) (fun g hg => by simp [AV.id] at hg)⟩
theorem OT.callc {f : FuncId} {xs : List Operand} {at_ : Array TypeId} {Xs : List DV} {Y : DV} (hn : Nat.blt d C.n = true) (hf : cfn P f = true) (hx : evD L xs = some Xs) (hc : PC P f Xs Y) :
    OT P C ⟨some d, .call { callee := .value (.func f), args := xs.toArray, argTypes := at_ }, ty, pos, af, gd⟩ L Γ (upd L d (.d Y)) Γ := by
  rintro a w ⟨ρ, h⟩
  unfold Oper.wp
  rw [call_run hf, Oper.upon_enter]
  refine (hc w _ _ (fun b hb => kk_lt h b (.inl hb)) (evD_rep h hx)).mono ?_
  rintro e w' ⟨u, rfl, hb, hY⟩
  exact ⟨ρ, (h.ext hb).put (by simpa using hn) hY (fun g hg => by simp [AV.id] at hg)⟩
theorem OT.callo {f : FuncId} {xs : List Operand} {at_ : Array TypeId} {Xs : List DV} {e sz n : Nat} {cs : List DV} (g : Nat) (hn : Nat.blt d C.n = true) (hg : Γ g = none) (hf : cfn P f = true) (hx : evR L Γ xs = some Xs) (hok : okR L Γ xs) (hc : PO P f Xs e sz n cs) :
    OT P C ⟨some d, .call { callee := .value (.func f), args := xs.toArray, argTypes := at_ }, ty, pos, af, gd⟩ L Γ (upd L d (.ow g n sz)) (upd Γ g (.row e sz cs)) := by
  rintro a w ⟨ρ, h⟩
  unfold Oper.wp
  rw [call_run hf, Oper.upon_enter]
  refine (hc w _ (evR_rep h hx hok)).mono ?_
  rintro r w' ⟨u, vs, rfl, hb, ho, h1, hY⟩
  have hlt := owns_lt ho
  have hge : ∀ b, u.ownBlock = some b → w.heap.size ≤ b := fun b hb => (World.ownsRow.lt ho b hb).1
  have hgr : w.grownBy w' none := ⟨hb.os, hb.tape, hb.output, hb.size, fun k hk _ => hb.block k hk⟩
  obtain ⟨ρ', hr, hρ', hk⟩ := h.gain (g := g) (ob := none) (ob' := u.ownBlock) (o' := .row e sz cs) (w' := w') (Γ1 := Γ) hg (fun _ _ h _ => h) (fun _ h => h) (fun b g' e => by cases e) (fun b e => by cases e) hgr
    (fun b eb => ⟨.inr (hge b eb), hlt b eb⟩) (by simp) rfl
    (fun K hK hb => (owns_row (K := K) ho (hY K hb) h1).1)
  refine ⟨ρ', hr.put (by simpa using hn) (fun ob' hob => ?_) (fun g1 hg1 => ?_)⟩
  · rw [hρ'] at hob; cases hob
    exact (owns_row (K := noK) ho (hY noK (fun b hb => hb.elim)) h1).2
  · cases hg1; rw [upd_same]; simp
end
end Go.Proofs.YtdjcclcejmeheaaGreat.Pl
end
section
namespace Go.Proofs.YtdjcclcejmeheaaGreat.Pl
set_option linter.unusedVariables false
set_option linter.unusedSimpArgs false
open Go.RowKit
def TL (P : Program) (C : Cx) (ops : Array Oper) (Q : Exit → Act → World → Prop) (rest : List Oper) (L : Lo) (Γ : Ga) : Prop := ∀ a w, Reps C L Γ a w → wpList P ops Q rest a w
def TC (P : Program) (C : Cx) (c : Code) (Q : Exit → Act → World → Prop) (L : Lo) (Γ : Ga) : Prop := ∀ a w, Reps C L Γ a w → c.wp P Q a w
def TE (C : Cx) (R : Act → World → Prop) (L : Lo) (Γ : Ga) : Prop := ∀ a w, Reps C L Γ a w → R a w
section
variable {P : Program} {C : Cx} {L L' : Lo} {Γ Γ' : Ga} {ops : Array Oper} {Q : Exit → Act → World → Prop}
theorem wp_weak {o : Oper} {a : Act} {w : World} {N N' : Act → World → Prop} (h : o.wp P a w N (fun _ _ _ => False)) (hn : ∀ a w, N a w → N' a w) : o.wp P a w N' Q := by
  unfold Oper.wp at *
  generalize (execOp a.eval o).run P w = r at *
  cases r with
  | ok n w' =>
    cases n <;> simp only [Oper.upon] at h ⊢ <;>
      first
        | exact hn _ _ h
        | exact Calls.mono h (fun e w'' he => by cases e <;> first | exact hn _ _ he | exact he.elim | (obtain ⟨_, _, x⟩ := he; exact x.elim))
        | exact Rows.mono h (fun _ _ he => hn _ _ he)
  | halt x w' => cases x <;> simp only [Oper.upon] at h
theorem TL.step {o : Oper} {rest : List Oper} (hg : o.guard = none) (h : OT P C o L Γ L' Γ') (k : TL P C ops Q rest L' Γ') : TL P C ops Q (o :: rest) L Γ := fun a w hr => by
  unfold wpList
  have : Region.wanted o (yielded ops a.tmps) = true := by unfold Region.wanted; rw [hg]
  rw [if_pos this]
  exact .inl (wp_weak (h a w hr) k)
theorem wanted_of {ρ : Rho} {a : Act} {w : World} (h : RepsAt C ρ L Γ a w) {o : Oper} {j t : Nat} {want b : Bool} (hg : o.guard = some (j, want)) (hj : (ops[j]?).bind (·.dst) = some t) (ht : evv L (.tmp t) = some (.bool b)) (hn : t < C.n) : Region.wanted o (yielded ops a.tmps) = (b == want) := by
  have hv : a.tmps[t]? = some (.bool b) := by
    have h1 := evv_eval h ht
    simp only [Act.eval, Array.getD_eq_getD_getElem?] at h1
    have h2 : t < a.tmps.size := by rw [h.sz]; exact hn
    rw [Array.getElem?_eq_getElem h2] at h1 ⊢
    simpa using h1
  unfold Region.wanted
  rw [hg]
  simp only [yielded, hj, Option.bind_some, hv]
  cases b <;> cases want <;> rfl
/-- An operation behind a guard that holds; behind one that does not. -/
theorem TL.go {o : Oper} {rest : List Oper} (t : Nat) {j : Nat} {b : Bool} (hg : o.guard = some (j, b)) (hj : (ops[j]?).bind (·.dst) = some t) (ht : evv L (.tmp t) = some (.bool b)) (hn : Nat.blt t C.n = true) (h : OT P C o L Γ L' Γ') (k : TL P C ops Q rest L' Γ') : TL P C ops Q (o :: rest) L Γ := fun a w hr => by
  obtain ⟨ρ, hr'⟩ := hr
  unfold wpList
  rw [if_pos (by rw [wanted_of hr' hg hj ht (by simpa using hn)]; simp)]
  exact .inl (wp_weak (h a w ⟨ρ, hr'⟩) k)
theorem TL.no {o : Oper} {rest : List Oper} (t : Nat) {d j : Nat} {b b' : Bool} (hd : o.dst = some d) (hg : o.guard = some (j, b)) (hj : (ops[j]?).bind (·.dst) = some t) (ht : evv L (.tmp t) = some (.bool b')) (hb : (b' == b) = false) (hn : Nat.blt t C.n = true) (hn' : Nat.blt d C.n = true) (k : TL P C ops Q rest (upd L d (.f (.v undef))) Γ) : TL P C ops Q (o :: rest) L Γ := fun a w hr => by
  obtain ⟨ρ, hr'⟩ := hr
  unfold wpList
  rw [if_neg (by rw [wanted_of hr' hg hj ht (by simpa using hn), hb]; simp), hd]
  exact k _ _ ⟨ρ, hr'.put (by simpa using hn') rfl (fun g hg => by simp [AV.id] at hg)⟩
theorem wanted_undef {ρ : Rho} {a : Act} {w : World} (h : RepsAt C ρ L Γ a w) {o : Oper} {j t : Nat} {want : Bool} (hg : o.guard = some (j, want)) (hj : (ops[j]?).bind (·.dst) = some t) (ht : evv L (.tmp t) = some undef) : Region.wanted o (yielded ops a.tmps) = false := by
  have h1 := evv_eval h ht
  simp only [Act.eval, Array.getD_eq_getD_getElem?] at h1
  unfold Region.wanted
  rw [hg]
  simp only [yielded, hj, Option.bind_some]
  cases hv : a.tmps[t]? with
  | none => rfl
  | some v =>
    rw [hv] at h1
    simp only [Option.getD_some] at h1
    subst h1
    rfl
theorem TL.nil (h : TE C (Q .normal) L Γ) : TL P C ops Q [] L Γ := fun a w hr => h a w hr
/-- A slot's value in another spelling. -/
theorem TL.set {rest : List Oper} (t : Nat) {X : AV} (Y : AV) (ht : L t = some X) (h : X = Y) (k : TL P C ops Q rest (upd L t Y) Γ) : TL P C ops Q rest L Γ := fun a w ⟨ρ, hr⟩ => k a w ⟨ρ, by
  subst h
  have : upd L t X = L := by funext s; by_cases e : s = t; · subst e; rw [upd_same, ht]
                             · rw [upd_other _ _ _ _ e]
  rw [this]; exact hr⟩
theorem TL.case {rest : List Oper} (t : Nat) {b : Bool} (ht : L t = some (.f (.v (.bool b)))) (h1 : b = true → TL P C ops Q rest (upd L t (.f (.v (.bool true)))) Γ) (h2 : b = false → TL P C ops Q rest (upd L t (.f (.v (.bool false)))) Γ) : TL P C ops Q rest L Γ := by
  cases b with
  | true => exact TL.set t _ ht rfl (h1 rfl)
  | false => exact TL.set t _ ht rfl (h2 rfl)
theorem TC.region {id : Nat} {l : List Oper} (h : TL P C l.toArray Q l L Γ) : TC P C (.region id l.toArray false) Q L Γ := fun a w hr => wp_region_lit (h a w hr)
theorem TC.seq {x y : Code} (h : TC P C x (Exit.then (fun a w => y.wp P Q a w) Q) L Γ) : TC P C (.seq x y) Q L Γ := fun a w hr => wp_seq (h a w hr)
theorem TE.next {y : Code} (h : TC P C y Q L Γ) : TE C (Exit.then (fun a w => y.wp P Q a w) Q .normal) L Γ := h
theorem TC.cond {c : Operand} {x y : Code} {b : Bool} (hc : evv L c = some (.bool b)) (h1 : b = true → TC P C x Q L Γ) (h2 : b = false → TC P C y Q L Γ) : TC P C (.cond c x y) Q L Γ := fun a w hr => by
  obtain ⟨ρ, hr'⟩ := hr
  exact wp_cond_split (evv_eval hr' hc) (fun e => h1 e a w ⟨ρ, hr'⟩) (fun e => h2 e a w ⟨ρ, hr'⟩)
theorem TC.block {id : Nat} {c : Code} (h : TC P C c (Exit.inBlock id Q) L Γ) : TC P C (.block id c) Q L Γ := fun a w hr => wp_block (h a w hr)
theorem TC.exit {id : Nat} (h : TE C (Q (.exit id)) L Γ) : TC P C (.exit id) Q L Γ := fun a w hr => wp_exit (h a w hr)
theorem TC.ret (h : TE C (Q .ret) L Γ) : TC P C .ret Q L Γ := fun a w hr => wp_ret (h a w hr)
theorem TC.skip (h : TE C (Q .normal) L Γ) : TC P C .skip Q L Γ := fun a w hr => wp_skip (h a w hr)
theorem TE.here {id : Nat} (h : TE C (Q .normal) L Γ) : TE C (Exit.inBlock id Q (.exit id)) L Γ := fun a w hr => by
  show (if id = id then _ else _)
  rw [if_pos rfl]; exact h a w hr
theorem TE.pass {K : Act → World → Prop} {i : Nat} (h : TE C (Q (.exit i)) L Γ) : TE C (Exit.then K Q (.exit i)) L Γ := h
theorem TE.blk {i : Nat} (h : TE C (Q .normal) L Γ) : TE C (Exit.inBlock i Q .normal) L Γ := h
def okid (Γ : Ga) (X : AV) : Bool := match X.id with | none => true | some g => (Γ g).isSome
/-- The ids of a renamed value. -/
def AV.ren (σ : Nat → Nat) : AV → AV
  | .ptr g o => .ptr (σ g) o
  | .bs g o n s => .bs (σ g) o n s
  | .ow g n s => .ow (σ g) n s
  | X => X
def allL (σ : Nat → Nat) (L : Lo) (Γ' : Ga) : List (Nat × AV) → Prop
  | [] => True
  | (t, X) :: r => (L t = some (X.ren σ) ∧ okid Γ' X = true) ∧ allL σ L Γ' r
def allG (σ : Nat → Nat) (Γ : Ga) : List (Nat × AO) → Prop
  | [] => True
  | (g, o) :: r => (o = .dead ∨ Γ (σ g) = some o) ∧ allG σ Γ r
theorem allL_get {σ : Nat → Nat} {Γ' : Ga} : ∀ {l : List (Nat × AV)} {t : Nat} {X : AV}, allL σ L Γ' l → ls l t = some X → L t = some (X.ren σ) ∧ okid Γ' X = true
  | [], t, X, _, h => by simp [ls] at h
  | (s, Y) :: r, t, X, hl, h => by
    unfold allL at hl
    unfold ls at h
    cases hb : Nat.beq t s with
    | true => rw [hb, cond_true] at h; injection h with h; subst h; rw [Nat.beq_eq] at hb; subst hb; exact hl.1
    | false => rw [hb, cond_false] at h; exact allL_get hl.2 h
theorem allG_get {σ : Nat → Nat} : ∀ {l : List (Nat × AO)} {g : Nat} {o : AO}, allG σ Γ l → ls l g = some o → o = .dead ∨ Γ (σ g) = some o
  | [], t, X, _, h => by simp [ls] at h
  | (s, Y) :: r, t, X, hl, h => by
    unfold allG at hl
    unfold ls at h
    cases hb : Nat.beq t s with
    | true => rw [hb, cond_true] at h; injection h with h; subst h; rw [Nat.beq_eq] at hb; subst hb; exact hl.1
    | false => rw [hb, cond_false] at h; exact allG_get hl.2 h
theorem reps_weak {a : Act} {w : World} (σ : Nat → Nat) (hσ : ∀ x y, σ x = σ y → x = y) {l : List (Nat × AV)} {m : List (Nat × AO)} (hl : allL σ L (ls m) l) (hm : allG σ Γ m) (h : Reps C L Γ a w) : Reps C (ls l) (ls m) a w := by
  obtain ⟨ρ, h⟩ := h
  classical
  let ρ' : Rho := fun g => if live (ls m) g then ρ (σ g) else none
  have hlv : ∀ g, live (ls m) g → live Γ (σ g) := fun g ⟨o, h1, h2⟩ => ⟨o, (allG_get hm h1).resolve_left h2, h2⟩
  have r1 : ∀ g x, ρ' g = some x → live (ls m) g ∧ ρ (σ g) = some x := fun g x hx => by
    by_cases hg : live (ls m) g
    · exact ⟨hg, by simpa [ρ', hg] using hx⟩
    · simp [ρ', hg] at hx
  have hk : Keeps (KK C.K0 ρ Γ) (KK C.K0 ρ' (ls m)) w w := fun b hb hn => ⟨rfl, hb, fun x => hn (x.elim .inl fun ⟨g, h1, h2⟩ => .inr ⟨σ g, hlv g h1, (r1 g _ h2).2⟩)⟩
  refine ⟨ρ', h.df, h.sz, h.k0, h.fr, fun g hg => by simp [ρ', hg], fun t X g ht hg => ?_, fun g b hb => h.lt (σ g) b (r1 g _ hb).2, fun g g' b h1 h2 _ _ => hσ _ _ (h.inj _ _ b (r1 g _ h1).2 (r1 g' _ h2).2 (hlv g (r1 g _ h1).1) (hlv g' (r1 g' _ h2).1)),
    fun g b o h1 h2 h3 hb => h.new (σ g) b o ((allG_get hm h1).resolve_left h2) h2 h3 (r1 g _ hb).2, fun g o k ob h1 h3 hb => h.len (σ g) o k ob ((allG_get hm h1).resolve_left (by rintro rfl; simp [AO.key] at h3)) h3 (r1 g _ hb).2, fun g o h1 h2 => ?_, fun t X ht => ?_⟩
  · have := (allL_get hl ht).2
    unfold okid at this
    rw [hg] at this
    intro e; simp [e] at this
  · obtain ⟨ob, h3, h4⟩ := h.obj (σ g) o ((allG_get hm h1).resolve_left h2) h2
    exact ⟨ob, by simp only [ρ']; rw [if_pos ⟨o, h1, h2⟩]; exact h3, AO.rep_mono hk (fun _ _ => rfl) o h4⟩
  · have hs := h.slot t _ (allL_get hl ht).1
    cases X with
    | d X => exact DV.rep_mono hk X _ hs
    | f X => exact DV.rep_mono (hk.widen (J := fun b => b < C.w0.heap.size)) X _ hs
    | ptr g o => exact fun ob hob => hs ob (r1 g _ hob).2
    | bs g o n s => exact fun ob hob => hs ob (r1 g _ hob).2
    | ow g n s => exact fun ob hob => hs ob (r1 g _ hob).2
theorem wp_loop_nat {c : Code} (I : Nat → Act → World → Prop) {a : Act} {w : World} (k : Nat) (h0 : I k a w) (round : ∀ k a w, I k a w → c.wp P (Exit.then (fun a' w' => ∃ k', k' < k ∧ I k' a' w') Q) a w) : (Code.loop c).wp P Q a w := by
  classical
  have key : ∀ a w, (∃ k, I k a w) → ∃ k, I k a w ∧ ∀ j, I j a w → k ≤ j := by
    intro a w ⟨k, hk⟩
    induction k using Nat.strongRecOn with
    | _ k ih =>
      by_cases h : ∃ j, j < k ∧ I j a w
      · obtain ⟨j, hj, hI⟩ := h; exact ih j hj hI
      · exact ⟨k, hk, fun j hj => Nat.le_of_not_lt fun x => h ⟨j, x, hj⟩⟩
  let μ : Act → World → Nat := fun a w => if h : ∃ k, I k a w then (key a w h).choose else 0
  have hμ : ∀ a w (h : ∃ k, I k a w), I (μ a w) a w ∧ ∀ j, I j a w → μ a w ≤ j := fun a w h => by
    have := (key a w h).choose_spec
    simp only [μ, h, dif_pos]; exact this
  refine wp_loop (fun a w => ∃ k, I k a w) μ ⟨k, h0⟩ fun a w hI => ?_
  refine wp_mono (round _ a w (hμ a w hI).1) fun e a' w' hq => ?_
  cases e with
  | normal => obtain ⟨k', hk, hI'⟩ := hq; exact ⟨⟨k', hI'⟩, Nat.lt_of_le_of_lt ((hμ a' w' ⟨k', hI'⟩).2 k' hI') hk⟩
  | _ => exact hq
/-- A loop with what is known at its head, said of a state x; each round makes a number less. -/
theorem TC.loop {S : Type} {c : Code} (Inv : S → Prop) (μ : S → Nat) (Lf : S → List (Nat × AV)) (Gf : S → List (Nat × AO)) (x0 : S) (h0 : Inv x0) (hl : allL id L (ls (Gf x0)) (Lf x0)) (hm : allG id Γ (Gf x0))
    (round : ∀ x, Inv x → TC P C c (Exit.then (fun a w => ∃ k', k' < μ x ∧ ∃ y, Inv y ∧ μ y = k' ∧ Reps C (ls (Lf y)) (ls (Gf y)) a w) Q) (ls (Lf x)) (ls (Gf x))) : TC P C (.loop c) Q L Γ := fun a w hr =>
  wp_loop_nat (fun k a w => ∃ y, Inv y ∧ μ y = k ∧ Reps C (ls (Lf y)) (ls (Gf y)) a w) (μ x0) ⟨x0, h0, rfl, reps_weak id (fun _ _ e => e) hl hm hr⟩ fun k a w ⟨x, h1, h2, h3⟩ => by subst h2; exact round x h1 a w h3
theorem TE.round {S : Type} {Inv : S → Prop} {μ : S → Nat} {Lf : S → List (Nat × AV)} {Gf : S → List (Nat × AO)} {k : Nat} (σ : Nat → Nat) (hσ : ∀ x y, σ x = σ y → x = y) (y : S) (hi : Inv y) (hk : μ y < k) (hl : allL σ L (ls (Gf y)) (Lf y)) (hm : allG σ Γ (Gf y)) :
    TE C (Exit.then (fun a w => ∃ k', k' < k ∧ ∃ y, Inv y ∧ μ y = k' ∧ Reps C (ls (Lf y)) (ls (Gf y)) a w) Q .normal) L Γ := fun a w hr => ⟨_, hk, y, hi, rfl, reps_weak σ hσ hl hm hr⟩
/-- Two ids change places. -/
def swp (p q x : Nat) : Nat := if x = p then q else if x = q then p else x
theorem swp_inj (p q : Nat) : ∀ x y, swp p q x = swp p q y → x = y := by
  intro x y h; unfold swp at h; (repeat' split at h) <;> omega
end
end Go.Proofs.YtdjcclcejmeheaaGreat.Pl
end
section
namespace Go.Proofs.YtdjcclcejmeheaaGreat.Pl
set_option linter.unusedVariables false
set_option linter.unusedSimpArgs false
open Go.RowKit
/-- A value without parts elsewhere. -/
def Pl (X : DV) : Prop := ∀ (K K' : Nat → Prop) (w w' : World) (u : Value), X.rep K w u → X.rep K' w' u
theorem pl_v (u : Value) : Pl (.v u) := fun K K' w w' x h => by simpa [DV.rep] using h
theorem pl_list : ∀ {cs : List DV}, (∀ X ∈ cs, Pl X) → ∀ (K K' : Nat → Prop) (w w' : World) (us : List Value), repL K w cs us → repL K' w' cs us
  | [], _, K, K', w, w', us, hr => by unfold repL at hr ⊢; exact hr
  | X :: Xs, h, K, K', w, w', us, hr => by
    unfold repL at hr ⊢
    obtain ⟨u, t, rfl, h1, h2⟩ := hr
    exact ⟨u, t, rfl, h X (by simp) K K' w w' u h1, pl_list (fun Y hY => h Y (by simp [hY])) K K' w w' t h2⟩
theorem pl_ag {cs : List DV} (h : ∀ X ∈ cs, Pl X) : Pl (.ag cs) := fun K K' w w' u hr => by
  unfold DV.rep at hr ⊢
  obtain ⟨us, rfl, h1⟩ := hr
  exact ⟨us, rfl, pl_list h K K' w w' us h1⟩
theorem pl_cons {X : DV} {cs : List DV} (h : Pl X) (k : ∀ Y ∈ cs, Pl Y) : ∀ Y ∈ X :: cs, Pl Y := fun Y hY => (List.mem_cons.1 hY).elim (fun e => e ▸ h) (k Y)
theorem pl_nil : ∀ Y ∈ ([] : List DV), Pl Y := fun Y hY => by cases hY
theorem pl_app {cs ds : List DV} (h : ∀ Y ∈ cs, Pl Y) (k : ∀ Y ∈ ds, Pl Y) : ∀ Y ∈ cs ++ ds, Pl Y := fun Y hY => (List.mem_append.1 hY).elim (h Y) (k Y)
theorem pl_flat {α : Type} {enc : α → List DV} (h : ∀ x, ∀ Y ∈ enc x, Pl Y) (xs : List α) : ∀ Y ∈ xs.flatMap enc, Pl Y := fun Y hY => by
  obtain ⟨x, _, hx⟩ := List.mem_flatMap.1 hY; exact h x Y hx
def noM : Nat → Option (Option Nat) := fun _ => none
theorem noMB {w : World} {K : Nat → Prop} {n : Nat} (b : Nat) : ¬ Cx.MB ⟨w, K, n, noM⟩ b := fun ⟨k, h⟩ => by cases h
/-- What a call's arguments are at its begin. -/
def argL (Xs : List DV) : Lo := fun t => (Xs[t]?).map .d
theorem reps_enter {w : World} {K : Nat → Prop} {n : Nat} {Xs : List DV} {us : List Value} (hK : ∀ b, K b → b < w.heap.size) (hr : repL K w Xs us) (hn : Xs.length ≤ n) :
    Reps ⟨w, K, n, noM⟩ (argL Xs) (fun _ => none) { tmps := us.toArray ++ Array.replicate (n - us.toArray.size) undef, defers := [] } w := by
  have hlen := repL_length hr
  refine ⟨fun _ => none, rfl, by simp; omega, fun b hb => ⟨hK b hb, noMB b⟩, Kept.refl _ _, fun _ _ => rfl, ?_, fun _ _ h => (by cases h), fun _ _ _ h => (by cases h), fun _ _ _ h => (by cases h), fun _ _ _ _ h => (by cases h), fun _ _ h => (by cases h), ?_⟩
  · intro t X g ht hg
    simp only [argL] at ht
    cases hx : Xs[t]? with
    | none => simp [hx] at ht
    | some Y => simp [hx] at ht; subst ht; simp [AV.id] at hg
  · intro t X ht
    simp only [argL] at ht
    cases hx : Xs[t]? with
    | none => simp [hx] at ht
    | some Y =>
      simp [hx] at ht; subst ht
      obtain ⟨u, h1, h2⟩ := repL_get hr hx
      have htl : t < us.length := (List.getElem?_eq_some_iff.1 h1).1
      have : (us.toArray ++ Array.replicate (n - us.toArray.size) undef).getD t undef = u := by
        rw [Array.getD_eq_getD_getElem?, Array.getElem?_append_left (by simpa using htl)]
        simp [h1]
      show DV.rep _ w Y _
      rw [this]
      exact DV.rep_mono (fun b hb hk => ⟨rfl, hb, fun x => hk (x.elim id fun ⟨g, _, h⟩ => by cases h)⟩) Y u h2
theorem calls_enter {P : Program} {f : FuncId} {fn : Func} {c : Code} {w : World} {K : Nat → Prop} {Xs : List DV} {us : List Value} {R : Ending → World → Prop} (hf : P.funcs[f]? = some fn) (hb : fn.body = some c) {n : Nat} (hnt : fn.ntmps = n) (hn : Xs.length ≤ n) (hK : ∀ b, K b → b < w.heap.size) (hr : repL K w Xs us)
    (h : TC P ⟨w, K, n, noM⟩ c (bodyPost P fn R) (argL Xs) (fun _ => none)) : Calls P f us.toArray w R := by
  subst hnt
  exact calls_of_wp hf hb (h _ _ (reps_enter hK hr hn))
section
variable {P : Program} {f : FuncId} {fn : Func} {c : Code} {Xs : List DV}
theorem PF.enter {Y : DV} (hf : P.funcs[f]? = some fn) (hb : fn.body = some c) {nt : Nat} (hnt : fn.ntmps = nt) (hn : Nat.ble Xs.length nt = true)
    (h : ∀ w, TC P ⟨w, noK, nt, noM⟩ c (bodyPost P fn fun e w' => ∃ u, e = .returned u ∧ Below w.heap.size w w' ∧ ∀ K, (∀ b, K b → b < w.heap.size) → Y.rep K w' u) (argL Xs) (fun _ => none)) : PF P f Xs Y := fun w us hr =>
  calls_enter hf hb hnt (by simpa using hn) (fun b hb => hb.elim) hr (h w)
theorem PC.enter {Y : DV} (hf : P.funcs[f]? = some fn) (hb : fn.body = some c) {nt : Nat} (hnt : fn.ntmps = nt) (hn : Nat.ble Xs.length nt = true)
    (h : ∀ w K, TC P ⟨w, K, nt, noM⟩ c (bodyPost P fn fun e w' => ∃ u, e = .returned u ∧ Below w.heap.size w w' ∧ Y.rep K w' u) (argL Xs) (fun _ => none)) : PC P f Xs Y := fun w K us hK hr =>
  calls_enter hf hb hnt (by simpa using hn) hK hr (h w K)
theorem PO.enter {e sz n : Nat} {cs : List DV} (hf : P.funcs[f]? = some fn) (hb : fn.body = some c) {nt : Nat} (hnt : fn.ntmps = nt) (hn : Nat.ble Xs.length nt = true)
    (h : ∀ w, TC P ⟨w, noK, nt, noM⟩ c (bodyPost P fn fun r w' => ∃ u vs, r = .returned u ∧ Below w.heap.size w w' ∧ w'.ownsRow w.heap.size e sz u n vs ∧ (∀ x ∈ vs, x.oneCell' = true) ∧ ∀ K, (∀ b, K b → b < w.heap.size ∨ u.ownBlock = some b) → repL K w' cs vs) (argL Xs) (fun _ => none)) : PO P f Xs e sz n cs := fun w us hr =>
  calls_enter hf hb hnt (by simpa using hn) (fun b hb => hb.elim) hr (h w)
end
def resA (P : Program) (L : Lo) (Γ : Ga) : ResultVar → Option AV
  | .tmp t => L t
  | .cell a t => match L a with
    | some (.ptr g 0) => match Γ g with
      | some (.box _ cs) => match tyk P t with
        | some none => (cs[0]?).map .d
        | some (some n) => bif Nat.beq n cs.length then some (.d (.ag cs)) else none
        | none => none
      | _ => none
    | _ => none
def resL (P : Program) (L : Lo) (Γ : Ga) : List ResultVar → Option (List AV)
  | [] => some []
  | r :: rs => match resA P L Γ r, resL P L Γ rs with
    | some A, some l => some (A :: l)
    | _, _ => none
def repsA (ρ : Rho) (K : Nat → Prop) (B : Nat) (w : World) : List AV → List Value → Prop
  | [], us => us = []
  | A :: r, us => ∃ u t, us = u :: t ∧ A.rep ρ K B w u ∧ repsA ρ K B w r t
section
variable {P : Program} {C : Cx} {L : Lo} {Γ : Ga} {ρ : Rho} {a : Act} {w : World}
def oneRes (tmps : Array Value) : ResultVar → Sem Value
  | .tmp t => pure (tmps.getD t undef)
  | .cell a t => do loadVar t (← asAddr (tmps.getD a undef))
theorem resA_run (h : RepsAt C ρ L Γ a w) {r : ResultVar} {A : AV} (hr : resA P L Γ r = some A) : ∃ u, (oneRes a.tmps r).run P w = .ok u w ∧ A.rep ρ (KK C.K0 ρ Γ) C.w0.heap.size w u := by
  cases r with
  | tmp t => exact ⟨_, rfl, h.slot t A hr⟩
  | cell t ty =>
    simp only [resA] at hr
    split at hr
    case h_2 => cases hr
    rename_i g hL
    split at hr
    case h_2 => cases hr
    rename_i T cs hg
    obtain ⟨ob, h1⟩ := own_block h hg (o := .box T cs) rfl
    obtain ⟨b, rfl, hv⟩ := h.slot t _ hL ob h1
    have hcells := own_cells h hg (o := .box T cs) rfl h1
    split at hr
    · rename_i ht
      cases hx : cs[0]? with
      | none => simp [hx] at hr
      | some X =>
        simp [hx] at hr; subst hr
        obtain ⟨u, h3, _, h5⟩ := repAt_get hcells hx
        exact ⟨u, by simpa [oneRes, hv, asAddr, Instr.loadAt, Instr.sureAddr] using load_one (P := P) ht h3, h5⟩
    · rename_i n ht
      cases hb : Nat.beq n cs.length with
      | false => simp [hb] at hr
      | true =>
        simp [hb] at hr; subst hr
        rw [Nat.beq_eq] at hb; subst hb
        obtain ⟨us, h4, h5, h6⟩ := repAt_vals hcells
        have hlen := repL_length h4
        refine ⟨.agg us.toArray, by simpa [oneRes, hv, asAddr, Instr.loadAt, Instr.sureAddr] using load_many (P := P) (us := us) (by rw [hlen]; exact ht) h5, ?_⟩
        show DV.rep _ _ _ _
        unfold DV.rep
        exact ⟨us, rfl, h4⟩
    · cases hr
theorem resL_run (h : RepsAt C ρ L Γ a w) : ∀ {rs : List ResultVar} {As : List AV}, resL P L Γ rs = some As → ∃ us, (rs.mapM (oneRes a.tmps)).run P w = .ok us w ∧ repsA ρ (KK C.K0 ρ Γ) C.w0.heap.size w As us
  | [], As, hr => by simp only [resL, Option.some.injEq] at hr; subst hr; exact ⟨[], by simp, rfl⟩
  | r :: rs, As, hr => by
    unfold resL at hr
    cases h1 : resA P L Γ r with
    | none => simp [h1] at hr
    | some A =>
      cases h2 : resL P L Γ rs with
      | none => simp [h1, h2] at hr
      | some l =>
        simp only [h1, h2, Option.some.injEq] at hr
        subst hr
        obtain ⟨u, k1, k2⟩ := resA_run h h1
        obtain ⟨us, k3, k4⟩ := resL_run h h2
        exact ⟨u :: us, by simp [List.mapM_cons, k1, k3], u, us, rfl, k2, k4⟩
theorem results_run {fn : Func} {rs : List ResultVar} (hf : fn.results = rs.toArray) (us : List Value) (h : (rs.mapM (oneRes a.tmps)).run P w = .ok us w) : (results fn a.tmps).run P w = .ok (match us with | [u] => u | _ => .tuple us.toArray) w := by
  have : (fn.results.mapM (oneRes a.tmps)).run P w = .ok us.toArray w := by
    rw [hf, List.mapM_toArray]
    simp [h]
  unfold results
  show (do let vs ← fn.results.mapM (oneRes a.tmps); pure (if h : vs.size = 1 then vs[0] else Value.tuple vs)).run P w = _
  simp only [Sem.run_bind, this, Result.andThen_ok, Sem.run_pure]
  congr 1
  match us with
  | [] => rfl
  | [u] => rfl
  | u :: v :: r => simp
/-- A result that is new, or has no parts elsewhere. -/
def okF : AV → Prop
  | .f _ => True
  | .d X => Pl X
  | _ => False
theorem fresh_rep {A : AV} {X : DV} {u : Value} (h : RepsAt C ρ L Γ a w) (hA : A.dv = some X) (ho : okF A) (hr : A.rep ρ (KK C.K0 ρ Γ) C.w0.heap.size w u) (K : Nat → Prop) (hK : ∀ b, K b → b < C.w0.heap.size) : X.rep K w u := by
  cases A with
  | d Y => simp only [AV.dv, Option.some.injEq] at hA; subst hA; exact ho _ _ _ _ _ hr
  | f Y => simp only [AV.dv, Option.some.injEq] at hA; subst hA; exact DV.rep_mono (fun b hb hk => ⟨rfl, hb, fun x => hk (.inr (hK b x))⟩) _ _ hr
  | _ => simp [AV.dv] at hA
theorem TE.retf {fn : Func} {r : ResultVar} {A : AV} {Y : DV} {w0 : World} {n : Nat} {L : Lo} {Γ : Ga} (hf : fn.results = #[r]) (hr : resA P L Γ r = some A) (hA : A.dv = some Y) (ho : okF A) :
    TE ⟨w0, noK, n, noM⟩ (bodyPost P fn (fun e w' => ∃ u, e = .returned u ∧ Below w0.heap.size w0 w' ∧ ∀ K, (∀ b, K b → b < w0.heap.size) → Y.rep K w' u) .ret) L Γ := fun a w ⟨ρ, h⟩ => by
  obtain ⟨us, k1, k2⟩ := resL_run (P := P) h (rs := [r]) (As := [A]) (by simp [resL, hr])
  obtain ⟨u, t, rfl, k3, k4⟩ := k2
  cases k4
  exact ⟨h.df, _, results_run (rs := [r]) hf _ k1, u, rfl, h.fr.below noMB, fun K hK => fresh_rep h hA ho k3 K hK⟩
def dvs : List AV → Option (List DV)
  | [] => some []
  | A :: r => match A.dv, dvs r with
    | some X, some l => some (X :: l)
    | _, _ => none
theorem dvs_rep {J : Nat → Prop} : ∀ {As : List AV} (hw : ∀ A ∈ As, ∀ X u, A.dv = some X → A.rep ρ (KK C.K0 ρ Γ) C.w0.heap.size w u → X.rep J w u) {Ys : List DV} {us : List Value}, dvs As = some Ys → repsA ρ (KK C.K0 ρ Γ) C.w0.heap.size w As us → repL J w Ys us
  | [], hw, Ys, us, h1, h2 => by simp only [dvs, Option.some.injEq] at h1; subst h1; unfold repsA at h2; subst h2; simp [repL]
  | A :: r, hw, Ys, us, h1, h2 => by
    unfold dvs at h1
    cases hA : A.dv with
    | none => simp [hA] at h1
    | some X =>
      cases hl : dvs r with
      | none => simp [hA, hl] at h1
      | some l =>
        simp only [hA, hl, Option.some.injEq] at h1; subst h1
        obtain ⟨u, t, rfl, k1, k2⟩ := h2
        unfold repL
        exact ⟨u, t, rfl, hw A (by simp) X u hA k1, dvs_rep (fun B hB => hw B (by simp [hB])) hl k2⟩
/-- Every one of these. -/
def allA (p : AV → Prop) : List AV → Prop
  | [] => True
  | A :: r => p A ∧ allA p r
theorem allA_mem {p : AV → Prop} : ∀ {As : List AV}, allA p As → ∀ A ∈ As, p A
  | [], _, A, h => by cases h
  | B :: r, hp, A, h => (List.mem_cons.1 h).elim (fun e => e ▸ hp.1) (allA_mem hp.2 A)
theorem TE.rettf {fn : Func} {rs : List ResultVar} {A1 A2 : AV} {As : List AV} {Ys : List DV} {w0 : World} {n : Nat} {L : Lo} {Γ : Ga} (hf : fn.results = rs.toArray) (hr : resL P L Γ rs = some (A1 :: A2 :: As)) (hA : dvs (A1 :: A2 :: As) = some Ys) (ho : allA okF (A1 :: A2 :: As)) :
    TE ⟨w0, noK, n, noM⟩ (bodyPost P fn (fun e w' => ∃ u, e = .returned u ∧ Below w0.heap.size w0 w' ∧ ∀ K, (∀ b, K b → b < w0.heap.size) → (DV.tp Ys).rep K w' u) .ret) L Γ := fun a w ⟨ρ, h⟩ => by
  obtain ⟨us, k1, k2⟩ := resL_run (P := P) h hr
  have k2' := k2
  obtain ⟨u, _, rfl, _, v, t, rfl, _, _⟩ := k2'
  refine ⟨h.df, _, results_run hf _ k1, _, rfl, h.fr.below noMB, fun K hK => ?_⟩
  unfold DV.rep
  exact ⟨u :: v :: t, rfl, dvs_rep (fun A hA' X x hX hx => fresh_rep h hX (allA_mem ho A hA') hx K hK) hA k2⟩
theorem keep_rep {A : AV} {X : DV} {u : Value} (h : RepsAt C ρ L Γ a w) (hA : A.dv = some X) (hr : A.rep ρ (KK C.K0 ρ Γ) C.w0.heap.size w u) : X.rep C.K0 w u :=
  DV.rep_mono (fun b hb hk => ⟨rfl, hb, fun x => hk (.inl x)⟩) _ _ (dv_rep hr hA)
theorem TE.retc {fn : Func} {r : ResultVar} {A : AV} {Y : DV} {w0 : World} {K : Nat → Prop} {n : Nat} {L : Lo} {Γ : Ga} (hf : fn.results = #[r]) (hr : resA P L Γ r = some A) (hA : A.dv = some Y) :
    TE ⟨w0, K, n, noM⟩ (bodyPost P fn (fun e w' => ∃ u, e = .returned u ∧ Below w0.heap.size w0 w' ∧ Y.rep K w' u) .ret) L Γ := fun a w ⟨ρ, h⟩ => by
  obtain ⟨us, k1, k2⟩ := resL_run (P := P) h (rs := [r]) (As := [A]) (by simp [resL, hr])
  obtain ⟨u, t, rfl, k3, k4⟩ := k2
  cases k4
  exact ⟨h.df, _, results_run (rs := [r]) hf _ k1, u, rfl, h.fr.below noMB, keep_rep h hA k3⟩
theorem TE.rettc {fn : Func} {rs : List ResultVar} {A1 A2 : AV} {As : List AV} {Ys : List DV} {w0 : World} {K : Nat → Prop} {n : Nat} {L : Lo} {Γ : Ga} (hf : fn.results = rs.toArray) (hr : resL P L Γ rs = some (A1 :: A2 :: As)) (hA : dvs (A1 :: A2 :: As) = some Ys) :
    TE ⟨w0, K, n, noM⟩ (bodyPost P fn (fun e w' => ∃ u, e = .returned u ∧ Below w0.heap.size w0 w' ∧ (DV.tp Ys).rep K w' u) .ret) L Γ := fun a w ⟨ρ, h⟩ => by
  obtain ⟨us, k1, k2⟩ := resL_run (P := P) h hr
  have k2' := k2
  obtain ⟨u, _, rfl, _, v, t, rfl, _, _⟩ := k2'
  refine ⟨h.df, _, results_run hf _ k1, _, rfl, h.fr.below noMB, ?_⟩
  unfold DV.rep
  exact ⟨u :: v :: t, rfl, dvs_rep (fun A hA' X x hX hx => keep_rep h hX hx) hA k2⟩
/-- A row of one's own is handed back: as a new slice. -/
theorem TE.retof {fn : Func} {t e sz m g : Nat} {cs : List DV} {w0 : World} {n : Nat} {L : Lo} {Γ : Ga} (hf : fn.results = #[.tmp t]) (hr : L t = some (.ow g m sz)) (hg : Γ g = some (.row e sz cs)) (hl : cs.length = m * sz) (hsz : 0 < sz) (hp : ∀ X ∈ cs, Pl X) :
    TE ⟨w0, noK, n, noM⟩ (bodyPost P fn (fun r w' => ∃ u vs, r = .returned u ∧ Below w0.heap.size w0 w' ∧ w'.ownsRow w0.heap.size e sz u m vs ∧ (∀ x ∈ vs, x.oneCell' = true) ∧ ∀ K, (∀ b, K b → b < w0.heap.size ∨ u.ownBlock = some b) → repL K w' cs vs) .ret) L Γ := fun a w ⟨ρ, h⟩ => by
  obtain ⟨ob, h1, h2⟩ := h.obj g _ hg (by simp)
  obtain ⟨us, k1, k2, k3, k4⟩ := row_owns (B := w0.heap.size) h2 (h.slot t _ hr ob h1) hl hsz (fun b e => h.new g b _ hg (by simp) rfl (by rw [h1, e]))
  refine ⟨h.df, _, results_run (rs := [.tmp t]) hf [a.tmps.getD t undef] (by simp [List.mapM_cons, oneRes]), _, us, rfl, h.fr.below noMB, k1, k4, fun K _ => pl_list hp _ _ _ _ _ k2⟩
end
end Go.Proofs.YtdjcclcejmeheaaGreat.Pl
end

