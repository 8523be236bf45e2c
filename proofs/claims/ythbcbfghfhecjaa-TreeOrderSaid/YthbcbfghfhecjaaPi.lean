/-
  A logic of walks: code: sequences, tests, blocks, loops.
-/
import Derived.Test.YthbcbfghfhecjaaPh
namespace Go.Proofs.Ythbcbfghfhecjaa.Pl
set_option linter.unusedVariables false
set_option linter.unusedSimpArgs false
open Go.RowKit

def TL (P : Program) (C : Cx) (ops : Array Oper) (Q : Exit → Act → World → Prop) (rest : List Oper) (L : Lo) (Γ : Ga) : Prop := ∀ a w, Reps C L Γ a w → wpList P ops Q rest a w
def TC (P : Program) (C : Cx) (c : Code) (Q : Exit → Act → World → Prop) (L : Lo) (Γ : Ga) : Prop := ∀ a w, Reps C L Γ a w → c.wp P Q a w
def TE (C : Cx) (R : Act → World → Prop) (L : Lo) (Γ : Ga) : Prop := ∀ a w, Reps C L Γ a w → R a w
section
variable {P : Program} {C : Cx} {L L' : Lo} {Γ Γ' : Ga} {ops : Array Oper} {Q : Exit → Act → World → Prop}
theorem wp_weak {o : Oper} {a : Act} {w : World} {N N' : Act → World → Prop} (h : o.wp P a w N (fun _ _ _ => False)) (hn : ∀ a w, N a w → N' a w) : o.wp P a w N' Q := by
  unfold Oper.wp at *
  generalize (execOp a.eval o).run P w = r at *
  cases r with
  | ok n w' =>
    cases n <;> simp only [Oper.upon] at h ⊢ <;>
      first
        | exact hn _ _ h
        | exact Calls.mono h (fun e w'' he => by cases e <;> first | exact hn _ _ he | exact he.elim | (obtain ⟨_, _, x⟩ := he; exact x.elim))
        | exact Rows.mono h (fun _ _ he => hn _ _ he)
  | halt x w' => cases x <;> simp only [Oper.upon] at h
theorem TL.step {o : Oper} {rest : List Oper} (hg : o.guard = none) (h : OT P C o L Γ L' Γ') (k : TL P C ops Q rest L' Γ') : TL P C ops Q (o :: rest) L Γ := fun a w hr => by
  unfold wpList
  have : Region.wanted o (yielded ops a.tmps) = true := by unfold Region.wanted; rw [hg]
  rw [if_pos this]
  exact .inl (wp_weak (h a w hr) k)
theorem wanted_of {ρ : Rho} {a : Act} {w : World} (h : RepsAt C ρ L Γ a w) {o : Oper} {j t : Nat} {want b : Bool} (hg : o.guard = some (j, want)) (hj : (ops[j]?).bind (·.dst) = some t) (ht : evv L (.tmp t) = some (.bool b)) (hn : t < C.n) : Region.wanted o (yielded ops a.tmps) = (b == want) := by
  have hv : a.tmps[t]? = some (.bool b) := by
    have h1 := evv_eval h ht
    simp only [Act.eval, Array.getD_eq_getD_getElem?] at h1
    have h2 : t < a.tmps.size := by rw [h.sz]; exact hn
    rw [Array.getElem?_eq_getElem h2] at h1 ⊢
    simpa using h1
  unfold Region.wanted
  rw [hg]
  simp only [yielded, hj, Option.bind_some, hv]
  cases b <;> cases want <;> rfl
/-- An operation behind a guard that holds; behind one that does not. -/
theorem TL.go {o : Oper} {rest : List Oper} (t : Nat) {j : Nat} {b : Bool} (hg : o.guard = some (j, b)) (hj : (ops[j]?).bind (·.dst) = some t) (ht : evv L (.tmp t) = some (.bool b)) (hn : Nat.blt t C.n = true) (h : OT P C o L Γ L' Γ') (k : TL P C ops Q rest L' Γ') : TL P C ops Q (o :: rest) L Γ := fun a w hr => by
  obtain ⟨ρ, hr'⟩ := hr
  unfold wpList
  rw [if_pos (by rw [wanted_of hr' hg hj ht (by simpa using hn)]; simp)]
  exact .inl (wp_weak (h a w ⟨ρ, hr'⟩) k)
theorem TL.no {o : Oper} {rest : List Oper} (t : Nat) {d j : Nat} {b b' : Bool} (hd : o.dst = some d) (hg : o.guard = some (j, b)) (hj : (ops[j]?).bind (·.dst) = some t) (ht : evv L (.tmp t) = some (.bool b')) (hb : (b' == b) = false) (hn : Nat.blt t C.n = true) (hn' : Nat.blt d C.n = true) (k : TL P C ops Q rest (upd L d (.f (.v undef))) Γ) : TL P C ops Q (o :: rest) L Γ := fun a w hr => by
  obtain ⟨ρ, hr'⟩ := hr
  unfold wpList
  rw [if_neg (by rw [wanted_of hr' hg hj ht (by simpa using hn), hb]; simp), hd]
  exact k _ _ ⟨ρ, hr'.put (by simpa using hn') rfl (fun g hg => by simp [AV.id] at hg)⟩
theorem wanted_undef {ρ : Rho} {a : Act} {w : World} (h : RepsAt C ρ L Γ a w) {o : Oper} {j t : Nat} {want : Bool} (hg : o.guard = some (j, want)) (hj : (ops[j]?).bind (·.dst) = some t) (ht : evv L (.tmp t) = some undef) : Region.wanted o (yielded ops a.tmps) = false := by
  have h1 := evv_eval h ht
  simp only [Act.eval, Array.getD_eq_getD_getElem?] at h1
  unfold Region.wanted
  rw [hg]
  simp only [yielded, hj, Option.bind_some]
  cases hv : a.tmps[t]? with
  | none => rfl
  | some v =>
    rw [hv] at h1
    simp only [Option.getD_some] at h1
    subst h1
    rfl
theorem TL.no0 {o : Oper} {rest : List Oper} (t : Nat) {d j : Nat} {b : Bool} (hd : o.dst = some d) (hg : o.guard = some (j, b)) (hj : (ops[j]?).bind (·.dst) = some t) (ht : evv L (.tmp t) = some undef) (hn' : Nat.blt d C.n = true) (k : TL P C ops Q rest (upd L d (.f (.v undef))) Γ) : TL P C ops Q (o :: rest) L Γ := fun a w hr => by
  obtain ⟨ρ, hr'⟩ := hr
  unfold wpList
  rw [if_neg (by rw [wanted_undef hr' hg hj ht]; simp), hd]
  exact k _ _ ⟨ρ, hr'.put (by simpa using hn') rfl (fun g hg => by simp [AV.id] at hg)⟩
theorem TL.nil (h : TE C (Q .normal) L Γ) : TL P C ops Q [] L Γ := fun a w hr => h a w hr
/-- A slot's value in another spelling. -/
theorem TL.set {rest : List Oper} (t : Nat) {X : AV} (Y : AV) (ht : L t = some X) (h : X = Y) (k : TL P C ops Q rest (upd L t Y) Γ) : TL P C ops Q rest L Γ := fun a w ⟨ρ, hr⟩ => k a w ⟨ρ, by
  subst h
  have : upd L t X = L := by funext s; by_cases e : s = t; · subst e; rw [upd_same, ht]
                             · rw [upd_other _ _ _ _ e]
  rw [this]; exact hr⟩
theorem TL.case {rest : List Oper} (t : Nat) {b : Bool} (ht : L t = some (.f (.v (.bool b)))) (h1 : b = true → TL P C ops Q rest (upd L t (.f (.v (.bool true)))) Γ) (h2 : b = false → TL P C ops Q rest (upd L t (.f (.v (.bool false)))) Γ) : TL P C ops Q rest L Γ := by
  cases b with
  | true => exact TL.set t _ ht rfl (h1 rfl)
  | false => exact TL.set t _ ht rfl (h2 rfl)
theorem TC.region {id : Nat} {l : List Oper} (h : TL P C l.toArray Q l L Γ) : TC P C (.region id l.toArray false) Q L Γ := fun a w hr => wp_region_lit (h a w hr)
theorem TC.seq {x y : Code} (h : TC P C x (Exit.then (fun a w => y.wp P Q a w) Q) L Γ) : TC P C (.seq x y) Q L Γ := fun a w hr => wp_seq (h a w hr)
theorem TE.next {y : Code} (h : TC P C y Q L Γ) : TE C (Exit.then (fun a w => y.wp P Q a w) Q .normal) L Γ := h
theorem TC.cond {c : Operand} {x y : Code} {b : Bool} (hc : evv L c = some (.bool b)) (h1 : b = true → TC P C x Q L Γ) (h2 : b = false → TC P C y Q L Γ) : TC P C (.cond c x y) Q L Γ := fun a w hr => by
  obtain ⟨ρ, hr'⟩ := hr
  exact wp_cond_split (evv_eval hr' hc) (fun e => h1 e a w ⟨ρ, hr'⟩) (fun e => h2 e a w ⟨ρ, hr'⟩)
theorem TC.block {id : Nat} {c : Code} (h : TC P C c (Exit.inBlock id Q) L Γ) : TC P C (.block id c) Q L Γ := fun a w hr => wp_block (h a w hr)
theorem TC.exit {id : Nat} (h : TE C (Q (.exit id)) L Γ) : TC P C (.exit id) Q L Γ := fun a w hr => wp_exit (h a w hr)
theorem TC.ret (h : TE C (Q .ret) L Γ) : TC P C .ret Q L Γ := fun a w hr => wp_ret (h a w hr)
theorem TC.skip (h : TE C (Q .normal) L Γ) : TC P C .skip Q L Γ := fun a w hr => wp_skip (h a w hr)
theorem TE.here {id : Nat} (h : TE C (Q .normal) L Γ) : TE C (Exit.inBlock id Q (.exit id)) L Γ := fun a w hr => by
  show (if id = id then _ else _)
  rw [if_pos rfl]; exact h a w hr

theorem TE.pass {K : Act → World → Prop} {i : Nat} (h : TE C (Q (.exit i)) L Γ) : TE C (Exit.then K Q (.exit i)) L Γ := h
theorem TE.passr {K : Act → World → Prop} (h : TE C (Q .ret) L Γ) : TE C (Exit.then K Q .ret) L Γ := h
theorem TE.blkr {i : Nat} (h : TE C (Q .ret) L Γ) : TE C (Exit.inBlock i Q .ret) L Γ := h
theorem TE.blk {i : Nat} (h : TE C (Q .normal) L Γ) : TE C (Exit.inBlock i Q .normal) L Γ := h
theorem TE.other {i j : Nat} (hne : Nat.beq j i = false) (h : TE C (Q (.exit j)) L Γ) : TE C (Exit.inBlock i Q (.exit j)) L Γ := fun a w hr => by
  show (if j = i then _ else _)
  rw [if_neg (by rw [← Nat.beq_eq, hne]; simp)]; exact h a w hr

/-! What is forgotten. -/
def okid (Γ : Ga) (X : AV) : Bool := match X.id with | none => true | some g => (Γ g).isSome
/-- The ids of a renamed value. -/
def AV.ren (σ : Nat → Nat) : AV → AV
  | .ptr g o => .ptr (σ g) o
  | .bs g o n s => .bs (σ g) o n s
  | .ow g n s => .ow (σ g) n s
  | X => X
def allL (σ : Nat → Nat) (L : Lo) (Γ' : Ga) : List (Nat × AV) → Prop
  | [] => True
  | (t, X) :: r => (L t = some (X.ren σ) ∧ okid Γ' X = true) ∧ allL σ L Γ' r
def allG (σ : Nat → Nat) (Γ : Ga) : List (Nat × AO) → Prop
  | [] => True
  | (g, o) :: r => (o = .dead ∨ Γ (σ g) = some o) ∧ allG σ Γ r
theorem allL_get {σ : Nat → Nat} {Γ' : Ga} : ∀ {l : List (Nat × AV)} {t : Nat} {X : AV}, allL σ L Γ' l → ls l t = some X → L t = some (X.ren σ) ∧ okid Γ' X = true
  | [], t, X, _, h => by simp [ls] at h
  | (s, Y) :: r, t, X, hl, h => by
    unfold allL at hl
    unfold ls at h
    cases hb : Nat.beq t s with
    | true => rw [hb, cond_true] at h; injection h with h; subst h; rw [Nat.beq_eq] at hb; subst hb; exact hl.1
    | false => rw [hb, cond_false] at h; exact allL_get hl.2 h
theorem allG_get {σ : Nat → Nat} : ∀ {l : List (Nat × AO)} {g : Nat} {o : AO}, allG σ Γ l → ls l g = some o → o = .dead ∨ Γ (σ g) = some o
  | [], t, X, _, h => by simp [ls] at h
  | (s, Y) :: r, t, X, hl, h => by
    unfold allG at hl
    unfold ls at h
    cases hb : Nat.beq t s with
    | true => rw [hb, cond_true] at h; injection h with h; subst h; rw [Nat.beq_eq] at hb; subst hb; exact hl.1
    | false => rw [hb, cond_false] at h; exact allG_get hl.2 h
theorem reps_weak {a : Act} {w : World} (σ : Nat → Nat) (hσ : ∀ x y, σ x = σ y → x = y) {l : List (Nat × AV)} {m : List (Nat × AO)} (hl : allL σ L (ls m) l) (hm : allG σ Γ m) (h : Reps C L Γ a w) : Reps C (ls l) (ls m) a w := by
  obtain ⟨ρ, h⟩ := h
  classical
  let ρ' : Rho := fun g => if live (ls m) g then ρ (σ g) else none
  have hlv : ∀ g, live (ls m) g → live Γ (σ g) := fun g ⟨o, h1, h2⟩ => ⟨o, (allG_get hm h1).resolve_left h2, h2⟩
  have r1 : ∀ g x, ρ' g = some x → live (ls m) g ∧ ρ (σ g) = some x := fun g x hx => by
    by_cases hg : live (ls m) g
    · exact ⟨hg, by simpa [ρ', hg] using hx⟩
    · simp [ρ', hg] at hx
  have hk : Keeps (KK C.K0 ρ Γ) (KK C.K0 ρ' (ls m)) w w := fun b hb hn => ⟨rfl, hb, fun x => hn (x.elim .inl fun ⟨g, h1, h2⟩ => .inr ⟨σ g, hlv g h1, (r1 g _ h2).2⟩)⟩
  refine ⟨ρ', h.df, h.sz, h.k0, h.fr, fun g hg => by simp [ρ', hg], fun t X g ht hg => ?_, fun g b hb => h.lt (σ g) b (r1 g _ hb).2, fun g g' b h1 h2 _ _ => hσ _ _ (h.inj _ _ b (r1 g _ h1).2 (r1 g' _ h2).2 (hlv g (r1 g _ h1).1) (hlv g' (r1 g' _ h2).1)),
    fun g b o h1 h2 h3 hb => h.new (σ g) b o ((allG_get hm h1).resolve_left h2) h2 h3 (r1 g _ hb).2, fun g o k ob h1 h3 hb => h.len (σ g) o k ob ((allG_get hm h1).resolve_left (by rintro rfl; simp [AO.key] at h3)) h3 (r1 g _ hb).2, fun g o h1 h2 => ?_, fun t X ht => ?_⟩
  · have := (allL_get hl ht).2
    unfold okid at this
    rw [hg] at this
    intro e; simp [e] at this
  · obtain ⟨ob, h3, h4⟩ := h.obj (σ g) o ((allG_get hm h1).resolve_left h2) h2
    exact ⟨ob, by simp only [ρ']; rw [if_pos ⟨o, h1, h2⟩]; exact h3, AO.rep_mono hk (fun _ _ => rfl) o h4⟩
  · have hs := h.slot t _ (allL_get hl ht).1
    cases X with
    | d X => exact DV.rep_mono hk X _ hs
    | f X => exact DV.rep_mono (hk.widen (J := fun b => b < C.w0.heap.size)) X _ hs
    | ptr g o => exact fun ob hob => hs ob (r1 g _ hob).2
    | bs g o n s => exact fun ob hob => hs ob (r1 g _ hob).2
    | ow g n s => exact fun ob hob => hs ob (r1 g _ hob).2
theorem TC.weak {c : Code} (l : List (Nat × AV)) (m : List (Nat × AO)) (hl : allL id L (ls m) l) (hm : allG id Γ m) (h : TC P C c Q (ls l) (ls m)) : TC P C c Q L Γ := fun a w hr => h a w (reps_weak id (fun _ _ e => e) hl hm hr)
theorem TE.weak {R : Act → World → Prop} (l : List (Nat × AV)) (m : List (Nat × AO)) (hl : allL id L (ls m) l) (hm : allG id Γ m) (h : TE C R (ls l) (ls m)) : TE C R L Γ := fun a w hr => h a w (reps_weak id (fun _ _ e => e) hl hm hr)

/-! Loops. -/
theorem wp_loop_nat {c : Code} (I : Nat → Act → World → Prop) {a : Act} {w : World} (k : Nat) (h0 : I k a w) (round : ∀ k a w, I k a w → c.wp P (Exit.then (fun a' w' => ∃ k', k' < k ∧ I k' a' w') Q) a w) : (Code.loop c).wp P Q a w := by
  classical
  have key : ∀ a w, (∃ k, I k a w) → ∃ k, I k a w ∧ ∀ j, I j a w → k ≤ j := by
    intro a w ⟨k, hk⟩
    induction k using Nat.strongRecOn with
    | _ k ih =>
      by_cases h : ∃ j, j < k ∧ I j a w
      · obtain ⟨j, hj, hI⟩ := h; exact ih j hj hI
      · exact ⟨k, hk, fun j hj => Nat.le_of_not_lt fun x => h ⟨j, x, hj⟩⟩
  let μ : Act → World → Nat := fun a w => if h : ∃ k, I k a w then (key a w h).choose else 0
  have hμ : ∀ a w (h : ∃ k, I k a w), I (μ a w) a w ∧ ∀ j, I j a w → μ a w ≤ j := fun a w h => by
    have := (key a w h).choose_spec
    simp only [μ, h, dif_pos]; exact this
  refine wp_loop (fun a w => ∃ k, I k a w) μ ⟨k, h0⟩ fun a w hI => ?_
  refine wp_mono (round _ a w (hμ a w hI).1) fun e a' w' hq => ?_
  cases e with
  | normal => obtain ⟨k', hk, hI'⟩ := hq; exact ⟨⟨k', hI'⟩, Nat.lt_of_le_of_lt ((hμ a' w' ⟨k', hI'⟩).2 k' hI') hk⟩
  | _ => exact hq
/-- A loop with what is known at its head, said of a state x; each round makes a number less. -/
theorem TC.loop {S : Type} {c : Code} (Inv : S → Prop) (μ : S → Nat) (Lf : S → List (Nat × AV)) (Gf : S → List (Nat × AO)) (x0 : S) (h0 : Inv x0) (hl : allL id L (ls (Gf x0)) (Lf x0)) (hm : allG id Γ (Gf x0))
    (round : ∀ x, Inv x → TC P C c (Exit.then (fun a w => ∃ k', k' < μ x ∧ ∃ y, Inv y ∧ μ y = k' ∧ Reps C (ls (Lf y)) (ls (Gf y)) a w) Q) (ls (Lf x)) (ls (Gf x))) : TC P C (.loop c) Q L Γ := fun a w hr =>
  wp_loop_nat (fun k a w => ∃ y, Inv y ∧ μ y = k ∧ Reps C (ls (Lf y)) (ls (Gf y)) a w) (μ x0) ⟨x0, h0, rfl, reps_weak id (fun _ _ e => e) hl hm hr⟩ fun k a w ⟨x, h1, h2, h3⟩ => by subst h2; exact round x h1 a w h3
theorem TE.round {S : Type} {Inv : S → Prop} {μ : S → Nat} {Lf : S → List (Nat × AV)} {Gf : S → List (Nat × AO)} {k : Nat} (σ : Nat → Nat) (hσ : ∀ x y, σ x = σ y → x = y) (y : S) (hi : Inv y) (hk : μ y < k) (hl : allL σ L (ls (Gf y)) (Lf y)) (hm : allG σ Γ (Gf y)) :
    TE C (Exit.then (fun a w => ∃ k', k' < k ∧ ∃ y, Inv y ∧ μ y = k' ∧ Reps C (ls (Lf y)) (ls (Gf y)) a w) Q .normal) L Γ := fun a w hr => ⟨_, hk, y, hi, rfl, reps_weak σ hσ hl hm hr⟩
/-- Two ids change places. -/
def swp (p q x : Nat) : Nat := if x = p then q else if x = q then p else x
theorem swp_inj (p q : Nat) : ∀ x y, swp p q x = swp p q y → x = y := by
  intro x y h; unfold swp at h; (repeat' split at h) <;> omega
end
end Go.Proofs.Ythbcbfghfhecjaa.Pl
