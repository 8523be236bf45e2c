import Derived.Test.YtmjokdhhniblgaaGreatYQ3
/-
  Directories: what is known, looked up, added: the values.
-/
namespace Go.Proofs.YtmjokdhhniblgaaGreat
set_option linter.unusedVariables false
set_option linter.unusedSimpArgs false
open Go.RowKit Pl
/-- A string's value. -/
def strV (l : List UInt8) : Value := .string ⟨l.toArray⟩
def rightE (n : List UInt8) (v k : Int) : Bool := decide (1 ≤ n.length) && (decide (n.length ≤ 32) && (decide (1 ≤ v) && (decide (v ≤ 1073741824) && (decide (1 ≤ k) && decide (k < 2305843009213693951)))))
/-- The name of a number. -/
def nameL (k : Int) : List UInt8 := if k % 6 = 0 then [97] else if k % 6 = 1 then [98] else if k % 6 = 2 then [97, 110, 110] else if k % 6 = 3 then [98, 111, 98] else if k % 6 = 4 then [195, 169] else [48, 49, 50, 51, 52, 53, 54, 55, 56, 57, 48, 49, 50, 51, 52, 53, 54, 55, 56, 57, 48, 49, 50, 51, 52, 53, 54, 55, 56, 57, 48, 122]
/-- What is known of a name's version. -/
structure Kn where
  nm : List UInt8
  ver : Int
  key : Int
  ep : Int
def Kn.dv (k : Kn) : List DV := [.v (strV k.nm), .v (.int .i64 k.ver), .v (.int .u64 k.key), .v (.int .i64 k.ep)]
def zeroK : Kn := ⟨[], 0, 0, 0⟩
/-- An entry. -/
structure En where
  nm : List UInt8
  ver : Int
  key : Int
def En.dv (k : En) : List DV := [.v (strV k.nm), .v (.int .i64 k.ver), .v (.int .u64 k.key)]
theorem pl_kn (k : Kn) : ∀ X ∈ k.dv, Pl X := pl_cons (pl_v _) (pl_cons (pl_v _) (pl_cons (pl_v _) (pl_cons (pl_v _) pl_nil)))
theorem pl_en (k : En) : ∀ X ∈ k.dv, Pl X := pl_cons (pl_v _) (pl_cons (pl_v _) (pl_cons (pl_v _) pl_nil))
def latStep (nm : List UInt8) (q : Kn × Bool) (k : Kn) : Kn × Bool := if k.nm = nm ∧ (q.2 = false ∨ q.1.ver < k.ver) then (k, true) else q
def latR (l : List Kn) (nm : List UInt8) : Kn × Bool := l.foldl (latStep nm) (zeroK, false)
theorem latR_snoc {l : List Kn} {nm : List UInt8} {k : Nat} (h : k < l.length) : latR (l.take (k + 1)) nm = latStep nm (latR (l.take k) nm) l[k] := by
  unfold latR; rw [take_snoc' h, List.foldl_append]; rfl
def i64w (n : Int) : Int := IntKind.i64.wrap n
def cmpS (a b : List UInt8) : Int := if Op.bytesLess a b = true then -1 else if a = b then 0 else 1
def cmpI (a b : Int) : Int := if a < b then -1 else if b < a then 1 else 0
def orF : List Int → Int
  | [] => 0
  | x :: r => if x = 0 then orF r else x
def ordF (nm : List UInt8) (v : Int) (k : Kn) : Int := orF [cmpS k.nm nm, cmpI k.ver v]
def ordAt (l : List Kn) (nm : List UInt8) (v : Int) (i : Nat) : Int := match l[i]? with | some k => ordF nm v k | none => 0
theorem ordAt_get {l : List Kn} {nm : List UInt8} {v : Int} {i : Nat} (h : i < l.length) : ordAt l nm v i = ordF nm v l[i] := by unfold ordAt; rw [List.getElem?_eq_getElem h]
def bsGo (l : List Kn) (nm : List UInt8) (v : Int) : Nat → Nat → Nat → Nat
  | 0, i, _ => i
  | f + 1, i, j => if i < j then (if ordAt l nm v ((i + j) / 2) < 0 then bsGo l nm v f ((i + j) / 2 + 1) j else bsGo l nm v f i ((i + j) / 2)) else i
def bsI (l : List Kn) (nm : List UInt8) (v : Int) : Nat := bsGo l nm v l.length 0 l.length
theorem bsGo_step {l : List Kn} {nm : List UInt8} {v : Int} {f i j : Nat} (h : i < j) (hf : j - i ≤ f) : bsGo l nm v f i j = if ordAt l nm v ((i + j) / 2) < 0 then bsGo l nm v (f - 1) ((i + j) / 2 + 1) j else bsGo l nm v (f - 1) i ((i + j) / 2) := by
  cases f with
  | zero => omega
  | succ f => rw [Nat.add_sub_cancel]; conv => lhs; unfold bsGo
              rw [if_pos h]
theorem bsGo_end {l : List Kn} {nm : List UInt8} {v : Int} {f i j : Nat} (h : ¬ i < j) : bsGo l nm v f i j = i := by
  cases f with
  | zero => rfl
  | succ f => unfold bsGo; rw [if_neg h]
theorem bsGo_le {l : List Kn} {nm : List UInt8} {v : Int} : ∀ (f i j : Nat), i ≤ j → bsGo l nm v f i j ≤ j
  | 0, i, j, h => h
  | f + 1, i, j, h => by
    unfold bsGo
    split
    · split
      · exact bsGo_le f _ _ (by omega)
      · exact Nat.le_trans (bsGo_le f i ((i + j) / 2) (by omega)) (by omega)
    · exact h
theorem bsI_le (l : List Kn) (nm : List UInt8) (v : Int) : bsI l nm v ≤ l.length := bsGo_le _ _ _ (Nat.zero_le _)
def placeB (l : List Kn) (nm : List UInt8) (v : Int) : Bool := decide (bsI l nm v < l.length) && decide (ordAt l nm v (bsI l nm v) = 0)
def latP (l : List Kn) (nm : List UInt8) : Kn × Bool := match l[bsI l nm 1073741825 - 1]? with
  | some k => if bsI l nm 1073741825 = 0 then (zeroK, false) else if k.nm = nm then (k, true) else (zeroK, false)
  | none => (zeroK, false)
theorem kn_len (k : Kn) : k.dv.length = 4 := rfl
theorem en_len (k : En) : k.dv.length = 3 := rfl
def lessK (k : Kn) (e : En) : Bool := Op.bytesLess k.nm e.nm || (decide (k.nm = e.nm) && decide (k.ver < e.ver))
def insK (e : En) (ep : Int) (l : List Kn) : List Kn := l.takeWhile (lessK · e) ++ ⟨e.nm, e.ver, e.key, ep⟩ :: l.dropWhile (lessK · e)
theorem insK_len (e : En) (ep : Int) (l : List Kn) : (insK e ep l).length = l.length + 1 := by
  unfold insK
  have := congrArg List.length (List.takeWhile_append_dropWhile (p := (lessK · e)) (l := l))
  simp only [List.length_append, List.length_cons] at this ⊢
  omega
def addGo (kn : List Kn) (ep : Int) : List En → List En → List Kn → List Kn × Bool
  | _, [], out => (out, true)
  | done, e :: r, out =>
    if rightE e.nm e.ver e.key = true ∧ e.ver = i64w ((latR kn e.nm).1.ver + 1) ∧ (∀ d ∈ done, ¬ d.nm = e.nm) then addGo kn ep (done ++ [e]) r (insK e ep out) else (kn, false)
open Classical in
def addR (kn : List Kn) (ep : Int) (b : List En) : List Kn × Bool := if ep < 1 ∨ (∃ k ∈ kn, ep ≤ k.ep) then (kn, false) else addGo kn ep [] b kn
theorem addGo_len (kn : List Kn) (ep : Int) : ∀ (r done : List En) (out : List Kn), kn.length ≤ out.length → (addGo kn ep done r out).1.length ≤ out.length + r.length
  | [], _, out, h => by simp [addGo]
  | e :: r, done, out, h => by
    unfold addGo; split
    · have := addGo_len kn ep r (done ++ [e]) (insK e ep out) (by rw [insK_len]; omega)
      rw [insK_len] at this; simp only [List.length_cons]; omega
    · simp only [List.length_cons]; omega
theorem addR_len (kn : List Kn) (ep : Int) (b : List En) : (addR kn ep b).1.length ≤ kn.length + b.length := by
  unfold addR; split
  · show kn.length ≤ _; omega
  · exact addGo_len kn ep b [] kn (Nat.le_refl _)
theorem addGo_step {kn : List Kn} {ep : Int} {b : List En} {out : List Kn} {k : Nat} (h : k < b.length) (h1 : rightE b[k].nm b[k].ver b[k].key = true) (h2 : b[k].ver = i64w ((latR kn b[k].nm).1.ver + 1)) (h3 : ∀ j (hj : j < b.length), j < k → ¬ b[j].nm = b[k].nm) :
    addGo kn ep (b.take k) (b.drop k) out = addGo kn ep (b.take (k + 1)) (b.drop (k + 1)) (insK b[k] ep out) := by
  rw [← List.getElem_cons_drop h, addGo, if_pos ⟨h1, h2, fun d hd => by
    obtain ⟨j, hj, rfl⟩ := List.getElem_of_mem hd
    rw [List.getElem_take]
    exact h3 j (by simp at hj; omega) (by simp at hj; omega)⟩, take_snoc' h]
theorem addGo_stop {kn : List Kn} {ep : Int} {b : List En} {out : List Kn} {k : Nat} (h : k < b.length) (hn : ¬ (rightE b[k].nm b[k].ver b[k].key = true ∧ b[k].ver = i64w ((latR kn b[k].nm).1.ver + 1) ∧ (∀ d ∈ b.take k, ¬ d.nm = b[k].nm))) :
    addGo kn ep (b.take k) (b.drop k) out = (kn, false) := by
  rw [← List.getElem_cons_drop h, addGo, if_neg hn]
theorem mem_take_of {α : Type} {b : List α} {j k : Nat} (hj : j < b.length) (h : j < k) : b[j] ∈ b.take k := by
  have hl : j < (b.take k).length := by simp; omega
  have := List.getElem_mem hl
  rwa [List.getElem_take] at this
theorem while_at {α : Type} {p : α → Bool} {l : List α} {k : Nat} (h : k ≤ l.length) (ha : ∀ j (hj : j < l.length), j < k → p l[j] = true) (hn : ∀ hk : k < l.length, p l[k] = false) : l.takeWhile p = l.take k ∧ l.dropWhile p = l.drop k := by
  induction l generalizing k with
  | nil => simp
  | cons x t ih =>
    cases k with
    | zero => have := hn (by simp); simp at this; simp [this]
    | succ k =>
      have hx : p x = true := ha 0 (by simp) (by omega)
      obtain ⟨h1, h2⟩ := ih (k := k) (by simpa using h) (fun j hj hjk => by have := ha (j + 1) (by simpa using hj) (by omega); simpa using this) (fun hk => by have := hn (by simpa using hk); simpa using this)
      simp [hx, h1, h2]
theorem latR_mem (l : List Kn) (nm : List UInt8) : (latR l nm).1 = zeroK ∨ (latR l nm).1 ∈ l := by
  unfold latR
  have : ∀ (l : List Kn) (q : Kn × Bool) (m : List Kn), (q.1 = zeroK ∨ q.1 ∈ m) → (∀ x ∈ l, x ∈ m) → ((l.foldl (latStep nm) q).1 = zeroK ∨ (l.foldl (latStep nm) q).1 ∈ m) := by
    intro l
    induction l with
    | nil => intro q m h _; exact h
    | cons x t ih =>
      intro q m h hm
      refine ih _ m ?_ (fun y hy => hm y (by simp [hy]))
      unfold latStep; split
      · exact .inr (hm x (by simp))
      · exact h
  exact this l (zeroK, false) l (.inl rfl) (fun x h => h)
theorem i64w_small {v : Int} (h0 : 0 ≤ v) (h1 : v ≤ 1099511627776) : i64w (v + 1) = v + 1 := by unfold i64w; rw [IntKind.wrap_i64]; omega
theorem mem_insK {e : En} {ep : Int} {l : List Kn} {x : Kn} (h : x ∈ insK e ep l) : x = ⟨e.nm, e.ver, e.key, ep⟩ ∨ x ∈ l := by
  unfold insK at h
  rw [List.mem_append, List.mem_cons] at h
  rcases h with h | h | h
  · exact .inr ((List.takeWhile_prefix _).subset h)
  · exact .inl h
  · exact .inr ((List.dropWhile_suffix _).subset h)
theorem bl_tri : ∀ (a b : List UInt8), Op.bytesLess a b = true ∨ a = b ∨ Op.bytesLess b a = true
  | [], [] => .inr (.inl rfl)
  | [], _ :: _ => .inl (by simp [Op.bytesLess])
  | _ :: _, [] => .inr (.inr (by simp [Op.bytesLess]))
  | x :: a, y :: b => by
    simp only [Op.bytesLess, Bool.or_eq_true, decide_eq_true_eq, Bool.and_eq_true, beq_iff_eq, List.cons.injEq]
    have tri : x < y ∨ x = y ∨ y < x := by
      by_cases h : x = y
      · exact .inr (.inl h)
      · rcases UInt8.lt_or_lt_of_ne h with k | k
        · exact .inl k
        · exact .inr (.inr k)
    rcases tri with k | rfl | k
    · exact .inl (.inl k)
    · rcases bl_tri a b with h | h | h
      · exact .inl (.inr ⟨rfl, h⟩)
      · exact .inr (.inl ⟨rfl, h⟩)
      · exact .inr (.inr (.inr ⟨rfl, h⟩))
    · exact .inr (.inr (.inl k))
theorem bl_asym {a b : List UInt8} (h : Op.bytesLess a b = true) : Op.bytesLess b a = false := by
  cases k : Op.bytesLess b a with
  | false => rfl
  | true => rw [← bl_trans h k, bl_irrefl]
/-- A name and a version ahead of another. -/
def ltN (a : List UInt8) (v : Int) (b : List UInt8) (u : Int) : Prop := Op.bytesLess a b = true ∨ (a = b ∧ v < u)
theorem ltN_trans {a b c : List UInt8} {x y z : Int} (h : ltN a x b y) (k : ltN b y c z) : ltN a x c z := by
  rcases h with h | ⟨rfl, h⟩ <;> rcases k with k | ⟨rfl, k⟩
  · exact .inl (bl_trans h k)
  · exact .inl h
  · exact .inl k
  · exact .inr ⟨rfl, by omega⟩
theorem ltN_irrefl {a : List UInt8} {x : Int} (h : ltN a x a x) : False := by
  rcases h with h | ⟨_, h⟩
  · rw [bl_irrefl] at h; cases h
  · omega
def ltK (a b : Kn) : Prop := ltN a.nm a.ver b.nm b.ver
def SrtK (l : List Kn) : Prop := l.Pairwise ltK
theorem SrtK.get {l : List Kn} (h : SrtK l) {i j : Nat} (hij : i < j) (hj : j < l.length) : ltK (l[i]'(by omega)) l[j] := List.pairwise_iff_getElem.1 h i j (by omega) hj hij
theorem ordF_neg (nm : List UInt8) (v : Int) (k : Kn) : ordF nm v k < 0 ↔ ltN k.nm k.ver nm v := by
  unfold ordF ltN orF cmpS
  by_cases h : Op.bytesLess k.nm nm = true
  · simp [h]
  · by_cases e : k.nm = nm
    · subst e
      rw [bl_irrefl]
      simp only [Bool.false_eq_true, if_false, if_true, false_or, true_and]
      unfold orF orF cmpI
      by_cases h1 : k.ver < v
      · simp [h1]
      · by_cases h2 : v < k.ver <;> simp [h1, h2]
    · simp [h, e]
/-- All ahead of i are ahead of the wanted, none from i on. -/
def Cut (l : List Kn) (nm : List UInt8) (v : Int) (i : Nat) : Prop := i ≤ l.length ∧ (∀ k (hk : k < l.length), k < i → ltN l[k].nm l[k].ver nm v) ∧ ∀ k (hk : k < l.length), i ≤ k → ¬ ltN l[k].nm l[k].ver nm v
theorem bsGo_cut {l : List Kn} {nm : List UInt8} {v : Int} (hs : SrtK l) : ∀ (f i j : Nat), i ≤ j → j ≤ l.length → j - i ≤ f → (∀ k (hk : k < l.length), k < i → ltN l[k].nm l[k].ver nm v) → (∀ k (hk : k < l.length), j ≤ k → ¬ ltN l[k].nm l[k].ver nm v) → Cut l nm v (bsGo l nm v f i j)
  | 0, i, j, hij, hj, hf, h1, h2 => by
    have : i = j := by omega
    subst this
    exact ⟨hj, h1, h2⟩
  | f + 1, i, j, hij, hj, hf, h1, h2 => by
    unfold bsGo
    split
    · rename_i hlt
      have hm : (i + j) / 2 < l.length := by omega
      rw [ordAt_get hm]
      split
      · rename_i hneg
        rw [ordF_neg] at hneg
        refine bsGo_cut hs f _ _ (by omega) hj (by omega) (fun k hk hki => ?_) h2
        by_cases e : k = (i + j) / 2
        · subst e; exact hneg
        · exact ltN_trans (hs.get (by omega) hm) hneg
      · rename_i hneg
        rw [ordF_neg] at hneg
        refine bsGo_cut hs f _ _ (by omega) (by omega) (by omega) h1 (fun k hk hki => ?_)
        by_cases e : k = (i + j) / 2
        · subst e; exact hneg
        · exact fun q => hneg (ltN_trans (hs.get (by omega) hk) q)
    · have : i = j := by omega
      subst this
      exact ⟨hj, h1, h2⟩
theorem bsI_cut {l : List Kn} (hs : SrtK l) (nm : List UInt8) (v : Int) : Cut l nm v (bsI l nm v) := bsGo_cut hs _ _ _ (Nat.zero_le _) (Nat.le_refl _) (by omega) (fun k _ h => absurd h (Nat.not_lt_zero k)) (fun k hk h => by omega)
theorem latR_ok (l : List Kn) (nm : List UInt8) (m : Nat) (hm : m ≤ l.length) :
    ((latR (l.take m) nm).2 = false → (latR (l.take m) nm).1 = zeroK ∧ ∀ j (hj : j < l.length), j < m → l[j].nm ≠ nm) ∧
    ((latR (l.take m) nm).2 = true → ∃ i, ∃ (hi : i < l.length), (latR (l.take m) nm).1 = l[i] ∧ l[i].nm = nm ∧ ∀ j (hj : j < l.length), j < m → l[j].nm = nm → l[j].ver ≤ l[i].ver) := by
  induction m with
  | zero => exact ⟨fun _ => ⟨rfl, fun j _ h => absurd h (Nat.not_lt_zero j)⟩, fun h => by simp [latR] at h⟩
  | succ m ih =>
    have hlt : m < l.length := hm
    obtain ⟨h1, h2⟩ := ih (by omega)
    rw [latR_snoc hlt]
    generalize latR (l.take m) nm = q at *
    obtain ⟨q, ok⟩ := q
    simp only at h1 h2
    unfold latStep
    by_cases hn : l[m].nm = nm
    · cases ok with
      | false =>
        obtain ⟨e, h1⟩ := h1 rfl
        rw [if_pos ⟨hn, .inl rfl⟩]
        refine ⟨fun h => by simp at h, fun _ => ⟨m, hlt, rfl, hn, fun j hj hjm hx => ?_⟩⟩
        by_cases e : j = m
        · subst e; omega
        · exact absurd hx (h1 j hj (by omega))
      | true =>
        obtain ⟨i, hi, e, hin, hmax⟩ := h2 rfl
        by_cases hv : q.ver < l[m].ver
        · rw [if_pos ⟨hn, .inr hv⟩]
          refine ⟨fun h => by simp at h, fun _ => ⟨m, hlt, rfl, hn, fun j hj hjm hx => ?_⟩⟩
          by_cases ee : j = m
          · subst ee; omega
          · have := hmax j hj (by omega) hx; rw [e] at hv; omega
        · rw [if_neg (fun x => x.2.elim (fun h => by simp at h) hv)]
          refine ⟨fun h => by simp at h, fun _ => ⟨i, hi, e, hin, fun j hj hjm hx => ?_⟩⟩
          by_cases ee : j = m
          · subst ee; rw [e] at hv; omega
          · exact hmax j hj (by omega) hx
    · rw [if_neg (fun x => hn x.1)]
      refine ⟨fun h => ?_, fun h => ?_⟩
      · obtain ⟨e, h1⟩ := h1 h
        refine ⟨e, fun j hj hjm hx => ?_⟩
        by_cases ee : j = m
        · subst ee; exact hn hx
        · exact h1 j hj (by omega) hx
      · obtain ⟨i, hi, e, hin, hmax⟩ := h2 h
        refine ⟨i, hi, e, hin, fun j hj hjm hx => ?_⟩
        by_cases ee : j = m
        · subst ee; exact absurd hx hn
        · exact hmax j hj (by omega) hx
theorem latR_none {l : List Kn} {nm : List UInt8} (h : ∀ j (hj : j < l.length), l[j].nm ≠ nm) : latR l nm = (zeroK, false) := by
  have h0 := latR_ok l nm l.length (Nat.le_refl _)
  rw [List.take_length] at h0
  cases hb : (latR l nm).2 with
  | false => exact Prod.ext (h0.1 hb).1 hb
  | true =>
    obtain ⟨i, hi, _, hn, _⟩ := h0.2 hb
    exact absurd hn (h i hi)
theorem latR_some {l : List Kn} {nm : List UInt8} {j : Nat} (hj : j < l.length) (hn : l[j].nm = nm) : ∃ i, ∃ (hi : i < l.length), latR l nm = (l[i], true) ∧ l[i].nm = nm ∧ ∀ j (hj : j < l.length), l[j].nm = nm → l[j].ver ≤ l[i].ver := by
  have h0 := latR_ok l nm l.length (Nat.le_refl _)
  rw [List.take_length] at h0
  cases hb : (latR l nm).2 with
  | false => exact absurd hn ((h0.1 hb).2 j hj hj)
  | true =>
    obtain ⟨i, hi, e, hn', hmax⟩ := h0.2 hb
    exact ⟨i, hi, Prod.ext e hb, hn', fun j hj hx => hmax j hj hj hx⟩
theorem latP_eq {l : List Kn} (hs : SrtK l) (hv : ∀ k ∈ l, k.ver < 1073741825) (nm : List UInt8) : latP l nm = latR l nm := by
  obtain ⟨c1, c2, c3⟩ := bsI_cut hs nm 1073741825
  have hmine : ∀ j (hj : j < l.length), l[j].nm = nm → j < bsI l nm 1073741825 := fun j hj hn => by
    by_cases h : j < bsI l nm 1073741825
    · exact h
    · exact absurd (.inr ⟨hn, hv _ (List.getElem_mem hj)⟩) (c3 j hj (by omega))
  unfold latP
  by_cases hz : bsI l nm 1073741825 = 0
  · rw [latR_none (fun j hj hn => by have := hmine j hj hn; omega)]
    split <;> simp [hz]
  · have hi : bsI l nm 1073741825 - 1 < l.length := by omega
    rw [List.getElem?_eq_getElem hi]
    simp only [if_neg hz]
    split
    · rename_i hn
      obtain ⟨i, hil, e, hin, hmax⟩ := latR_some hi hn
      rw [e]
      have h1 := hmine i hil hin
      by_cases hc : i = bsI l nm 1073741825 - 1
      · subst hc; rfl
      · have := hs.get (i := i) (j := bsI l nm 1073741825 - 1) (by omega) hi
        rcases this with q | ⟨_, q⟩
        · rw [hin, hn, bl_irrefl] at q; cases q
        · have := hmax _ hi hn; omega
    · rename_i hn
      refine (latR_none fun j hj hx => ?_).symm
      have h1 := hmine j hj hx
      have h2 : j ≠ bsI l nm 1073741825 - 1 := fun e => by subst e; exact hn hx
      have h3 := hs.get (i := j) (j := bsI l nm 1073741825 - 1) (by omega) hi
      have h4 := c2 _ hi (by omega)
      rcases h3 with q | ⟨q, _⟩
      · rcases h4 with r | ⟨r, _⟩
        · rw [hx] at q; rw [bl_asym q] at r; cases r
        · exact hn r
      · exact hn (q ▸ hx)
theorem latR_le {l : List Kn} {nm : List UInt8} {k : Kn} (hk : k ∈ l) (hn : k.nm = nm) : k.ver ≤ (latR l nm).1.ver := by
  obtain ⟨j, hj, rfl⟩ := List.getElem_of_mem hk
  obtain ⟨i, hi, e, _, hm⟩ := latR_some hj hn
  rw [e]; exact hm j hj hn
theorem latR_in {l : List Kn} {nm : List UInt8} {k : Kn} (hk : k ∈ l) (hn : k.nm = nm) : (latR l nm).1 ∈ l ∧ (latR l nm).1.nm = nm := by
  obtain ⟨j, hj, rfl⟩ := List.getElem_of_mem hk
  obtain ⟨i, hi, e, h, hm⟩ := latR_some hj hn
  rw [e]; exact ⟨List.getElem_mem hi, h⟩
theorem latR_no {l : List Kn} {nm : List UInt8} (h : ∀ k ∈ l, k.nm ≠ nm) : latR l nm = (zeroK, false) := latR_none fun j hj => h _ (List.getElem_mem hj)
theorem drop_not {e : En} : ∀ {l : List Kn}, SrtK l → ∀ k ∈ l.dropWhile (lessK · e), ¬ ltN k.nm k.ver e.nm e.ver
  | [], _, k, hk => by cases hk
  | x :: t, hs, k, hk => by
    unfold SrtK at hs
    rw [List.pairwise_cons] at hs
    rw [List.dropWhile_cons] at hk
    split at hk
    · exact drop_not hs.2 k hk
    · rename_i hx
      have hx' : ¬ ltN x.nm x.ver e.nm e.ver := fun q => hx (by unfold lessK; rcases q with q | ⟨q, r⟩ <;> simp [q]; exact .inr r)
      rcases List.mem_cons.1 hk with rfl | hk
      · exact hx'
      · exact fun q => hx' (ltN_trans (hs.1 k hk) q)
theorem while_lt {e : En} {l : List Kn} {k : Kn} (h : k ∈ l.takeWhile (lessK · e)) : ltN k.nm k.ver e.nm e.ver := by
  have : ∀ {l : List Kn}, k ∈ l.takeWhile (lessK · e) → lessK k e = true := by
    intro l
    induction l with
    | nil => intro h; cases h
    | cons x t ih =>
      intro h
      rw [List.takeWhile_cons] at h
      split at h
      · rcases List.mem_cons.1 h with rfl | h
        · assumption
        · exact ih h
      · cases h
  have := this h
  unfold lessK at this
  simp only [Bool.or_eq_true, Bool.and_eq_true, decide_eq_true_eq] at this
  exact this
theorem mem_insK' {e : En} {ep : Int} {l : List Kn} : (⟨e.nm, e.ver, e.key, ep⟩ : Kn) ∈ insK e ep l ∧ ∀ x ∈ l, x ∈ insK e ep l := by
  unfold insK
  refine ⟨by simp, fun x hx => ?_⟩
  rw [← List.takeWhile_append_dropWhile (p := (lessK · e)) (l := l)] at hx
  rw [List.mem_append] at hx ⊢
  exact hx.elim .inl (fun h => .inr (List.mem_cons_of_mem _ h))
theorem ltN_tri {a b : List UInt8} {u v : Int} (h : ¬ ltN a u b v) (hne : ¬ (a = b ∧ u = v)) : ltN b v a u := by
  rcases bl_tri a b with q | q | q
  · exact absurd (.inl q) h
  · subst q
    have : ¬ u < v := fun q => h (.inr ⟨rfl, q⟩)
    exact .inr ⟨rfl, by have : u ≠ v := fun q => hne ⟨rfl, q⟩; omega⟩
  · exact .inl q
theorem srt_insK {e : En} {ep : Int} {l : List Kn} (hs : SrtK l) (hn : ∀ k ∈ l, ¬ (k.nm = e.nm ∧ k.ver = e.ver)) : SrtK (insK e ep l) := by
  have hs' := hs
  unfold SrtK at hs
  rw [← List.takeWhile_append_dropWhile (p := (lessK · e)) (l := l), List.pairwise_append] at hs
  obtain ⟨h1, h2, h3⟩ := hs
  have hd : ∀ k ∈ l.dropWhile (lessK · e), ltN e.nm e.ver k.nm k.ver := fun k hk => ltN_tri (drop_not hs' k hk) (hn k ((List.dropWhile_suffix _).subset hk))
  unfold SrtK insK
  rw [List.pairwise_append, List.pairwise_cons]
  refine ⟨h1, ⟨fun k hk => hd k hk, h2⟩, fun a ha b hb => ?_⟩
  rcases List.mem_cons.1 hb with rfl | hb
  · exact while_lt ha
  · exact h3 a ha b hb
end Go.Proofs.YtmjokdhhniblgaaGreat

