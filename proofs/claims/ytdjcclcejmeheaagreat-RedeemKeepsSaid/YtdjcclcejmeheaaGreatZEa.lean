import Derived.Test.YtdjcclcejmeheaaGreatZQ3
/-
  Directories: what is known, looked up, added: the values.
-/
namespace Go.Proofs.YtdjcclcejmeheaaGreat
set_option linter.unusedVariables false
set_option linter.unusedSimpArgs false
open Go.RowKit Pl
/-- A string's value. -/
def strV (l : List UInt8) : Value := .string ⟨l.toArray⟩
def rightE (n : List UInt8) (v k : Int) : Bool := decide (1 ≤ n.length) && (decide (n.length ≤ 32) && (decide (1 ≤ v) && (decide (v ≤ 1073741824) && (decide (1 ≤ k) && decide (k < 2305843009213693951)))))
/-- The name of a number. -/
def nameL (k : Int) : List UInt8 := if k % 6 = 0 then [97] else if k % 6 = 1 then [98] else if k % 6 = 2 then [97, 110, 110] else if k % 6 = 3 then [98, 111, 98] else if k % 6 = 4 then [195, 169] else [48, 49, 50, 51, 52, 53, 54, 55, 56, 57, 48, 49, 50, 51, 52, 53, 54, 55, 56, 57, 48, 49, 50, 51, 52, 53, 54, 55, 56, 57, 48, 122]
/-- What is known of a name's version. -/
structure Kn where
  nm : List UInt8
  ver : Int
  key : Int
  ep : Int
def Kn.dv (k : Kn) : List DV := [.v (strV k.nm), .v (.int .i64 k.ver), .v (.int .u64 k.key), .v (.int .i64 k.ep)]
def zeroK : Kn := ⟨[], 0, 0, 0⟩
/-- An entry. -/
structure En where
  nm : List UInt8
  ver : Int
  key : Int
def En.dv (k : En) : List DV := [.v (strV k.nm), .v (.int .i64 k.ver), .v (.int .u64 k.key)]
theorem pl_kn (k : Kn) : ∀ X ∈ k.dv, Pl X := pl_cons (pl_v _) (pl_cons (pl_v _) (pl_cons (pl_v _) (pl_cons (pl_v _) pl_nil)))
theorem pl_en (k : En) : ∀ X ∈ k.dv, Pl X := pl_cons (pl_v _) (pl_cons (pl_v _) (pl_cons (pl_v _) pl_nil))
def latStep (nm : List UInt8) (q : Kn × Bool) (k : Kn) : Kn × Bool := if k.nm = nm ∧ (q.2 = false ∨ q.1.ver < k.ver) then (k, true) else q
def latR (l : List Kn) (nm : List UInt8) : Kn × Bool := l.foldl (latStep nm) (zeroK, false)
theorem latR_snoc {l : List Kn} {nm : List UInt8} {k : Nat} (h : k < l.length) : latR (l.take (k + 1)) nm = latStep nm (latR (l.take k) nm) l[k] := by
  unfold latR; rw [take_snoc' h, List.foldl_append]; rfl
def i64w (n : Int) : Int := IntKind.i64.wrap n
theorem kn_len (k : Kn) : k.dv.length = 4 := rfl
theorem en_len (k : En) : k.dv.length = 3 := rfl
def lessK (k : Kn) (e : En) : Bool := Op.bytesLess k.nm e.nm || (decide (k.nm = e.nm) && decide (k.ver < e.ver))
def insK (e : En) (ep : Int) (l : List Kn) : List Kn := l.takeWhile (lessK · e) ++ ⟨e.nm, e.ver, e.key, ep⟩ :: l.dropWhile (lessK · e)
theorem insK_len (e : En) (ep : Int) (l : List Kn) : (insK e ep l).length = l.length + 1 := by
  unfold insK
  have := congrArg List.length (List.takeWhile_append_dropWhile (p := (lessK · e)) (l := l))
  simp only [List.length_append, List.length_cons] at this ⊢
  omega
def addGo (kn : List Kn) (ep : Int) : List En → List En → List Kn → List Kn × Bool
  | _, [], out => (out, true)
  | done, e :: r, out =>
    if rightE e.nm e.ver e.key = true ∧ e.ver = i64w ((latR kn e.nm).1.ver + 1) ∧ (∀ d ∈ done, ¬ d.nm = e.nm) then addGo kn ep (done ++ [e]) r (insK e ep out) else (kn, false)
open Classical in
def addR (kn : List Kn) (ep : Int) (b : List En) : List Kn × Bool := if ep < 1 ∨ (∃ k ∈ kn, ep ≤ k.ep) then (kn, false) else addGo kn ep [] b kn
theorem addGo_len (kn : List Kn) (ep : Int) : ∀ (r done : List En) (out : List Kn), kn.length ≤ out.length → (addGo kn ep done r out).1.length ≤ out.length + r.length
  | [], _, out, h => by simp [addGo]
  | e :: r, done, out, h => by
    unfold addGo; split
    · have := addGo_len kn ep r (done ++ [e]) (insK e ep out) (by rw [insK_len]; omega)
      rw [insK_len] at this; simp only [List.length_cons]; omega
    · simp only [List.length_cons]; omega
theorem addR_len (kn : List Kn) (ep : Int) (b : List En) : (addR kn ep b).1.length ≤ kn.length + b.length := by
  unfold addR; split
  · show kn.length ≤ _; omega
  · exact addGo_len kn ep b [] kn (Nat.le_refl _)
theorem addGo_step {kn : List Kn} {ep : Int} {b : List En} {out : List Kn} {k : Nat} (h : k < b.length) (h1 : rightE b[k].nm b[k].ver b[k].key = true) (h2 : b[k].ver = i64w ((latR kn b[k].nm).1.ver + 1)) (h3 : ∀ j (hj : j < b.length), j < k → ¬ b[j].nm = b[k].nm) :
    addGo kn ep (b.take k) (b.drop k) out = addGo kn ep (b.take (k + 1)) (b.drop (k + 1)) (insK b[k] ep out) := by
  rw [← List.getElem_cons_drop h, addGo, if_pos ⟨h1, h2, fun d hd => by
    obtain ⟨j, hj, rfl⟩ := List.getElem_of_mem hd
    rw [List.getElem_take]
    exact h3 j (by simp at hj; omega) (by simp at hj; omega)⟩, take_snoc' h]
theorem addGo_stop {kn : List Kn} {ep : Int} {b : List En} {out : List Kn} {k : Nat} (h : k < b.length) (hn : ¬ (rightE b[k].nm b[k].ver b[k].key = true ∧ b[k].ver = i64w ((latR kn b[k].nm).1.ver + 1) ∧ (∀ d ∈ b.take k, ¬ d.nm = b[k].nm))) :
    addGo kn ep (b.take k) (b.drop k) out = (kn, false) := by
  rw [← List.getElem_cons_drop h, addGo, if_neg hn]
theorem mem_take_of {α : Type} {b : List α} {j k : Nat} (hj : j < b.length) (h : j < k) : b[j] ∈ b.take k := by
  have hl : j < (b.take k).length := by simp; omega
  have := List.getElem_mem hl
  rwa [List.getElem_take] at this
theorem while_at {α : Type} {p : α → Bool} {l : List α} {k : Nat} (h : k ≤ l.length) (ha : ∀ j (hj : j < l.length), j < k → p l[j] = true) (hn : ∀ hk : k < l.length, p l[k] = false) : l.takeWhile p = l.take k ∧ l.dropWhile p = l.drop k := by
  induction l generalizing k with
  | nil => simp
  | cons x t ih =>
    cases k with
    | zero => have := hn (by simp); simp at this; simp [this]
    | succ k =>
      have hx : p x = true := ha 0 (by simp) (by omega)
      obtain ⟨h1, h2⟩ := ih (k := k) (by simpa using h) (fun j hj hjk => by have := ha (j + 1) (by simpa using hj) (by omega); simpa using this) (fun hk => by have := hn (by simpa using hk); simpa using this)
      simp [hx, h1, h2]
theorem latR_mem (l : List Kn) (nm : List UInt8) : (latR l nm).1 = zeroK ∨ (latR l nm).1 ∈ l := by
  unfold latR
  have : ∀ (l : List Kn) (q : Kn × Bool) (m : List Kn), (q.1 = zeroK ∨ q.1 ∈ m) → (∀ x ∈ l, x ∈ m) → ((l.foldl (latStep nm) q).1 = zeroK ∨ (l.foldl (latStep nm) q).1 ∈ m) := by
    intro l
    induction l with
    | nil => intro q m h _; exact h
    | cons x t ih =>
      intro q m h hm
      refine ih _ m ?_ (fun y hy => hm y (by simp [hy]))
      unfold latStep; split
      · exact .inr (hm x (by simp))
      · exact h
  exact this l (zeroK, false) l (.inl rfl) (fun x h => h)
theorem i64w_small {v : Int} (h0 : 0 ≤ v) (h1 : v ≤ 1099511627776) : i64w (v + 1) = v + 1 := by unfold i64w; rw [IntKind.wrap_i64]; omega
theorem mem_insK {e : En} {ep : Int} {l : List Kn} {x : Kn} (h : x ∈ insK e ep l) : x = ⟨e.nm, e.ver, e.key, ep⟩ ∨ x ∈ l := by
  unfold insK at h
  rw [List.mem_append, List.mem_cons] at h
  rcases h with h | h | h
  · exact .inr ((List.takeWhile_prefix _).subset h)
  · exact .inl h
  · exact .inr ((List.dropWhile_suffix _).subset h)
theorem bl_tri : ∀ (a b : List UInt8), Op.bytesLess a b = true ∨ a = b ∨ Op.bytesLess b a = true
  | [], [] => .inr (.inl rfl)
  | [], _ :: _ => .inl (by simp [Op.bytesLess])
  | _ :: _, [] => .inr (.inr (by simp [Op.bytesLess]))
  | x :: a, y :: b => by
    simp only [Op.bytesLess, Bool.or_eq_true, decide_eq_true_eq, Bool.and_eq_true, beq_iff_eq, List.cons.injEq]
    have tri : x < y ∨ x = y ∨ y < x := by
      by_cases h : x = y
      · exact .inr (.inl h)
      · rcases UInt8.lt_or_lt_of_ne h with k | k
        · exact .inl k
        · exact .inr (.inr k)
    rcases tri with k | rfl | k
    · exact .inl (.inl k)
    · rcases bl_tri a b with h | h | h
      · exact .inl (.inr ⟨rfl, h⟩)
      · exact .inr (.inl ⟨rfl, h⟩)
      · exact .inr (.inr (.inr ⟨rfl, h⟩))
    · exact .inr (.inr (.inl k))
theorem bl_asym {a b : List UInt8} (h : Op.bytesLess a b = true) : Op.bytesLess b a = false := by
  cases k : Op.bytesLess b a with
  | false => rfl
  | true => rw [← bl_trans h k, bl_irrefl]
/-- A name and a version ahead of another. -/
def ltN (a : List UInt8) (v : Int) (b : List UInt8) (u : Int) : Prop := Op.bytesLess a b = true ∨ (a = b ∧ v < u)
theorem ltN_trans {a b c : List UInt8} {x y z : Int} (h : ltN a x b y) (k : ltN b y c z) : ltN a x c z := by
  rcases h with h | ⟨rfl, h⟩ <;> rcases k with k | ⟨rfl, k⟩
  · exact .inl (bl_trans h k)
  · exact .inl h
  · exact .inl k
  · exact .inr ⟨rfl, by omega⟩
theorem ltN_irrefl {a : List UInt8} {x : Int} (h : ltN a x a x) : False := by
  rcases h with h | ⟨_, h⟩
  · rw [bl_irrefl] at h; cases h
  · omega
def ltK (a b : Kn) : Prop := ltN a.nm a.ver b.nm b.ver
def SrtK (l : List Kn) : Prop := l.Pairwise ltK
theorem SrtK.get {l : List Kn} (h : SrtK l) {i j : Nat} (hij : i < j) (hj : j < l.length) : ltK (l[i]'(by omega)) l[j] := List.pairwise_iff_getElem.1 h i j (by omega) hj hij
theorem latR_ok (l : List Kn) (nm : List UInt8) (m : Nat) (hm : m ≤ l.length) :
    ((latR (l.take m) nm).2 = false → (latR (l.take m) nm).1 = zeroK ∧ ∀ j (hj : j < l.length), j < m → l[j].nm ≠ nm) ∧
    ((latR (l.take m) nm).2 = true → ∃ i, ∃ (hi : i < l.length), (latR (l.take m) nm).1 = l[i] ∧ l[i].nm = nm ∧ ∀ j (hj : j < l.length), j < m → l[j].nm = nm → l[j].ver ≤ l[i].ver) := by
  induction m with
  | zero => exact ⟨fun _ => ⟨rfl, fun j _ h => absurd h (Nat.not_lt_zero j)⟩, fun h => by simp [latR] at h⟩
  | succ m ih =>
    have hlt : m < l.length := hm
    obtain ⟨h1, h2⟩ := ih (by omega)
    rw [latR_snoc hlt]
    generalize latR (l.take m) nm = q at *
    obtain ⟨q, ok⟩ := q
    simp only at h1 h2
    unfold latStep
    by_cases hn : l[m].nm = nm
    · cases ok with
      | false =>
        obtain ⟨e, h1⟩ := h1 rfl
        rw [if_pos ⟨hn, .inl rfl⟩]
        refine ⟨fun h => by simp at h, fun _ => ⟨m, hlt, rfl, hn, fun j hj hjm hx => ?_⟩⟩
        by_cases e : j = m
        · subst e; omega
        · exact absurd hx (h1 j hj (by omega))
      | true =>
        obtain ⟨i, hi, e, hin, hmax⟩ := h2 rfl
        by_cases hv : q.ver < l[m].ver
        · rw [if_pos ⟨hn, .inr hv⟩]
          refine ⟨fun h => by simp at h, fun _ => ⟨m, hlt, rfl, hn, fun j hj hjm hx => ?_⟩⟩
          by_cases ee : j = m
          · subst ee; omega
          · have := hmax j hj (by omega) hx; rw [e] at hv; omega
        · rw [if_neg (fun x => x.2.elim (fun h => by simp at h) hv)]
          refine ⟨fun h => by simp at h, fun _ => ⟨i, hi, e, hin, fun j hj hjm hx => ?_⟩⟩
          by_cases ee : j = m
          · subst ee; rw [e] at hv; omega
          · exact hmax j hj (by omega) hx
    · rw [if_neg (fun x => hn x.1)]
      refine ⟨fun h => ?_, fun h => ?_⟩
      · obtain ⟨e, h1⟩ := h1 h
        refine ⟨e, fun j hj hjm hx => ?_⟩
        by_cases ee : j = m
        · subst ee; exact hn hx
        · exact h1 j hj (by omega) hx
      · obtain ⟨i, hi, e, hin, hmax⟩ := h2 h
        refine ⟨i, hi, e, hin, fun j hj hjm hx => ?_⟩
        by_cases ee : j = m
        · subst ee; exact absurd hx hn
        · exact hmax j hj (by omega) hx
theorem latR_none {l : List Kn} {nm : List UInt8} (h : ∀ j (hj : j < l.length), l[j].nm ≠ nm) : latR l nm = (zeroK, false) := by
  have h0 := latR_ok l nm l.length (Nat.le_refl _)
  rw [List.take_length] at h0
  cases hb : (latR l nm).2 with
  | false => exact Prod.ext (h0.1 hb).1 hb
  | true =>
    obtain ⟨i, hi, _, hn, _⟩ := h0.2 hb
    exact absurd hn (h i hi)
theorem latR_some {l : List Kn} {nm : List UInt8} {j : Nat} (hj : j < l.length) (hn : l[j].nm = nm) : ∃ i, ∃ (hi : i < l.length), latR l nm = (l[i], true) ∧ l[i].nm = nm ∧ ∀ j (hj : j < l.length), l[j].nm = nm → l[j].ver ≤ l[i].ver := by
  have h0 := latR_ok l nm l.length (Nat.le_refl _)
  rw [List.take_length] at h0
  cases hb : (latR l nm).2 with
  | false => exact absurd hn ((h0.1 hb).2 j hj hj)
  | true =>
    obtain ⟨i, hi, e, hn', hmax⟩ := h0.2 hb
    exact ⟨i, hi, Prod.ext e hb, hn', fun j hj hx => hmax j hj hj hx⟩
theorem latR_le {l : List Kn} {nm : List UInt8} {k : Kn} (hk : k ∈ l) (hn : k.nm = nm) : k.ver ≤ (latR l nm).1.ver := by
  obtain ⟨j, hj, rfl⟩ := List.getElem_of_mem hk
  obtain ⟨i, hi, e, _, hm⟩ := latR_some hj hn
  rw [e]; exact hm j hj hn
theorem latR_in {l : List Kn} {nm : List UInt8} {k : Kn} (hk : k ∈ l) (hn : k.nm = nm) : (latR l nm).1 ∈ l ∧ (latR l nm).1.nm = nm := by
  obtain ⟨j, hj, rfl⟩ := List.getElem_of_mem hk
  obtain ⟨i, hi, e, h, hm⟩ := latR_some hj hn
  rw [e]; exact ⟨List.getElem_mem hi, h⟩
theorem latR_no {l : List Kn} {nm : List UInt8} (h : ∀ k ∈ l, k.nm ≠ nm) : latR l nm = (zeroK, false) := latR_none fun j hj => h _ (List.getElem_mem hj)
theorem drop_not {e : En} : ∀ {l : List Kn}, SrtK l → ∀ k ∈ l.dropWhile (lessK · e), ¬ ltN k.nm k.ver e.nm e.ver
  | [], _, k, hk => by cases hk
  | x :: t, hs, k, hk => by
    unfold SrtK at hs
    rw [List.pairwise_cons] at hs
    rw [List.dropWhile_cons] at hk
    split at hk
    · exact drop_not hs.2 k hk
    · rename_i hx
      have hx' : ¬ ltN x.nm x.ver e.nm e.ver := fun q => hx (by unfold lessK; rcases q with q | ⟨q, r⟩ <;> simp [q]; exact .inr r)
      rcases List.mem_cons.1 hk with rfl | hk
      · exact hx'
      · exact fun q => hx' (ltN_trans (hs.1 k hk) q)
theorem while_lt {e : En} {l : List Kn} {k : Kn} (h : k ∈ l.takeWhile (lessK · e)) : ltN k.nm k.ver e.nm e.ver := by
  have : ∀ {l : List Kn}, k ∈ l.takeWhile (lessK · e) → lessK k e = true := by
    intro l
    induction l with
    | nil => intro h; cases h
    | cons x t ih =>
      intro h
      rw [List.takeWhile_cons] at h
      split at h
      · rcases List.mem_cons.1 h with rfl | h
        · assumption
        · exact ih h
      · cases h
  have := this h
  unfold lessK at this
  simp only [Bool.or_eq_true, Bool.and_eq_true, decide_eq_true_eq] at this
  exact this
theorem mem_insK' {e : En} {ep : Int} {l : List Kn} : (⟨e.nm, e.ver, e.key, ep⟩ : Kn) ∈ insK e ep l ∧ ∀ x ∈ l, x ∈ insK e ep l := by
  unfold insK
  refine ⟨by simp, fun x hx => ?_⟩
  rw [← List.takeWhile_append_dropWhile (p := (lessK · e)) (l := l)] at hx
  rw [List.mem_append] at hx ⊢
  exact hx.elim .inl (fun h => .inr (List.mem_cons_of_mem _ h))
end Go.Proofs.YtdjcclcejmeheaaGreat

