/-
  Directories: what is known, looked up, added: the values.
-/
import Derived.Test.YteapoemockimfaaZQ3
namespace Go.Proofs.Yteapoemockimfaa
set_option linter.unusedVariables false
set_option linter.unusedSimpArgs false
open Go.RowKit Pl
/-- A string's value. -/
def strV (l : List UInt8) : Value := .string ⟨l.toArray⟩
def rightE (n : List UInt8) (v k : Int) : Bool := decide (1 ≤ n.length) && (decide (n.length ≤ 32) && (decide (1 ≤ v) && (decide (v ≤ 1073741824) && (decide (1 ≤ k) && decide (k < 2305843009213693951)))))
/-- The name of a number. -/
def nameL (k : Int) : List UInt8 := if k % 6 = 0 then [97] else if k % 6 = 1 then [98] else if k % 6 = 2 then [97, 110, 110] else if k % 6 = 3 then [98, 111, 98] else if k % 6 = 4 then [195, 169] else [48, 49, 50, 51, 52, 53, 54, 55, 56, 57, 48, 49, 50, 51, 52, 53, 54, 55, 56, 57, 48, 49, 50, 51, 52, 53, 54, 55, 56, 57, 48, 122]
/-- What is known of a name's version. -/
structure Kn where
  nm : List UInt8
  ver : Int
  key : Int
  ep : Int
def Kn.dv (k : Kn) : List DV := [.v (strV k.nm), .v (.int .i64 k.ver), .v (.int .u64 k.key), .v (.int .i64 k.ep)]
def zeroK : Kn := ⟨[], 0, 0, 0⟩
/-- An entry. -/
structure En where
  nm : List UInt8
  ver : Int
  key : Int
def En.dv (k : En) : List DV := [.v (strV k.nm), .v (.int .i64 k.ver), .v (.int .u64 k.key)]
theorem pl_kn (k : Kn) : ∀ X ∈ k.dv, Pl X := pl_cons (pl_v _) (pl_cons (pl_v _) (pl_cons (pl_v _) (pl_cons (pl_v _) pl_nil)))
theorem pl_en (k : En) : ∀ X ∈ k.dv, Pl X := pl_cons (pl_v _) (pl_cons (pl_v _) (pl_cons (pl_v _) pl_nil))
def latStep (nm : List UInt8) (q : Kn × Bool) (k : Kn) : Kn × Bool := if k.nm = nm ∧ (q.2 = false ∨ q.1.ver < k.ver) then (k, true) else q
def latR (l : List Kn) (nm : List UInt8) : Kn × Bool := l.foldl (latStep nm) (zeroK, false)
theorem latR_snoc {l : List Kn} {nm : List UInt8} {k : Nat} (h : k < l.length) : latR (l.take (k + 1)) nm = latStep nm (latR (l.take k) nm) l[k] := by
  unfold latR; rw [take_snoc' h, List.foldl_append]; rfl
def i64w (n : Int) : Int := IntKind.i64.wrap n
theorem kn_len (k : Kn) : k.dv.length = 4 := rfl
theorem en_len (k : En) : k.dv.length = 3 := rfl
def lessK (k : Kn) (e : En) : Bool := Op.bytesLess k.nm e.nm || (decide (k.nm = e.nm) && decide (k.ver < e.ver))
def insK (e : En) (ep : Int) (l : List Kn) : List Kn := l.takeWhile (lessK · e) ++ ⟨e.nm, e.ver, e.key, ep⟩ :: l.dropWhile (lessK · e)
theorem insK_len (e : En) (ep : Int) (l : List Kn) : (insK e ep l).length = l.length + 1 := by
  unfold insK
  have := congrArg List.length (List.takeWhile_append_dropWhile (p := (lessK · e)) (l := l))
  simp only [List.length_append, List.length_cons] at this ⊢
  omega
def addGo (kn : List Kn) (ep : Int) : List En → List En → List Kn → List Kn × Bool
  | _, [], out => (out, true)
  | done, e :: r, out =>
    if rightE e.nm e.ver e.key = true ∧ e.ver = i64w ((latR kn e.nm).1.ver + 1) ∧ (∀ d ∈ done, ¬ d.nm = e.nm) then addGo kn ep (done ++ [e]) r (insK e ep out) else (kn, false)
open Classical in
def addR (kn : List Kn) (ep : Int) (b : List En) : List Kn × Bool := if ep < 1 ∨ (∃ k ∈ kn, ep ≤ k.ep) then (kn, false) else addGo kn ep [] b kn
theorem addGo_len (kn : List Kn) (ep : Int) : ∀ (r done : List En) (out : List Kn), kn.length ≤ out.length → (addGo kn ep done r out).1.length ≤ out.length + r.length
  | [], _, out, h => by simp [addGo]
  | e :: r, done, out, h => by
    unfold addGo; split
    · have := addGo_len kn ep r (done ++ [e]) (insK e ep out) (by rw [insK_len]; omega)
      rw [insK_len] at this; simp only [List.length_cons]; omega
    · simp only [List.length_cons]; omega
theorem addR_len (kn : List Kn) (ep : Int) (b : List En) : (addR kn ep b).1.length ≤ kn.length + b.length := by
  unfold addR; split
  · show kn.length ≤ _; omega
  · exact addGo_len kn ep b [] kn (Nat.le_refl _)
theorem addGo_step {kn : List Kn} {ep : Int} {b : List En} {out : List Kn} {k : Nat} (h : k < b.length) (h1 : rightE b[k].nm b[k].ver b[k].key = true) (h2 : b[k].ver = i64w ((latR kn b[k].nm).1.ver + 1)) (h3 : ∀ j (hj : j < b.length), j < k → ¬ b[j].nm = b[k].nm) :
    addGo kn ep (b.take k) (b.drop k) out = addGo kn ep (b.take (k + 1)) (b.drop (k + 1)) (insK b[k] ep out) := by
  rw [← List.getElem_cons_drop h, addGo, if_pos ⟨h1, h2, fun d hd => by
    obtain ⟨j, hj, rfl⟩ := List.getElem_of_mem hd
    rw [List.getElem_take]
    exact h3 j (by simp at hj; omega) (by simp at hj; omega)⟩, take_snoc' h]
theorem addGo_stop {kn : List Kn} {ep : Int} {b : List En} {out : List Kn} {k : Nat} (h : k < b.length) (hn : ¬ (rightE b[k].nm b[k].ver b[k].key = true ∧ b[k].ver = i64w ((latR kn b[k].nm).1.ver + 1) ∧ (∀ d ∈ b.take k, ¬ d.nm = b[k].nm))) :
    addGo kn ep (b.take k) (b.drop k) out = (kn, false) := by
  rw [← List.getElem_cons_drop h, addGo, if_neg hn]
theorem mem_take_of {α : Type} {b : List α} {j k : Nat} (hj : j < b.length) (h : j < k) : b[j] ∈ b.take k := by
  have hl : j < (b.take k).length := by simp; omega
  have := List.getElem_mem hl
  rwa [List.getElem_take] at this
theorem while_at {α : Type} {p : α → Bool} {l : List α} {k : Nat} (h : k ≤ l.length) (ha : ∀ j (hj : j < l.length), j < k → p l[j] = true) (hn : ∀ hk : k < l.length, p l[k] = false) : l.takeWhile p = l.take k ∧ l.dropWhile p = l.drop k := by
  induction l generalizing k with
  | nil => simp
  | cons x t ih =>
    cases k with
    | zero => have := hn (by simp); simp at this; simp [this]
    | succ k =>
      have hx : p x = true := ha 0 (by simp) (by omega)
      obtain ⟨h1, h2⟩ := ih (k := k) (by simpa using h) (fun j hj hjk => by have := ha (j + 1) (by simpa using hj) (by omega); simpa using this) (fun hk => by have := hn (by simpa using hk); simpa using this)
      simp [hx, h1, h2]
theorem mem_insK {e : En} {ep : Int} {l : List Kn} {x : Kn} (h : x ∈ insK e ep l) : x = ⟨e.nm, e.ver, e.key, ep⟩ ∨ x ∈ l := by
  unfold insK at h
  rw [List.mem_append, List.mem_cons] at h
  rcases h with h | h | h
  · exact .inr ((List.takeWhile_prefix _).subset h)
  · exact .inl h
  · exact .inr ((List.dropWhile_suffix _).subset h)
/-- A name and a version ahead of another. -/
def ltN (a : List UInt8) (v : Int) (b : List UInt8) (u : Int) : Prop := Op.bytesLess a b = true ∨ (a = b ∧ v < u)
def ltK (a b : Kn) : Prop := ltN a.nm a.ver b.nm b.ver
def SrtK (l : List Kn) : Prop := l.Pairwise ltK
theorem SrtK.get {l : List Kn} (h : SrtK l) {i j : Nat} (hij : i < j) (hj : j < l.length) : ltK (l[i]'(by omega)) l[j] := List.pairwise_iff_getElem.1 h i j (by omega) hj hij
end Go.Proofs.Yteapoemockimfaa

