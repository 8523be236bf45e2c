/-
  Entries, what is known, what waits: the values.
-/
import Derived.Test.YtkkgjmfnlabbdaaUpL
import Derived.Test.YtkkgjmfnlabbdaaPo
import Derived.Test.YtkkgjmfnlabbdaaUpP
namespace Go.Proofs.Ytkkgjmfnlabbdaa
set_option linter.unusedVariables false
set_option linter.unusedSimpArgs false
open Go.RowKit Pl

/-- What is known of a name's version. -/
structure Kn where
  nm : List UInt8
  ver : Int
  key : Int
  ep : Int
def Kn.dv (k : Kn) : List DV := [.v (strV k.nm), .v (.int .i64 k.ver), .v (.int .u64 k.key), .v (.int .i64 k.ep)]
def zeroK : Kn := ⟨[], 0, 0, 0⟩
/-- An entry. -/
structure En where
  nm : List UInt8
  ver : Int
  key : Int
def En.dv (k : En) : List DV := [.v (strV k.nm), .v (.int .i64 k.ver), .v (.int .u64 k.key)]
/-- A request's cells. -/
def Up.dv (u : Up) : List DV := [.v (strV u.nm), .v (.int .i64 u.ver), .v (.int .u64 u.key), .v (.int .i64 u.cls), .v (.int .u64 u.r), .v (.int .u64 u.s)]
/-- One that waits. -/
structure Pe where
  u : Up
  tk : Int
  sq : Int
  sy : Bool
def Pe.dv (p : Pe) : List DV := [.v (strV p.u.nm), .v (.int .i64 p.u.ver), .v (.int .u64 p.u.key), .v (.int .i64 p.u.cls), .v (.int .u64 p.u.r), .v (.int .u64 p.u.s), .v (.int .i64 p.tk), .v (.int .i64 p.sq), .v (.bool p.sy)]
theorem pl_kn (k : Kn) : ∀ X ∈ k.dv, Pl X := pl_cons (pl_v _) (pl_cons (pl_v _) (pl_cons (pl_v _) (pl_cons (pl_v _) pl_nil)))
theorem pl_en (k : En) : ∀ X ∈ k.dv, Pl X := pl_cons (pl_v _) (pl_cons (pl_v _) (pl_cons (pl_v _) pl_nil))
theorem pl_up (k : Up) : ∀ X ∈ k.dv, Pl X := pl_cons (pl_v _) (pl_cons (pl_v _) (pl_cons (pl_v _) (pl_cons (pl_v _) (pl_cons (pl_v _) (pl_cons (pl_v _) pl_nil)))))
theorem get_nat {α : Type} {l : List α} {k : Nat} (h : k < l.length) : l[((k : Nat) : Int).toNat]? = some l[k] := by rw [Int.toNat_natCast]; exact List.getElem?_eq_getElem h
theorem wrap_succ {k n : Nat} (h : k < n) (hn : n ≤ 140737488355328) : IntKind.i64.wrap ((k : Int) + 1) = ((k + 1 : Nat) : Int) := by rw [IntKind.wrap_i64]; omega
theorem take_snoc' {α : Type} {l : List α} {k : Nat} (h : k < l.length) : l.take (k + 1) = l.take k ++ [l[k]] := by rw [List.take_succ_eq_append_getElem h]

/-! The reference's directory. -/
def latStep (nm : List UInt8) (q : Kn × Bool) (k : Kn) : Kn × Bool := if k.nm = nm ∧ (q.2 = false ∨ q.1.ver < k.ver) then (k, true) else q
def latR (l : List Kn) (nm : List UInt8) : Kn × Bool := l.foldl (latStep nm) (zeroK, false)
theorem latR_snoc {l : List Kn} {nm : List UInt8} {k : Nat} (h : k < l.length) : latR (l.take (k + 1)) nm = latStep nm (latR (l.take k) nm) l[k] := by
  unfold latR; rw [take_snoc' h, List.foldl_append]; rfl
def findR (l : List Kn) (nm : List UInt8) (v : Int) : Kn × Bool := match l.find? (fun k => decide (k.nm = nm ∧ k.ver = v)) with | some k => (k, true) | none => (zeroK, false)
theorem findR_at {l : List Kn} {nm : List UInt8} {v : Int} {k : Nat} (h : k < l.length) (hn : ∀ j (hj : j < l.length), j < k → ¬ (l[j].nm = nm ∧ l[j].ver = v)) (ha : l[k].nm = nm ∧ l[k].ver = v) : findR l nm v = (l[k], true) := by
  unfold findR
  have : l.find? (fun k => decide (k.nm = nm ∧ k.ver = v)) = some l[k] := by
    rw [List.find?_eq_some_iff_getElem]
    exact ⟨by simpa using ha, k, h, rfl, fun j hj => by simp only [Bool.not_eq_true', decide_eq_false_iff_not]; exact hn j (by omega) hj⟩
  rw [this]
theorem findR_none {l : List Kn} {nm : List UInt8} {v : Int} (hn : ∀ j (hj : j < l.length), ¬ (l[j].nm = nm ∧ l[j].ver = v)) : findR l nm v = (zeroK, false) := by
  unfold findR
  have : l.find? (fun k => decide (k.nm = nm ∧ k.ver = v)) = none := by
    rw [List.find?_eq_none]
    intro x hx
    obtain ⟨j, hj, rfl⟩ := List.getElem_of_mem hx
    simpa using hn j hj
  rw [this]
def nextStep (nm : List UInt8) (q : Int × Int) (p : Pe) : Int × Int := if p.u.nm = nm ∧ q.1 < p.u.ver then (p.u.ver, p.u.key) else q
def nextR (l : List Kn) (w : List Pe) (nm : List UInt8) : Int × Int := w.foldl (nextStep nm) ((latR l nm).1.ver, (latR l nm).1.key)
theorem fold_snoc {α β : Type} (f : β → α → β) (b : β) {l : List α} {k : Nat} (h : k < l.length) : (l.take (k + 1)).foldl f b = f ((l.take k).foldl f b) l[k] := by rw [take_snoc' h, List.foldl_append]; rfl
def i64w (n : Int) : Int := IntKind.i64.wrap n
def same (a b what : Int) : Int × Int := if a = b then (what, 0) else (0, 26)
/-- Who waits with this name and version. -/
def waitsR (w : List Pe) (u : Up) : Option Pe := w.find? (fun p => decide (p.u.nm = u.nm ∧ p.u.ver = u.ver))
theorem waitsR_at {w : List Pe} {u : Up} {k : Nat} (h : k < w.length) (hn : ∀ j (hj : j < w.length), j < k → ¬ (w[j].u.nm = u.nm ∧ w[j].u.ver = u.ver)) (ha : w[k].u.nm = u.nm ∧ w[k].u.ver = u.ver) : waitsR w u = some w[k] := by
  unfold waitsR
  rw [List.find?_eq_some_iff_getElem]
  exact ⟨by simpa using ha, k, h, rfl, fun j hj => by simp only [Bool.not_eq_true', decide_eq_false_iff_not]; exact hn j (by omega) hj⟩
theorem waitsR_none {w : List Pe} {u : Up} (hn : ∀ j (hj : j < w.length), ¬ (w[j].u.nm = u.nm ∧ w[j].u.ver = u.ver)) : waitsR w u = none := by
  unfold waitsR
  rw [List.find?_eq_none]
  intro x hx
  obtain ⟨j, hj, rfl⟩ := List.getElem_of_mem hx
  simpa using hn j hj
def decideG (find : List Kn → List UInt8 → Int → Kn × Bool) (next : List Kn → List Pe → List UInt8 → Int × Int) (l : List Kn) (w : List Pe) (u : Up) : Int × Int :=
  if rightU u = true then
    (if (find l u.nm u.ver).2 = true then same (find l u.nm u.ver).1.key u.key 2
     else match waitsR w u with
      | some p => same p.u.key u.key 1
      | none => if u.ver = i64w ((next l w u.nm).1 + 1) then (if checkU (if u.ver = 1 then u.key else (next l w u.nm).2) u = true then (0, 0) else (0, 25)) else (0, 27))
  else (0, 23)
def decideR := decideG findR nextR

/-! The program's. -/
def cmpS (a b : List UInt8) : Int := if Op.bytesLess a b = true then -1 else if a = b then 0 else 1
def cmpI (a b : Int) : Int := if a < b then -1 else if b < a then 1 else 0
def orF : List Int → Int
  | [] => 0
  | x :: r => if x = 0 then orF r else x
def ordF (nm : List UInt8) (v : Int) (k : Kn) : Int := orF [cmpS k.nm nm, cmpI k.ver v]
def ordAt (l : List Kn) (nm : List UInt8) (v : Int) (i : Nat) : Int := match l[i]? with | some k => ordF nm v k | none => 0
theorem ordAt_get {l : List Kn} {nm : List UInt8} {v : Int} {i : Nat} (h : i < l.length) : ordAt l nm v i = ordF nm v l[i] := by unfold ordAt; rw [List.getElem?_eq_getElem h]
def bsGo (l : List Kn) (nm : List UInt8) (v : Int) : Nat → Nat → Nat → Nat
  | 0, i, _ => i
  | f + 1, i, j => if i < j then (if ordAt l nm v ((i + j) / 2) < 0 then bsGo l nm v f ((i + j) / 2 + 1) j else bsGo l nm v f i ((i + j) / 2)) else i
def bsI (l : List Kn) (nm : List UInt8) (v : Int) : Nat := bsGo l nm v l.length 0 l.length
theorem bsGo_step {l : List Kn} {nm : List UInt8} {v : Int} {f i j : Nat} (h : i < j) (hf : j - i ≤ f) : bsGo l nm v f i j = if ordAt l nm v ((i + j) / 2) < 0 then bsGo l nm v (f - 1) ((i + j) / 2 + 1) j else bsGo l nm v (f - 1) i ((i + j) / 2) := by
  cases f with
  | zero => omega
  | succ f => rw [Nat.add_sub_cancel]; conv => lhs; unfold bsGo
              rw [if_pos h]
theorem bsGo_end {l : List Kn} {nm : List UInt8} {v : Int} {f i j : Nat} (h : ¬ i < j) : bsGo l nm v f i j = i := by
  cases f with
  | zero => rfl
  | succ f => unfold bsGo; rw [if_neg h]
theorem bsGo_le {l : List Kn} {nm : List UInt8} {v : Int} : ∀ (f i j : Nat), i ≤ j → bsGo l nm v f i j ≤ j
  | 0, i, j, h => h
  | f + 1, i, j, h => by
    unfold bsGo
    split
    · split
      · exact bsGo_le f _ _ (by omega)
      · exact Nat.le_trans (bsGo_le f i ((i + j) / 2) (by omega)) (by omega)
    · exact h
theorem bsI_le (l : List Kn) (nm : List UInt8) (v : Int) : bsI l nm v ≤ l.length := bsGo_le _ _ _ (Nat.zero_le _)
def placeB (l : List Kn) (nm : List UInt8) (v : Int) : Bool := decide (bsI l nm v < l.length) && decide (ordAt l nm v (bsI l nm v) = 0)
def findP (l : List Kn) (nm : List UInt8) (v : Int) : Kn × Bool := if placeB l nm v = true then (match l[bsI l nm v]? with | some k => (k, true) | none => (zeroK, false)) else (zeroK, false)
def latP (l : List Kn) (nm : List UInt8) : Kn × Bool := match l[bsI l nm 1073741825 - 1]? with
  | some k => if bsI l nm 1073741825 = 0 then (zeroK, false) else if k.nm = nm then (k, true) else (zeroK, false)
  | none => (zeroK, false)
def nextP (l : List Kn) (w : List Pe) (nm : List UInt8) : Int × Int := w.foldl (nextStep nm) ((latP l nm).1.ver, (latP l nm).1.key)
def decideP := decideG findP nextP
theorem half_eq (n : Nat) : ((n : Nat) : Int).fdiv (2 ^ (min (1 : Int).toNat IntKind.u64.bits)) = ((n / 2 : Nat) : Int) := by
  have : (2 : Int) ^ (min (1 : Int).toNat IntKind.u64.bits) = 2 := by decide
  rw [this, Int.fdiv_eq_ediv_of_nonneg _ (by omega)]; omega
theorem wrap_nat (n : Nat) (h : n ≤ 281474976710656) : IntKind.i64.wrap (n : Int) = n := by rw [IntKind.wrap_i64]; omega
theorem wrap_natu (n : Nat) (h : n ≤ 281474976710656) : IntKind.u64.wrap (n : Int) = n := by rw [IntKind.wrap_u64]; omega
theorem wrap_add (i j : Nat) (h : i + j ≤ 281474976710656) : IntKind.i64.wrap ((i : Int) + j) = ((i + j : Nat) : Int) := by rw [IntKind.wrap_i64]; omega
end Go.Proofs.Ytkkgjmfnlabbdaa
