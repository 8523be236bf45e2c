/-
  A logic of walks: aggregates compared; slices of nothing; rows that grow; a row's tail cleared; strings and bytes.
-/
import Derived.Test.YthbcbfghfhecjaaPr
import Derived.DeepKeys
import Derived.Lib.ConvBytes
import Derived.Lib.SliceRun
namespace Go.Proofs.Ythbcbfghfhecjaa.Pl
set_option linter.unusedVariables false
set_option linter.unusedSimpArgs false
open Go.RowKit

/-! Aggregates of plain values are compared. -/
inductive LK where
  | b
  | i (k : IntKind)
  | s
def LK.lit : LK → Value → Option Lit
  | .b, .bool x => some (.bool x)
  | .i k, .int q n => if q = k ∧ (Lit.int k n).wf = true then some (.int k n) else none
  | .s, .string x => if x.size ≤ maxLen then some (.string x.data.toList) else none
  | _, _ => none
def lits : List LK → List Value → Option (List Lit)
  | [], [] => some []
  | k :: ks, u :: us => match k.lit u, lits ks us with
    | some l, some r => some (l :: r)
    | _, _ => none
  | _, _ => none
theorem lit_inj {k : LK} {u v : Value} {l : Lit} (h : k.lit u = some l) (h' : k.lit v = some l) : u = v := by
  cases k <;> cases u <;> simp only [LK.lit] at h <;> try cases h
  · cases v <;> simp only [LK.lit] at h' <;> try cases h'
    rfl
  · split at h
    · cases h
      cases v <;> simp only [LK.lit] at h' <;> try cases h'
      split at h'
      · rename_i h2
        simp only [Option.some.injEq, Lit.int.injEq, true_and] at h'
        subst h'
        simp_all
      · cases h'
    · cases h
  · split at h
    · cases h
      cases v <;> simp only [LK.lit] at h' <;> try cases h'
      split at h'
      · rename_i h1 s2 h2
        have := Option.some.inj h'
        rename_i s1
        have e : s1.data.toList = s2.data.toList := by simpa using this.symm
        have : s1 = s2 := by cases s1; cases s2; simp only [Array.toList_inj] at e; subst e; rfl
        rw [this]
      · cases h'
    · cases h
theorem lits_inj : ∀ {ks : List LK} {us vs : List Value} {l : List Lit}, lits ks us = some l → lits ks vs = some l → us = vs
  | [], us, vs, l, h, h' => by cases us <;> cases vs <;> simp [lits] at h h' ⊢
  | k :: ks, [], vs, l, h, h' => by simp [lits] at h
  | k :: ks, u :: us, [], l, h, h' => by simp [lits] at h'
  | k :: ks, u :: us, v :: vs, l, h, h' => by
    simp only [lits] at h h'
    split at h
    · rename_i a r h1 h2
      cases h
      split at h'
      · rename_i a' r' h3 h4
        simp only [Option.some.injEq, List.cons.injEq] at h'
        obtain ⟨rfl, rfl⟩ := h'
        rw [lit_inj h1 h3, lits_inj h2 h4]
      · cases h'
    · cases h
theorem lits_length : ∀ {ks : List LK} {us : List Value} {l : List Lit}, lits ks us = some l → us.length = ks.length
  | [], us, l, h => by cases us <;> simp [lits] at h ⊢
  | k :: ks, [], l, h => by simp [lits] at h
  | k :: ks, u :: us, l, h => by
    simp only [lits] at h
    split at h
    · rename_i h1 h2; simp [lits_length h2]
    · cases h
theorem lits_app : ∀ {ks ls : List LK} {us : List Value} {l : List Lit}, lits (ks ++ ls) us = some l → ∃ a b, lits ks (us.take ks.length) = some a ∧ lits ls (us.drop ks.length) = some b ∧ l = a ++ b
  | [], ls, us, l, h => ⟨[], l, by simp [lits], by simpa using h, rfl⟩
  | k :: ks, ls, [], l, h => by simp [lits] at h
  | k :: ks, ls, u :: us, l, h => by
    simp only [List.cons_append, lits] at h
    split at h
    · rename_i x r h1 h2
      cases h
      obtain ⟨a, b, h3, h4, rfl⟩ := lits_app h2
      exact ⟨x :: a, b, by simp [lits, h1, h3], by simpa using h4, rfl⟩
    · cases h
/-- The leaves of a type. -/
def lrep (l : List LK) : Nat → List LK
  | 0 => []
  | n + 1 => l ++ lrep l n
def layF (P : Program) (g : TypeId → Option (List LK)) : Nat → List Field → Option (List LK)
  | _, [] => some []
  | off, f :: fs => match g f.type, layF P g (off + P.cellsOf f.type) fs with
    | some a, some b => if f.offset = off ∧ f.name ≠ "_" ∧ a.length = P.cellsOf f.type then some (a ++ b) else none
    | _, _ => none
def lay (P : Program) : Nat → TypeId → Option (List LK)
  | 0, _ => none
  | d + 1, t => match P.underlying t with
    | some .bool => some [.b]
    | some (.int k) => some [.i k]
    | some .string => some [.s]
    | some (.array n e) => match lay P d e with
      | some l => if l.length = P.cellsOf e ∧ n * l.length = P.cellsOf t then some (lrep l n) else none
      | none => none
    | some (.struct fs) => match layF P (lay P d) 0 fs.toList with
      | some l => if l.length = P.cellsOf t then some l else none
      | none => none
    | _ => none
theorem lrep_length (l : List LK) : ∀ n, (lrep l n).length = n * l.length
  | 0 => by simp [lrep]
  | n + 1 => by simp [lrep, lrep_length l n, Nat.succ_mul, Nat.add_comm]
theorem mapM_rep {P : Program} {d e m : Nat} {l : List LK} (hl : l.length = m) (ih : ∀ us r, lits l us = some r → P.keyLits d e us = some r) : ∀ (n k : Nat) (us : List Value) (r : List Lit), lits (lrep l n) (us.drop (k * m)) = some r →
    ∃ rs, (List.range' k n).mapM (fun i => P.keyLits d e ((us.drop (i * m)).take m)) = some rs ∧ rs.flatten = r
  | 0, k, us, r, h => by
    simp only [lrep] at h
    cases hd : us.drop (k * m) with
    | nil => rw [hd] at h; simp [lits] at h; subst h; exact ⟨[], by simp, rfl⟩
    | cons a b => rw [hd] at h; simp [lits] at h
  | n + 1, k, us, r, h => by
    simp only [lrep] at h
    obtain ⟨a, b, h1, h2, rfl⟩ := lits_app h
    rw [List.drop_drop, hl, show k * m + m = (k + 1) * m by rw [Nat.succ_mul]] at h2
    rw [hl] at h1
    obtain ⟨rs, h3, h4⟩ := mapM_rep hl ih n (k + 1) us b h2
    refine ⟨a :: rs, ?_, by simp [h4]⟩
    rw [List.range'_succ, List.mapM_cons, ih _ _ h1]
    simp [h3]
theorem mapM_fld {P : Program} {d : Nat} (ih : ∀ t l us r, lay P d t = some l → lits l us = some r → P.keyLits d t us = some r) : ∀ (fs : List Field) (off : Nat) (l : List LK) (us : List Value) (r : List Lit), layF P (lay P d) off fs = some l → lits l (us.drop off) = some r →
    (∃ rs, fs.mapM (fun f => P.keyLits d f.type ((us.drop f.offset).take (P.cellsOf f.type))) = some rs ∧ rs.flatten = r) ∧ fs.all (·.name != "_") = true
  | [], off, l, us, r, h, h' => by
    simp [layF] at h; subst h
    cases hd : us.drop off with
    | nil => rw [hd] at h'; simp [lits] at h'; subst h'; exact ⟨⟨[], by simp, rfl⟩, rfl⟩
    | cons a b => rw [hd] at h'; simp [lits] at h'
  | f :: fs, off, l, us, r, h, h' => by
    simp only [layF] at h
    split at h
    · rename_i a b h1 h2
      split at h
      · rename_i h3
        cases h
        obtain ⟨h4, h5, h6⟩ := h3
        obtain ⟨x, y, k1, k2, rfl⟩ := lits_app h'
        rw [List.drop_drop, h6] at k2
        rw [h6] at k1
        obtain ⟨⟨rs, k3, k4⟩, k5⟩ := mapM_fld ih fs (off + P.cellsOf f.type) b us y h2 k2
        refine ⟨⟨x :: rs, ?_, by simp [k4]⟩, by simp only [List.all_cons, k5, Bool.and_true]; simpa using h5⟩
        rw [List.mapM_cons, h4, ih _ _ _ _ h1 k1]
        simp [k3]
      · cases h
    · cases h
theorem lits_one {k : LK} {us : List Value} {r : List Lit} (h : lits [k] us = some r) : ∃ u l, us = [u] ∧ k.lit u = some l ∧ r = [l] := by
  cases us with
  | nil => simp [lits] at h
  | cons u us =>
    cases us with
    | nil =>
      simp only [lits] at h
      split at h
      · rename_i a b h1 h2; cases h2; cases h; exact ⟨u, a, rfl, h1, rfl⟩
      · cases h
    | cons v vs => simp [lits] at h
theorem lay_keys {P : Program} : ∀ (d : Nat) (t : TypeId) (l : List LK) (us : List Value) (r : List Lit), lay P d t = some l → lits l us = some r → P.keyLits d t us = some r
  | 0, t, l, us, r, h, _ => by simp [lay] at h
  | d + 1, t, l, us, r, h, h' => by
    unfold lay at h
    unfold Program.keyLits
    split at h
    · rename_i hu; cases h
      obtain ⟨u, a, rfl, h1, rfl⟩ := lits_one h'
      rw [hu]; cases u <;> simp [LK.lit] at h1 ⊢; exact h1
    · rename_i k hu; cases h
      obtain ⟨u, a, rfl, h1, rfl⟩ := lits_one h'
      rw [hu]; cases u <;> simp [LK.lit] at h1 ⊢
      exact ⟨⟨h1.1.1, h1.1.2⟩, h1.2⟩
    · rename_i hu; cases h
      obtain ⟨u, a, rfl, h1, rfl⟩ := lits_one h'
      rw [hu]; cases u <;> simp [LK.lit] at h1 ⊢
      exact h1
    · rename_i n e hu
      split at h
      · rename_i l0 hl0
        split at h
        · rename_i hs; cases h
          have hlen : us.length = P.cellsOf t := by rw [lits_length h', lrep_length, hs.2]
          obtain ⟨rs, k1, k2⟩ := mapM_rep (P := P) (d := d) (e := e) hs.1 (fun us r h => lay_keys d e l0 us r hl0 h) n 0 us r (by simpa using h')
          rw [hu]
          rw [← List.range_eq_range'] at k1
          cases us with
          | nil => simp only [hlen, if_true, k1, Option.map_some, k2]
          | cons u us => simp only [hlen, if_true, k1, Option.map_some, k2]
        · cases h
      · cases h
    · rename_i fs hu
      split at h
      · rename_i l0 hl0
        split at h
        · rename_i hs; cases h
          have hlen : us.length = P.cellsOf t := by rw [lits_length h', hs]
          obtain ⟨⟨rs, k1, k2⟩, k3⟩ := mapM_fld (P := P) (d := d) (fun t l us r h h' => lay_keys d t l us r h h') fs.toList 0 l us r hl0 (by simpa using h')
          rw [hu]
          have k3' : fs.all (·.name != "_") = true := by rw [← k3]; simp
          cases us with
          | nil => simp only [hlen, k3', and_self, if_true, k1, Option.map_some, k2]
          | cons u us => simp only [hlen, k3', and_self, if_true, k1, Option.map_some, k2]
        · cases h
      · cases h
    · cases h
/-- A type whose values are compared leaf by leaf. -/
def isAg (P : Program) (t : TypeId) : Bool := match P.underlying t with
  | some (.array _ _) => true
  | some (.struct _) => true
  | _ => false
def eqT (P : Program) (t : TypeId) : Option (List LK) := bif P.keyTypeAt 4 t && (!P.eqGuardType P.depth t && isAg P t) then lay P 4 t else none
theorem eqT_parts {P : Program} {t : TypeId} {ks : List LK} (h : eqT P t = some ks) : P.keyTypeAt 4 t = true ∧ P.eqGuardType P.depth t = false ∧ isAg P t = true ∧ lay P 4 t = some ks := by
  unfold eqT at h
  cases h1 : P.keyTypeAt 4 t <;> cases h2 : P.eqGuardType P.depth t <;> cases h3 : isAg P t <;> simp_all
theorem equal_ag {P : Program} {t : TypeId} {ks : List LK} {us vs : List Value} {l m : List Lit} (ht : eqT P t = some ks) (hu : lits ks us = some l) (hv : lits ks vs = some m) (w : World) : ∃ r : Bool, (Op.equalIn 10000 t (.agg us.toArray) (.agg vs.toArray)).run P w = .ok r w ∧ (r = true ↔ us = vs) := by
  obtain ⟨h1, _, h2, ht⟩ := eqT_parts ht
  have hlen : ∀ (us : List Value) (l : List Lit), lits ks us = some l → (Value.agg us.toArray).formed P t = true := fun us l hu => by
    have e := lits_length hu
    have k := lay_keys _ _ _ _ _ ht hu
    unfold Program.keyLits at k
    unfold Value.formed
    unfold isAg at h2
    cases hk : P.underlying t with
    | none => rw [hk] at h2; simp at h2
    | some kd =>
      rw [hk] at h2 k
      cases kd <;> simp at h2
      · simp only at k
        split at k
        · rename_i q; simp [q]
        · cases k
      · simp only at k
        split at k
        · rename_i q; simp [q.1]
        · cases k
  obtain ⟨r, k1, k2⟩ := run_equalIn_deep 9996 4 t h1 w 4 4 (.agg us.toArray) (.agg vs.toArray) l m (hlen _ _ hu) (hlen _ _ hv) (by simpa [Value.cells] using lay_keys _ _ _ _ _ ht hu) (by simpa [Value.cells] using lay_keys _ _ _ _ _ ht hv)
  refine ⟨r, k1, k2.trans ⟨fun e => ?_, fun e => ?_⟩⟩
  · subst e; exact lits_inj hu hv
  · subst e; rw [hu] at hv; exact Option.some.inj hv
theorem eqT_guard {P : Program} {t : TypeId} {ks : List LK} (ht : eqT P t = some ks) : P.eqGuardType P.depth t = false := (eqT_parts ht).2.1
theorem grow_nil_run {P : Program} (w : World) (t ti ty e : TypeId) (i : TypeInfo) (z : Value) (ht : P.underlying t = some (.slice e)) (hti : P.underlying ti = some (.int .i64)) (hi : P.info? e = some i) (hz : i.zero = some z)
    (n : Nat) (h0 : 0 < n) (hs : 0 < i.size) (h63 : (n : Int) ≤ 9223372036854775807) (h48 : n * i.bytes ≤ 281474976710656) :
    (Builtin.append_ #[t, ti] ty #[.slice none 0 0, .int .i64 (n : Int)]).run P w =
      .ok (.slice (some ⟨w.heap.size, 0, none⟩) n (grownCap w n 0 e)) (w.drew.alloc (.cells (Builtin.zeroCells z.cells n ++ Builtin.zeroCells z.cells (grownCap w n 0 e - n)) e)) := by
  have hn : n ≠ 0 := by omega
  have hn' : n * i.size ≠ 0 := Nat.mul_ne_zero hn (by omega)
  have hw : IntKind.i64.wrap (n : Int) = n := by rw [IntKind.wrap_i64]; omega
  have h63' : ¬ (9223372036854775807 < (n : Int)) := by omega
  have h48' : ¬ (281474976710656 < Builtin.nextslicecap n 0 * i.bytes) := by rw [nextslicecap_zero h0]; omega
  have h48'' : ¬ ((281474976710656 : Int) < (n : Int) * (i.bytes : Int)) := by
    have : ((n * i.bytes : Nat) : Int) ≤ 281474976710656 := by omega
    rw [Int.natCast_mul] at this; omega
  have hneg : ¬ ((n : Int) < 0) := by omega
  have hs' : i.size ≠ 0 := by omega
  simp [Builtin.append_, run_underlying ht, run_underlying hti, sizeOf, typeInfo, zeroValue, hi, hz, asInt, asIntOf, hw, hneg, hn, hs', h63', h48', h48'', Question.forced, Builtin.firstCells, newRow, grownCap]
  intro h; exact absurd h hn'
section
variable {P : Program} {C : Cx} {L : Lo} {Γ : Ga} {d : Nat} {ty : TypeId} {pos : String} {af : Array Edge} {gd : Option (Nat × Bool)}
theorem ag_val {x : Operand} {cs : List DV} {us : List Value} {a : Act} {w : World} {ρ : Rho} (h : RepsAt C ρ L Γ a w) (hx : evd L x = some (.ag cs)) (hc : vals cs = some us) : a.eval x = .agg us.toArray := by
  have := evd_rep h hx
  unfold DV.rep at this
  obtain ⟨vs, h1, h2⟩ := this
  rw [h1, (vals_rep hc).1 h2]
theorem OT.eqag {xt yt : TypeId} {x y : Operand} {cs ds : List DV} {us vs : List Value} {ks : List LK} {l m : List Lit} (r : Bool) (hn : Nat.blt d C.n = true) (hx : evd L x = some (.ag cs)) (hy : evd L y = some (.ag ds)) (hc : vals cs = some us) (hd : vals ds = some vs) (ht : eqT P xt = some ks) (hu : lits ks us = some l) (hv : lits ks vs = some m) (hr : r = true ↔ us = vs) :
    OT P C ⟨some d, .binOp .eql xt x y yt, ty, pos, af, gd⟩ L Γ (upd L d (.f (.v (.bool r)))) Γ :=
  OT.value hn (fun g hg => by simp [AV.id] at hg) fun ρ a w h => by
    obtain ⟨r', h1, h2⟩ := equal_ag ht hu hv w
    have e : r' = r := by cases r <;> cases r' <;> simp_all
    subst e
    exact ⟨.bool r', by simp [execOp, ag_val h hx hc, ag_val h hy hd, run_eqGuard_agg w _ _ _ _ _ _ (eqT_guard ht), run_eql_struct, h1], rfl⟩
theorem OT.neag {xt yt : TypeId} {x y : Operand} {cs ds : List DV} {us vs : List Value} {ks : List LK} {l m : List Lit} (r : Bool) (hn : Nat.blt d C.n = true) (hx : evd L x = some (.ag cs)) (hy : evd L y = some (.ag ds)) (hc : vals cs = some us) (hd : vals ds = some vs) (ht : eqT P xt = some ks) (hu : lits ks us = some l) (hv : lits ks vs = some m) (hr : r = true ↔ ¬ us = vs) :
    OT P C ⟨some d, .binOp .neq xt x y yt, ty, pos, af, gd⟩ L Γ (upd L d (.f (.v (.bool r)))) Γ :=
  OT.value hn (fun g hg => by simp [AV.id] at hg) fun ρ a w h => by
    obtain ⟨r', h1, h2⟩ := equal_ag ht hu hv w
    have e : (!r') = r := by cases r <;> cases r' <;> simp_all
    subst e
    exact ⟨.bool (!r'), by simp [execOp, ag_val h hx hc, ag_val h hy hd, run_eqGuard_agg w _ _ _ _ _ _ (eqT_guard ht), run_neq_struct, h1], rfl⟩
/-! Slices of nothing. -/
theorem OT.len0 {t : TypeId} {x : Operand} (hn : Nat.blt d C.n = true) (hx : evv L x = some (.slice none 0 0)) (ht : isSl P t = some true) :
    OT P C ⟨some d, .call { callee := .builtin .len, args := #[x], argTypes := #[t] }, ty, pos, af, gd⟩ L Γ (upd L d (.f (.v (.int .i64 0)))) Γ :=
  OT.value hn (fun g hg => by simp [AV.id] at hg) fun ρ a w h => ⟨_, by simp [execOp, resolve, invoke, builtin, evv_eval h hx, len_sl ht], rfl⟩
theorem OT.cap0 {t e n : Nat} {x : Operand} (hn : Nat.blt d C.n = true) (hx : evv L x = some (.slice none 0 0)) (ht : elt P t = some (e, n)) :
    OT P C ⟨some d, .call { callee := .builtin .cap, args := #[x], argTypes := #[t] }, ty, pos, af, gd⟩ L Γ (upd L d (.f (.v (.int .i64 0)))) Γ :=
  OT.value hn (fun g hg => by simp [AV.id] at hg) fun ρ a w h => by
    obtain ⟨hu, j, hi, hj⟩ := elt_parts ht
    exact ⟨.int .i64 0, by simp [execOp, resolve, invoke, builtin, evv_eval h hx, Builtin.cap_, run_underlying hu, goInt], rfl⟩
theorem OT.slice0 {t e n : Nat} {x : Operand} {lo hi : Option Operand} (hn : Nat.blt d C.n = true) (hx : evv L x = some (.slice none 0 0)) (ht : elt P t = some (e, n)) (hl : bnd L 0 lo = some 0) (hh : bnd L 0 hi = some 0) :
    OT P C ⟨some d, .slice t x lo hi none, ty, pos, af, gd⟩ L Γ (upd L d (.f (.v (.slice none 0 0)))) Γ :=
  OT.value hn (fun g hg => by simp [AV.id] at hg) fun ρ a w h => by
    obtain ⟨hu, j, hi', hj⟩ := elt_parts ht
    have hb := bounds_run (P := P) h true 0 0 (Nat.le_refl _) hl hh (Int.le_refl 0) (Int.le_refl 0) (Int.le_refl 0)
    exact ⟨.slice none 0 0, by simp at hb; simp [execOp, evv_eval h hx, Instr.sliceAt, Instr.slice, run_underlying hu, hb, sizeOf, typeInfo, hi', hj], rfl⟩
/-- append(nothing, make(.., n)...) -/
theorem OT.grow0 {t ti e sz by_ n : Nat} {s x : Operand} {zs : List Value} (g : Nat) (hn : Nat.blt d C.n = true) (hs : evv L s = some (.slice none 0 0)) (hx : evv L x = some (.int .i64 (n : Int))) (hg : Γ g = none) (ht : apt P t = some (e, sz, by_)) (hti : ukd P ti = some .i64) (hz : zc P e = some zs) (h1 : zs.all Value.oneCell' = true)
    (h0 : 0 < n) (hbig : n * by_ ≤ 281474976710656) (hmax : n ≤ maxLen) :
    OT P C ⟨some d, .call { callee := .builtin .append, args := #[s, x], argTypes := #[t, ti] }, ty, pos, af, gd⟩ L Γ (upd L d (.ow g n sz)) (upd Γ g (.row e sz [])) :=
  OT.turns fun ρ a w h => by
    obtain ⟨hu, i, z, hi, hz', hsz, hby, hzs, hp⟩ := apt_parts ht
    have hti' : P.underlying ti = some (.int .i64) := by
      unfold ukd at hti
      split at hti
      · rename_i q; rw [q]; cases hti; rfl
      · cases hti
    have hr := grow_nil_run (P := P) w t ti ty e i z hu hti' hi hz' n h0 (by omega) (by unfold maxLen at hmax; omega) (by rw [hby]; exact hbig)
    have hcap := grownCap_ge w n 0 e
    have hcap2 := grownCap_le_maxLen w n 0 e hmax
    have hsize : (Builtin.zeroCells z.cells n ++ Builtin.zeroCells z.cells (grownCap w n 0 e - n)).size = grownCap w n 0 e * sz := by
      simp only [Array.size_append, size_zeroCells, hzs, ← Nat.add_mul]
      congr 1; omega
    refine ⟨.slice (some ⟨w.heap.size, 0, none⟩) n (grownCap w n 0 e), w.drew.alloc (.cells (Builtin.zeroCells z.cells n ++ Builtin.zeroCells z.cells (grownCap w n 0 e - n)) e), by simp only [execOp, resolve, invoke, builtin, Sem.run_bind, Sem.run_pure, Result.andThen_ok, List.map_toArray, List.map_cons, List.map_nil, evv_eval h hs, evv_eval h hx, hr], ?_⟩
    generalize hcs : (Builtin.zeroCells z.cells n ++ Builtin.zeroCells z.cells (grownCap w n 0 e - n)) = cs at hsize ⊢
    obtain ⟨ρ', hr', hρ, _⟩ := h.fresh (g := g) (b := w.heap.size) (o' := .row e sz []) hg (grown_alloc_drew w (.cells cs e)) ⟨Nat.le_refl _, by simp⟩ (by simp) rfl
      (fun K hK _ => .inr ⟨w.heap.size, cs.toList, grownCap w n 0 e, rfl, by rw [Array.toArray_toList]; exact heap_alloc_new w.drew _, by simpa using hsize, hcap2, by simp, by simp [repL], by simp⟩)
    refine ⟨ρ', hr'.put (by simpa using hn) (fun ob hob => ?_) (fun g' hg' => ?_)⟩
    · rw [hρ] at hob; cases hob
      refine .inr ⟨w.heap.size, grownCap w n 0 e, rfl, rfl, hcap, hcap2, ?_⟩
      have hh : (w.drew.alloc (.cells cs e)).heap[w.heap.size]? = some (.cells cs e (0, 0)) := heap_alloc_new w.drew _
      unfold bsz; rw [hh]; exact hsize.symm
    · cases hg'; rw [upd_same]; simp
/-- The tail of a row is cleared: what stood there is forgotten. -/
theorem OT.clear {t e n sz g off : Nat} {x : Operand} {o : AO} {cs : List DV} {zs : List Value} (hx : ev L x = some (.bs g off n sz)) (hg : Γ g = some o) (ho : o.cells = some cs) (hrow : (match o with | .row .. => true | .mrow .. => true | _ => false) = true) (ht : elt P t = some (e, sz)) (hz : zc P e = some zs) (hzl : zs.length = sz) (h0 : 0 < n) (h1 : zs.all Value.oneCell' = true) (hle : off ≤ cs.length) :
    OT P C ⟨none, .call { callee := .builtin .clear, args := #[x], argTypes := #[t] }, ty, pos, af, gd⟩ L Γ L (upd Γ g (o.re (cs.take off))) := by
  rintro a w ⟨ρ, h⟩
  have hd : o ≠ .dead := by rintro rfl; simp [AO.cells] at ho
  obtain ⟨ob, hb, hr⟩ := h.obj g _ hg hd
  obtain ⟨b, c, e', hv, k2, k3, k4⟩ := ev_rep h hx _ hb
  cases e'
  obtain ⟨hu, j, hi, hj⟩ := elt_parts ht
  obtain ⟨us, T, q1, q0, q2, q3, back⟩ := AO.vals ho hr
  obtain ⟨z, hz1, hz2⟩ := zc_run hz w
  have hsz : z.cells.size = sz := by rw [← hzl, ← hz2]; simp
  have hbs : bsz w b = us.length := by unfold bsz; rw [q1]; simp
  have hzr : (Builtin.zeroCells z.cells n).toList.length = n * sz := by simp [size_zeroCells, hsz]
  have hfit : off + (Builtin.zeroCells z.cells n).toList.length ≤ us.length := by
    rw [hzr, ← hbs]
    exact Nat.le_trans (Nat.add_le_add_left (Nat.mul_le_mul_right _ k2) _) k4
  have hone : ∀ u ∈ (Builtin.zeroCells z.cells n).toList, u.oneCell' = true := fun u hu' => by
    have : u ∈ zs := by
      rw [← hz2]
      simp only [Builtin.zeroCells, Array.toList_map, List.mem_map] at hu'
      obtain ⟨k, hk, rfl⟩ := hu'
      rcases Nat.eq_zero_or_pos z.cells.size with q | q
      · simp [q] at hk
      · have : k % z.cells.size < z.cells.size := Nat.mod_lt _ q
        simp [getElem!_def, this]
    exact List.all_eq_true.1 h1 u this
  obtain ⟨s1, s2, s3, s4⟩ := heap_row_turn (P := P) q1 (off := off) hfit hone
  unfold Oper.wp
  have hrun : (execOp a.eval ⟨none, .call { callee := .builtin .clear, args := #[x], argTypes := #[t] }, ty, pos, af, gd⟩).run P w = .ok (.value (.tuple #[])) (w.setRow b (splice us off (Builtin.zeroCells z.cells n).toList).toArray) := by
    obtain ⟨m, rfl⟩ : ∃ m, n = m + 1 := ⟨n - 1, by omega⟩
    simp [execOp, resolve, invoke, builtin, hv, Builtin.clear_, run_underlying hu, hz1, s1]
  rw [hrun, Oper.upon_value]
  have hk : Keeps (KK C.K0 ρ Γ) (KK C.K0 ρ Γ) w (w.setRow b (splice us off (Builtin.zeroCells z.cells n).toList).toArray) := fun b' hb' hn => ⟨s3.block b' hb' (fun e => hn (.inr ⟨g, ⟨_, hg, hd⟩, by rw [hb]; cases e; rfl⟩)), Nat.lt_of_lt_of_le hb' s3.size, hn⟩
  have htl : (cs.take off).length = off := by simp; omega
  have key : ∀ T' sz' cs', (AO.row T' sz' cs').rep (KK C.K0 ρ Γ) w (some b) → cs' = cs → (AO.row T' sz' (cs.take off)).rep (KK C.K0 ρ Γ) (w.setRow b (splice us off (Builtin.zeroCells z.cells n).toList).toArray) (some b) := fun T' sz' cs' hrep ecs => by
    subst ecs
    rcases hrep with ⟨q, _⟩ | ⟨b', us', cap, q, p1, p2, p3, p4, p5, p6⟩
    · cases q
    · cases q
      have p1' := p1
      rw [q1] at p1
      simp only [Option.some.injEq, Obj.cells.injEq, List.toArray_inj] at p1
      have eu : us = us' := by simpa using p1.1
      have et : T = T' := p1.2.1
      subst eu; subst et
      refine .inr ⟨b, _, cap, rfl, s2, ?_, p3, ?_, ?_, ?_⟩
      · rw [splice_length hfit]; exact p2
      · rw [htl, splice_length hfit]; omega
      · rw [htl, show (splice us off (Builtin.zeroCells z.cells n).toList).take off = us.take off by
          unfold splice; rw [List.append_assoc, List.take_append_of_le_length (by simp; omega), List.take_take, Nat.min_self]]
        have := repL_take off p5
        rw [List.take_take, Nat.min_eq_left hle] at this
        exact repL_mono hk _ _ this
      · intro u hu'
        rw [htl, show (splice us off (Builtin.zeroCells z.cells n).toList).take off = us.take off by
          unfold splice; rw [List.append_assoc, List.take_append_of_le_length (by simp; omega), List.take_take, Nat.min_self]] at hu'
        refine p6 u ?_
        rw [← Nat.min_eq_left hle, ← List.take_take] at hu'
        exact List.mem_of_mem_take hu'
  refine ⟨ρ, h.turn ⟨_, hg, hd⟩ hb s3 s4 (AO.re_dead _ _ hd) (fun o' ho' => by rw [hg] at ho'; cases ho'; exact (AO.re_key _ _).symm) ?_⟩
  cases o with
  | dead => exact absurd rfl hd
  | box T cs' => simp at hrow
  | mbox k' T cs' => simp at hrow
  | row T' sz' cs' => simp only [AO.cells, Option.some.injEq] at ho; exact key T' sz' cs' hr ho
  | mrow k' T' sz' cs' => simp only [AO.cells, Option.some.injEq] at ho; exact key T' sz' cs' hr ho
/-! Strings and bytes. -/
def u8s (P : Program) (t : TypeId) : Option TypeId := match P.underlying t with
  | some (.slice e) => match P.underlying e with
    | some (.int .u8) => some e
    | _ => none
  | _ => none
theorem u8s_parts {t e : TypeId} (h : u8s P t = some e) : P.underlying t = some (.slice e) ∧ P.underlying e = some (.int .u8) := by
  unfold u8s at h
  split at h
  · rename_i e' h1
    split at h
    · rename_i h2; cases h; exact ⟨h1, h2⟩
    · cases h
  · cases h
def uks (P : Program) (t : TypeId) : Bool := match P.underlying t with
  | some .string => true
  | _ => false
theorem uks_part {t : TypeId} (h : uks P t = true) : P.underlying t = some .string := by
  unfold uks at h
  split at h
  · assumption
  · cases h
theorem u8_get (l : List UInt8) (i : Nat) : (l.flatMap bdv)[i]? = (l[i]?).map fun b => .v (.int .u8 b.toNat) := by
  induction l generalizing i with
  | nil => simp
  | cons x r ih =>
    cases i with
    | zero => rfl
    | succ i => show ((DV.v (.int .u8 x.toNat)) :: r.flatMap bdv)[i + 1]? = _; simpa using ih i
theorem rd_cells {K : Nat → Prop} {w : World} {l : List UInt8} {b o : Nat} (h : repAt K w (l.flatMap bdv) b o) (j : Nat) (x : UInt8) (hj : l[j]? = some x) : w.cell? ⟨b, o + j, none⟩ = some (.int .u8 x.toNat) := by
  obtain ⟨u, h1, _, h2⟩ := repAt_get h (i := j) (X := .v (.int .u8 x.toNat)) (by rw [u8_get, hj]; rfl)
  unfold DV.rep at h2
  rw [h1, h2]
theorem u8_cells {K : Nat → Prop} {w : World} : ∀ {l : List UInt8} {b o : Nat}, (∀ j x, l[j]? = some x → w.cell? ⟨b, o + j, none⟩ = some (.int .u8 x.toNat)) → repAt K w (l.flatMap bdv) b o
  | [], b, o, h => by simp [repAt]
  | x :: r, b, o, h => by
    show repAt K w (DV.v (.int .u8 x.toNat) :: r.flatMap bdv) b o
    unfold repAt
    refine ⟨⟨_, h 0 x rfl, rfl, by simp [DV.rep]⟩, u8_cells fun j y hj => ?_⟩
    rw [show o + 1 + j = o + (j + 1) by omega]
    exact h (j + 1) y (by simpa using hj)
/-- []byte(s). -/
theorem OT.convsb {src dst e : TypeId} {x : Operand} {l : List UInt8} (hn : Nat.blt d C.n = true) (hx : evv L x = some (.string ⟨⟨l⟩⟩)) (hs : uks P src = true) (hd : u8s P dst = some e) (hl : l.length ≤ 1099511627776) :
    OT P C ⟨some d, .convert src dst x, ty, pos, af, gd⟩ L Γ (upd L d (.f (slT bdv 1 l))) Γ :=
  OT.turns fun ρ a w h => by
    obtain ⟨h1, h2⟩ := u8s_parts hd
    have hr := Lib.run_convert_string_bytes (P := P) w src dst e ⟨⟨l⟩⟩ (uks_part hs) h1 h2
    have hb : Below w.heap.size w (Lib.bytesWorld w e ⟨⟨l⟩⟩) := ⟨by simp [Lib.bytesWorld, World.freeze, World.alloc, World.drew, -World.alloc_eq, -World.drew_eq], rfl, by simp [Lib.bytesWorld, World.freeze, World.alloc, World.drew, -World.alloc_eq, -World.drew_eq], by rw [Lib.bytesWorld_size]; omega, fun k hk => Lib.bytesWorld_at_old w _ _ k hk⟩
    have hsz : (ByteArray.mk ⟨l⟩).size = l.length := rfl
    refine ⟨.slice (some ⟨w.heap.size, 0, none⟩) l.length (grownCap w l.length 0 e), Lib.bytesWorld w e ⟨⟨l⟩⟩, by simp only [execOp, evv_eval h hx, Sem.run_bind, hr, Result.andThen_ok, Sem.run_pure]; rfl, ρ, (h.ext hb).put (by simpa using hn) ?_ (fun g hg => by simp [AV.id] at hg)⟩
    show DV.rep _ _ (.sl 1 l.length (l.flatMap bdv)) _
    unfold DV.rep
    refine .inr ⟨w.heap.size, 0, _, rfl, grownCap_ge w l.length 0 _, grownCap_le_maxLen w l.length 0 _ (by unfold maxLen; omega), flat_length (enc := bdv) (fun _ => rfl) l, .inr ⟨by rw [Lib.bytesWorld_size]; omega, fun hk => ?_⟩, u8_cells fun j x hj => ?_⟩
    · have := kk_lt h w.heap.size hk; omega
    · have hj' := (List.getElem?_eq_some_iff.1 hj).1
      rw [Nat.zero_add, Lib.bytesWorld_cell w e ⟨⟨l⟩⟩ j hj']
      simp [hj]
/-- string(b). -/
theorem conv_bytes {src dst e : TypeId} {l : List UInt8} {v : Value} {w : World} (hs : u8s P src = some e) (hd : uks P dst = true) (h : (slT bdv 1 l).rep noK w v) : (convert src dst v).run P w = .ok (.string ⟨⟨l⟩⟩) w := by
  obtain ⟨h1, h2⟩ := u8s_parts hs
  unfold slT DV.rep at h
  rcases h with ⟨rfl, hn, _⟩ | ⟨b, o, c, rfl, k1, k2, k3, k4, k5⟩
  · have : l = [] := List.eq_nil_of_length_eq_zero hn
    subst this
    exact run_convert_bytes_nil w src e h1 h2 0 0 _ (uks_part hd)
  · refine run_convert_bytes_back w _ _ _ ⟨b, o, none⟩ c l h1 h2 (uks_part hd) (fun j hj => ?_)
    rw [addr_add]
    exact rd_cells k5 j l[j] (List.getElem?_eq_getElem hj)
theorem OT.convbs {src dst e : TypeId} {x : Operand} {l : List UInt8} {A : AV} (hn : Nat.blt d C.n = true) (hx : ev L x = some A) (hA : rdv Γ A = some (slT bdv 1 l)) (hok : okr Γ A) (hs : u8s P src = some e) (hd : uks P dst = true) :
    OT P C ⟨some d, .convert src dst x, ty, pos, af, gd⟩ L Γ (upd L d (.f (.v (.string ⟨⟨l⟩⟩)))) Γ :=
  OT.value hn (fun g hg => by simp [AV.id] at hg) fun ρ a w h => ⟨_, by simp [execOp, conv_bytes hs hd (evr_rep h hx hA hok)], rfl⟩
end
end Go.Proofs.Ythbcbfghfhecjaa.Pl
