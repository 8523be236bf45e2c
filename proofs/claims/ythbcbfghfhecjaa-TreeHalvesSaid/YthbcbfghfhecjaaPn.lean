/-
  A logic of walks: appends to nothing, literals of slices, conversions, least and greatest.
-/
import Derived.Test.YthbcbfghfhecjaaPm

namespace Go.Proofs.Ythbcbfghfhecjaa.Pl
set_option linter.unusedVariables false
set_option linter.unusedSimpArgs false
open Go.RowKit

section
variable {P : Program} {C : Cx} {L : Lo} {Γ : Ga} {d : Nat} {ty : TypeId} {pos : String} {af : Array Edge} {gd : Option (Nat × Bool)}
theorem OT.append0 {t e sz by_ m : Nat} {s x : Operand} {ds : List DV} {A : AV} (g : Nat) (hn : Nat.blt d C.n = true) (hs : evv L s = some (.slice none 0 0)) (hg : Γ g = none) (ht : apt P t = some (e, sz, by_))
    (hx : ev L x = some A) (hA : rdv Γ A = some (.sl sz m ds)) (hok : okr Γ A) (h1 : ds.all DV.one = true) (hbig : m * by_ ≤ 140737488355328) (hmax : m ≤ 1099511627776) :
    OT P C ⟨some d, .call { callee := .builtin .append, args := #[s, x], argTypes := #[t, t] }, ty, pos, af, gd⟩ L Γ (upd L d (.ow g m sz)) (upd Γ g (.row e sz ds)) :=
  OT.turns fun ρ a w h => by
    obtain ⟨hu, i, z, hi, hz, hsz, hby, hzs, h0⟩ := apt_parts ht
    have hev := evv_eval h hs
    have key : ∃ v' w' vs, (Builtin.append_ #[t, t] ty #[a.eval s, a.eval x]).run P w = .ok v' w' ∧ w'.ownsRow w.heap.size e sz v' m vs ∧ w.grownBy w' none ∧ repL (KK C.K0 ρ Γ) w ds vs := by
      rw [hev]
      rcases src_vals h hx hA hok with ⟨hxv, rfl, rfl⟩ | ⟨b, o, c, vs, hxv, q1, q2, q3, q4⟩
      · rw [hxv]
        exact ⟨_, w, [], run_append_owned_none w w.heap.size _ _ _ i sz hu hi _ 0 [] (World.ownsRow_nil w _ _ _), World.ownsRow_nil w _ _ _, ⟨rfl, rfl, rfl, Nat.le_refl _, fun _ _ _ => rfl⟩, by simp [repL]⟩
      · rw [hxv]
        obtain ⟨v', w', r1, r2, r3, _⟩ := run_append_own_at (P := P) w w.heap.size t ty e i z sz by_ hu hi hz hsz hby hzs h0 (.slice none 0 0) 0 [] (World.ownsRow_nil w _ _ _) ⟨b, o, none⟩ m c vs q2 q3 q4 (by unfold maxLen; omega) (by rw [Nat.zero_add]; exact hbig) (Nat.le_refl _)
        exact ⟨v', w', vs, r1, by simpa using r2, r3, q1⟩
    obtain ⟨v', w', vs, r1, r2, r3, r4⟩ := key
    refine ⟨v', w', by simp only [execOp, resolve, invoke, builtin, Sem.run_bind, Sem.run_pure, Result.andThen_ok, List.map_toArray, List.map_cons, List.map_nil, r1], ?_⟩
    have hones : ∀ x ∈ vs, x.oneCell' = true := all_one_of r4 h1
    obtain ⟨ρ', hr, hρ', hk⟩ := h.gain (g := g) (ob := none) (ob' := v'.ownBlock) (o' := .row e sz ds) (w' := w') (Γ1 := Γ) hg (fun _ _ h _ => h) (fun _ h => h) (fun b g' e => by cases e) (fun b e => by cases e) r3
      (fun b eb => ⟨.inr (World.ownsRow.lt r2 b eb).1, (World.ownsRow.lt r2 b eb).2⟩) (by simp) rfl (fun K hK _ => (owns_row r2 (repL_mono hK _ _ r4) hones).1)
    refine ⟨ρ', hr.put (by simpa using hn) (fun ob' hob => ?_) (fun g1 hg1 => ?_)⟩
    · rw [hρ'] at hob; cases hob
      exact (owns_row r2 (repL_mono hk _ _ r4) hones).2
    · cases hg1; rw [upd_same]; simp
/-! Literals of slices. -/
def plN (sz : Nat) : Nat → Nat → List (Nat × Nat)
  | _, 0 => []
  | i, n + 1 => (i * sz, sz) :: plN sz (i + 1) n
theorem plN_get (sz : Nat) : ∀ (n k i : Nat) (x : Nat × Nat), (plN sz k n)[i]? = some x → x = ((k + i) * sz, sz)
  | 0, k, i, x, h => by simp [plN] at h
  | n + 1, k, 0, x, h => by simp [plN] at h; simp [h]
  | n + 1, k, i + 1, x, h => by
    have := plN_get sz n (k + 1) i x (by simpa [plN] using h)
    rw [this]; congr 2; omega
def zrow (zs : List Value) : Nat → List Value
  | 0 => []
  | n + 1 => zs ++ zrow zs n
theorem zrow_len (zs : List Value) : ∀ n, (zrow zs n).length = n * zs.length
  | 0 => by simp [zrow]
  | n + 1 => by rw [zrow, List.length_append, zrow_len zs n, Nat.succ_mul, Nat.add_comm]
theorem zrow_get (zs : List Value) (h : 0 < zs.length) : ∀ (n i : Nat), i < n * zs.length → (zrow zs n)[i]? = zs[i % zs.length]?
  | 0, i, hi => by simp at hi
  | n + 1, i, hi => by
    rw [zrow]
    by_cases hlt : i < zs.length
    · rw [List.getElem?_append_left hlt, Nat.mod_eq_of_lt hlt]
    · rw [List.getElem?_append_right (by omega), zrow_get zs h n (i - zs.length) (by rw [Nat.succ_mul] at hi; omega)]
      rw [Nat.mod_eq_sub_mod (by omega : i ≥ zs.length)]
theorem zrow_eq (z : Array Value) (h : 0 < z.size) (n : Nat) : ((Array.range (n * z.size)).map (fun i => z[i % z.size]!)).toList = zrow z.toList n := by
  apply List.ext_getElem?
  intro i
  by_cases hi : i < n * z.size
  · rw [zrow_get z.toList (by simpa using h) n i (by simpa using hi)]
    have hm : i % z.size < z.size := Nat.mod_lt _ h
    simp [hi, hm]
  · rw [List.getElem?_eq_none (by simp; omega), List.getElem?_eq_none (by rw [zrow_len]; simp; omega)]
theorem OT.buildsl {t e sz by_ len : Nat} {ps : List (Nat × Operand)} {Xs : List (Nat × DV)} {zs : List Value} {ds : List DV} (g : Nat) (hn : Nat.blt d C.n = true) (hg : Γ g = none) (hx : evP L ps = some Xs) (ht : apt P t = some (e, sz, by_)) (hz : zc P e = some zs) (h1 : zs.all Value.oneCell' = true)
    (hsz : (Nat.blt 0 (len * sz) && Nat.ble (len * sz) 16777216) = true) (hb : bldD (plN sz 0 len) ((zrow zs len).map .v) Xs = some ds) :
    OT P C ⟨some d, .buildSlice t len ps.toArray, ty, pos, af, gd⟩ L Γ (upd L d (.ow g len sz)) (upd Γ g (.row e sz ds)) :=
  OT.turns fun ρ a w h => by
    obtain ⟨hu, i, z, hi, hzi, hsi, hby, hzs, h0⟩ := apt_parts ht
    simp only [Bool.and_eq_true, Nat.blt_eq, Nat.ble_eq] at hsz
    have hzc : z.cells.toList = zs := by
      unfold zc at hz; rw [hi] at hz; simp [hzi] at hz; exact hz
    have hzl : zs.length = sz := by rw [← hzc]; simpa using hzs
    have h1' := List.all_eq_true.1 h1
    have hrow : ((Array.range (len * sz)).map (fun i => z.cells[i % z.cells.size]!)).toList = zrow zs len := by
      have := zrow_eq z.cells (by omega) len
      rw [hzs, hzc] at this
      rw [hzs]; exact this
    have hmemz : ∀ (n : Nat), ∀ u ∈ zrow zs n, u.oneCell' = true := fun n => by
      induction n with
      | zero => intro u hu; cases hu
      | succ n ih => intro u hu; rw [zrow] at hu; exact (List.mem_append.1 hu).elim (h1' u) (ih u)
    obtain ⟨r, k1, k2, k3⟩ := fill_bld (K := KK C.K0 ρ Γ) (w := w) (place := fun i => some (i * sz, sz)) (fun i x hx => by rw [plN_get sz len 0 i x hx, Nat.zero_add]) Xs (ps.map fun (i, x) => (i, a.eval x)) _ ds ((Array.range (len * sz)).map (fun i => z.cells[i % z.cells.size]!)) (evP_rep h hx) (by rw [hrow]; exact repL_v _) (by rw [hrow]; exact hmemz len) hb
    have hrun : (Instr.buildSlice t len (ps.toArray.map fun (i, x) => (i, a.eval x))).run P w = .ok (.slice (some ⟨w.heap.size, 0, none⟩) len len) (w.alloc (.cells r e)) := by
      have hnz : ¬ (len * sz = 0) := by omega
      have hnb : ¬ (16777216 < len * sz) := by omega
      have hlen0 : len ≠ 0 := by intro e; subst e; simp at hnz
      have hsz0 : sz ≠ 0 := by omega
      simp [Instr.buildSlice, run_underlying hu, sizeOf, typeInfo, hi, hsi, zeroValue, hzi, hnb, hnz, hlen0, hsz0, k1, newRow]
    refine ⟨_, _, by simp only [execOp, Sem.run_bind, hrun, Result.andThen_ok, Sem.run_pure]; rfl, ?_⟩
    have hlr : r.toList.length = ds.length := repL_length k2
    have hdl : r.size = len * sz := by
      have : ∀ (parts : List (Nat × DV)) (cs ds : List DV), bldD (plN sz 0 len) cs parts = some ds → ds.length = cs.length := by
        intro parts
        induction parts with
        | nil => intro cs ds h; simp only [bldD, Option.some.injEq] at h; rw [h]
        | cons p q ih =>
          intro cs ds h
          obtain ⟨i, X⟩ := p
          unfold bldD at h
          cases hpl : (plN sz 0 len)[i]? with
          | none => simp [hpl] at h
          | some y =>
            simp only [hpl] at h
            cases hc : (Nat.beq X.cells.length y.2 && Nat.ble (y.1 + y.2) cs.length && X.cells.all DV.one) with
            | false => rw [hc] at h; simp at h
            | true =>
              rw [hc, cond_true] at h
              simp only [Bool.and_eq_true, Nat.beq_eq, Nat.ble_eq] at hc
              rw [ih _ _ h, splice_length (by omega)]
      have h2 := this Xs _ ds hb
      rw [List.length_map, zrow_len, hzl] at h2
      rw [← h2, ← hlr]; simp
    obtain ⟨ρ', hr, hρ, hk⟩ := h.fresh (g := g) (b := w.heap.size) (o' := .row e sz ds) hg (grown_alloc w (.cells r e)) ⟨Nat.le_refl _, by simp⟩ (by simp) rfl
      (fun K hK _ => .inr ⟨w.heap.size, r.toList, len, rfl, by rw [Array.toArray_toList]; exact heap_alloc_new _ _, by simpa using hdl, by unfold maxLen; have := Nat.le_mul_of_pos_right len h0; omega, by rw [hlr]; exact Nat.le_refl _, by rw [← hlr, List.take_length]; exact repL_mono hK _ _ k2, by rw [← hlr, List.take_length]; exact k3⟩)
    refine ⟨ρ', hr.put (by simpa using hn) (fun ob hob => ?_) (fun g' hg' => ?_)⟩
    · rw [hρ] at hob; cases hob
      refine .inr ⟨_, len, rfl, rfl, Nat.le_refl _, by unfold maxLen; have := Nat.le_mul_of_pos_right len h0; omega, ?_⟩
      unfold bsz; rw [heap_alloc_new]; exact hdl.symm
    · cases hg'; rw [upd_same]; simp
/-! Conversions. -/
def ukd (P : Program) (t : TypeId) : Option IntKind := match P.underlying t with | some (.int k) => some k | _ => none
theorem OT.convi {src dst : TypeId} {x : Operand} {k k' : IntKind} {n : Int} (hn : Nat.blt d C.n = true) (hx : evv L x = some (.int k n)) (hs : ukd P src = some k) (hd : ukd P dst = some k') :
    OT P C ⟨some d, .convert src dst x, ty, pos, af, gd⟩ L Γ (upd L d (.f (.v (.int k' (k'.wrap n))))) Γ :=
  OT.value hn (fun g hg => by simp [AV.id] at hg) fun ρ a w h => by
    have h1 : P.underlying dst = some (.int k') := by
      unfold ukd at hd; split at hd <;> simp_all
    have h2 : P.underlying src = some (.int k) := by
      unfold ukd at hs; split at hs <;> simp_all
    exact ⟨_, by simp [execOp, evv_eval h hx, convert, run_underlying h1, run_underlying h2, Conv.intToInt], rfl⟩
theorem OT.conviv {src dst : TypeId} {x : Operand} {k k' : IntKind} {n : Int} (m : Int) (hn : Nat.blt d C.n = true) (hx : evv L x = some (.int k n)) (hs : ukd P src = some k) (hd : ukd P dst = some k') (hm : k'.wrap n = m) :
    OT P C ⟨some d, .convert src dst x, ty, pos, af, gd⟩ L Γ (upd L d (.f (.v (.int k' m)))) Γ := hm ▸ OT.convi hn hx hs hd
/-! Least and greatest of two integers. -/
theorem OT.max2 {x y : Operand} {at_ : Array TypeId} {k : IntKind} {p q : Int} (hn : Nat.blt d C.n = true) (hx : evv L x = some (.int k p)) (hy : evv L y = some (.int k q)) :
    OT P C ⟨some d, .call { callee := .builtin .max, args := #[x, y], argTypes := at_ }, ty, pos, af, gd⟩ L Γ (upd L d (.f (.v (.int k (max p q))))) Γ :=
  OT.value hn (fun g hg => by simp [AV.id] at hg) fun ρ a w h => ⟨.int k (max p q), by
    have : (if q > p then q else p) = max p q := by rw [Int.max_def]; split <;> split <;> omega
    simp [execOp, resolve, invoke, builtin, evv_eval h hx, evv_eval h hy, Builtin.max_, Builtin.max2]
    exact this, rfl⟩
theorem OT.min2 {x y : Operand} {at_ : Array TypeId} {k : IntKind} {p q : Int} (hn : Nat.blt d C.n = true) (hx : evv L x = some (.int k p)) (hy : evv L y = some (.int k q)) :
    OT P C ⟨some d, .call { callee := .builtin .min, args := #[x, y], argTypes := at_ }, ty, pos, af, gd⟩ L Γ (upd L d (.f (.v (.int k (min p q))))) Γ :=
  OT.value hn (fun g hg => by simp [AV.id] at hg) fun ρ a w h => ⟨.int k (min p q), by
    have : (if q < p then q else p) = min p q := by rw [Int.min_def]; split <;> split <;> omega
    simp [execOp, resolve, invoke, builtin, evv_eval h hx, evv_eval h hy, Builtin.min_, Builtin.min2]
    exact this, rfl⟩
end
end Go.Proofs.Ythbcbfghfhecjaa.Pl
