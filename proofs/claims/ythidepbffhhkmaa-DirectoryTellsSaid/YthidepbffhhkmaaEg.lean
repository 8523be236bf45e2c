/-
  The directory's plain law: parts of entries that are written in place; which rows the law looks at.
-/
import Derived.Test.YthidepbffhhkmaaIq
import Derived.Test.YthidepbffhhkmaaOq
namespace Go.Proofs.Ythidepbffhhkmaa
set_option linter.unusedVariables false
set_option linter.unusedSimpArgs false
set_option maxRecDepth 20000
open Go.RowKit Pl

theorem splice_at {α : Type} (a b d : List α) (k : Nat) (h : k + d.length ≤ a.length) : Pl.splice (a ++ b) k d = Pl.splice a k d ++ b := by
  unfold Pl.splice
  rw [List.take_append_of_le_length (by omega), List.drop_append_of_le_length (by omega), ← List.append_assoc]
theorem flat_part {α : Type} {enc : α → List DV} {sz : Nat} (h : ∀ x, (enc x).length = sz) {k : Nat} {d : List DV} (hk : k + d.length ≤ sz) : ∀ (xs : List α) (i : Nat) (v : α) (hi : i < xs.length), enc v = Pl.splice (enc xs[i]) k d → Pl.splice (xs.flatMap enc) (i * sz + k) d = (xs.set i v).flatMap enc
  | x :: r, 0, v, _, hv => by
    simp only [List.flatMap_cons, List.set_cons_zero, Nat.zero_mul, Nat.zero_add]
    rw [splice_at _ _ _ _ (by rw [h]; exact hk)]
    rw [List.getElem_cons_zero] at hv
    rw [hv]
  | x :: r, i + 1, v, hi, hv => by
    simp only [List.flatMap_cons, List.set_cons_succ]
    rw [show (i + 1) * sz + k = (enc x).length + (i * sz + k) by rw [h, Nat.succ_mul]; omega, splice_app]
    rw [flat_part h hk r i v (by simpa using hi) (by simpa using hv)]
theorem Pl.OT.storef {P : Program} {C : Cx} {L : Lo} {Γ : Ga} {ty : TypeId} {pos : String} {af : Array Edge} {gd : Option (Nat × Bool)} {α : Type} {enc : α → List DV} {sz i k : Nat} {xs : List α} {t g off : Nat} {x y : Operand} {T : TypeId} {cs : List DV} {X : DV} (v : α) (hx : ev L x = some (.ptr g off)) (hoff : off = i * sz + k) (hg : Γ g = some (.row T sz cs)) (hcs : cs = xs.flatMap enc) (hy : evd L y = some X) (he : ∀ z, (enc z).length = sz) (ht : szt P t = some X.cells.length) (h1 : X.cells.all DV.one = true) (hi : i < xs.length) (hk : k + X.cells.length ≤ sz) (hv : enc v = Pl.splice (enc xs[i]) k X.cells) :
    OT P C ⟨none, .store t x y, ty, pos, af, gd⟩ L Γ L (upd Γ g (.row T sz ((xs.set i v).flatMap enc))) := by
  subst hcs; subst hoff
  have hb : i * sz + sz ≤ xs.length * sz := by rw [← Nat.succ_mul]; exact Nat.mul_le_mul_right _ hi
  have := OT.storeg (P := P) (C := C) (ty := ty) (pos := pos) (af := af) (gd := gd) hx hg rfl hy ht h1 (by rw [flat_length he]; omega)
  have e := flat_part he hk xs i v hi hv
  rw [e] at this
  exact this
def and7 (v : Int) : Int := IntKind.i64.wrap (BitVec.ofInt IntKind.i64.bits v &&& BitVec.ofInt IntKind.i64.bits 7).toNat
/-- A directory that is turned in a place. -/
def yF (D : List Kn) (b w : UInt8) (v : Int) (s : List UInt8) : List Kn := match D[b.toNat % D.length]?, D[0]? with
  | some k, some z => if w.toNat % 5 = 0 then D.set (b.toNat % D.length) ⟨k.nm, k.ver, k.key, v⟩ else if w.toNat % 5 = 1 then D.set (b.toNat % D.length) ⟨k.nm, and7 v, k.key, k.ep⟩ else if w.toNat % 5 = 2 then D.set (b.toNat % D.length) ⟨s, k.ver, k.key, k.ep⟩ else if w.toNat % 5 = 3 then D.set (b.toNat % D.length) ⟨k.nm, k.ver, u64w v, k.ep⟩ else (D.set 0 k).set (b.toNat % D.length) z
  | _, _ => D
theorem yF_len (D : List Kn) (b w : UInt8) (v : Int) (s : List UInt8) : (yF D b w v s).length = D.length := by
  unfold yF
  split
  · repeat' split
    all_goals simp
  · rfl
theorem yF_at {D : List Kn} {b w : UInt8} {v : Int} {s : List UInt8} (h0 : 0 < D.length) (hi : b.toNat % D.length < D.length) : yF D b w v s = if w.toNat % 5 = 0 then D.set (b.toNat % D.length) ⟨D[b.toNat % D.length].nm, D[b.toNat % D.length].ver, D[b.toNat % D.length].key, v⟩ else if w.toNat % 5 = 1 then D.set (b.toNat % D.length) ⟨D[b.toNat % D.length].nm, and7 v, D[b.toNat % D.length].key, D[b.toNat % D.length].ep⟩ else if w.toNat % 5 = 2 then D.set (b.toNat % D.length) ⟨s, D[b.toNat % D.length].ver, D[b.toNat % D.length].key, D[b.toNat % D.length].ep⟩ else if w.toNat % 5 = 3 then D.set (b.toNat % D.length) ⟨D[b.toNat % D.length].nm, D[b.toNat % D.length].ver, u64w v, D[b.toNat % D.length].ep⟩ else (D.set 0 D[b.toNat % D.length]).set (b.toNat % D.length) D[0] := by
  unfold yF
  rw [List.getElem?_eq_getElem hi, List.getElem?_eq_getElem h0]
theorem yF_nil {D : List Kn} {b w : UInt8} {v : Int} {s : List UInt8} (h0 : ¬ 0 < D.length) : yF D b w v s = D := by
  unfold yF
  rw [List.getElem?_eq_none (by omega)]
theorem sl_set (D : List Kn) (i : Nat) (v : Kn) : DV.sl 4 D.length ((D.set i v).flatMap Kn.dv) = slT Kn.dv 4 (D.set i v) := by unfold slT; rw [List.length_set]
theorem sl_set2 (D : List Kn) (i j : Nat) (u v : Kn) : DV.sl 4 D.length (((D.set i u).set j v).flatMap Kn.dv) = slT Kn.dv 4 ((D.set i u).set j v) := by unfold slT; rw [List.length_set, List.length_set]
theorem kn_cells (D : List Kn) (n : Nat) (h : D.length = n) : (D.flatMap Kn.dv).length = n * 4 := by rw [flat_length (sz := 4) kn_len, h]
def kll (l : List Kn) : List DV := [slT Kn.dv 4 l]
def ell (l : List En) : List DV := [slT En.dv 3 l]
def idv (n : Int) : List DV := [.v (.int .i64 n)]
def stv (s : List UInt8) : List DV := [.v (strV s)]
def pendX (D : List Kn) (b : UInt8) : En := seatE b (i64w (i64w ((latR D (nameL ((b.toNat : Nat) : Int))).1.ver + 1) + ((b.toNat / 120 : Nat) : Int)))
def entsX (D : List Kn) (m : List UInt8) : List En := m.map (pendX D)
theorem entsX_len (D : List Kn) (m : List UInt8) : (entsX D m).length = m.length := List.length_map ..
theorem entsX_snoc {D : List Kn} {m : List UInt8} {k : Nat} (h : k < m.length) : entsX D (m.take (k + 1)) = entsX D (m.take k) ++ [pendX D m[k]] := by
  unfold entsX; rw [take_snoc' h, List.map_append]; rfl
theorem u8_quo (b : UInt8) : IntKind.u8.wrap (((b.toNat : Nat) : Int).tdiv 120) = ((b.toNat / 120 : Nat) : Int) := by
  rw [Int.tdiv_eq_ediv_of_nonneg (by omega), IntKind.wrap_u8]; have := b.toNat_lt; omega
theorem u8_q64 (b : UInt8) : IntKind.i64.wrap ((b.toNat / 120 : Nat) : Int) = ((b.toNat / 120 : Nat) : Int) := by
  rw [IntKind.wrap_i64]; have := b.toNat_lt; omega
theorem fit_lat {D : List Kn} (hD : ∀ k ∈ D, knFit k) (nm : List UInt8) : knFit (latR D nm).1 := by
  rcases latR_mem D nm with q | q
  · rw [q]; exact ⟨by decide, by decide, by decide, by decide⟩
  · exact hD _ q
theorem fit_find {D : List Kn} (hD : ∀ k ∈ D, knFit k) (nm : List UInt8) (v : Int) : knFit (findR D nm v).1 := by
  unfold findR
  split
  · rename_i k h; exact hD k (List.mem_of_find?_eq_some h)
  · exact ⟨by decide, by decide, by decide, by decide⟩
/-! What comes in. -/
theorem shp_str {P : Program} {d t : Nat} {cs : List DV} (hu : P.underlying t = some .string) (h : Shp P (d + 1) t cs) : ∃ l, cs = [.v (.string ⟨⟨l⟩⟩)] ∧ l.length ≤ maxLen := by
  unfold Shp at h; simpa only [hu] using h
theorem shp_entry {d : Nat} (cs : List DV) (h : Shp Try.prog (d + 2) 30 cs) : ∃ x : En, True ∧ cs = x.dv := by
  unfold Shp at h
  simp only [Try.underlying30] at h
  obtain ⟨a, b, rfl, h1, a2, b2, rfl, h2, a3, b3, rfl, h3, rfl⟩ := h
  obtain ⟨s, rfl, _⟩ := shp_str Try.underlying9 h1
  obtain ⟨n, rfl, _⟩ := shp_int Try.underlying3 h2
  obtain ⟨k, rfl, _⟩ := shp_int Try.underlying28 h3
  exact ⟨⟨s, n, k⟩, trivial, rfl⟩
theorem shp_known {d : Nat} (cs : List DV) (h : Shp Try.prog (d + 3) 32 cs) : ∃ x : Kn, True ∧ cs = x.dv := by
  unfold Shp at h
  simp only [Try.underlying32] at h
  obtain ⟨a, b, rfl, h1, a2, b2, rfl, h2, rfl⟩ := h
  obtain ⟨e, _, rfl⟩ := shp_entry _ h1
  obtain ⟨n, rfl, _⟩ := shp_int Try.underlying3 h2
  exact ⟨⟨e.nm, e.ver, e.key, n⟩, trivial, rfl⟩
theorem o_knowns {X : DV} (h : ShV Try.prog 6 24 X) : ∃ l : List Kn, X = slT Kn.dv 4 l ∧ True := by
  obtain ⟨l, h1, _⟩ := shp_sl (p := fun _ => True) Try.underlying24 (by kernel_rfl) shp_known h
  exact ⟨l, h1, trivial⟩
theorem o_entries {X : DV} (h : ShV Try.prog 6 39 X) : ∃ l : List En, X = slT En.dv 3 l ∧ True := by
  obtain ⟨l, h1, _⟩ := shp_sl (p := fun _ => True) Try.underlying39 (by kernel_rfl) shp_entry h
  exact ⟨l, h1, trivial⟩
end Go.Proofs.Ythidepbffhhkmaa
