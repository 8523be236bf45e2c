/-
  What comes in, by its type; what a law hands back.
-/
import Derived.Test.YteapoemockimfaaZQ2
import Derived.Test.YteapoemockimfaaZQ3
namespace Go.Proofs.Yteapoemockimfaa
set_option linter.unusedVariables false
set_option linter.unusedSimpArgs false
set_option maxRecDepth 20000
open Go.RowKit Pl
theorem shpN_map {α : Type} {enc : α → List DV} {p : α → Prop} {g : List DV → Prop} (hg : ∀ cs, g cs → ∃ x, p x ∧ cs = enc x) : ∀ (n : Nat) (cs : List DV), ShpN g n cs → ∃ xs : List α, xs.length = n ∧ (∀ x ∈ xs, p x) ∧ cs = xs.flatMap enc
  | 0, cs, h => ⟨[], rfl, by simp, h⟩
  | n + 1, cs, ⟨a, b, e, h1, h2⟩ => by
    obtain ⟨x, hx, rfl⟩ := hg a h1
    obtain ⟨xs, k1, k2, rfl⟩ := shpN_map hg n b h2
    exact ⟨x :: xs, by simp [k1], by simp [hx]; exact k2, e⟩
theorem shp_sl {P : Program} {d t e sz : Nat} {X : DV} (hu : P.underlying t = some (.slice e)) (hc : P.cellsOf e = sz) {α : Type} {enc : α → List DV} {p : α → Prop} (hg : ∀ cs, Shp P d e cs → ∃ x, p x ∧ cs = enc x) (h : ShV P (d + 1) t X) : ∃ xs : List α, X = slT enc sz xs ∧ ∀ x ∈ xs, p x := by
  unfold ShV at h
  rw [hu] at h
  unfold Shp at h
  simp only [hu] at h
  obtain ⟨n, ds, h1, h2⟩ := h
  obtain ⟨xs, k1, k2, rfl⟩ := shpN_map hg n ds h2
  simp only [List.cons.injEq, and_true] at h1
  exact ⟨xs, by rw [h1, hc, ← k1], k2⟩
theorem shp_int {P : Program} {d t : Nat} {k : IntKind} {cs : List DV} (hu : P.underlying t = some (.int k)) (h : Shp P (d + 1) t cs) : ∃ n, cs = [.v (.int k n)] ∧ (Lit.int k n).wf = true := by
  unfold Shp at h; simpa only [hu] using h
theorem shv_int {P : Program} {d t : Nat} {k : IntKind} {X : DV} (hu : P.underlying t = some (.int k)) (h : ShV P (d + 1) t X) : ∃ n, X = .v (.int k n) ∧ (Lit.int k n).wf = true := by
  unfold ShV at h
  rw [hu] at h
  obtain ⟨n, h1, h2⟩ := shp_int hu h
  exact ⟨n, by simpa using h1, h2⟩
theorem u8_nat {n : Int} (h : (Lit.int .u8 n).wf = true) : ∃ b : UInt8, n = (b.toNat : Nat) := by
  simp [Lit.wf, IntKind.min, IntKind.max, IntKind.signed, IntKind.bits] at h
  exact ⟨UInt8.ofNat n.toNat, by rw [UInt8.toNat_ofNat']; omega⟩
theorem i64_in {n : Int} (h : (Lit.int .i64 n).wf = true) : -9223372036854775808 ≤ n ∧ n < 9223372036854775808 := by
  simp [Lit.wf, IntKind.min, IntKind.max, IntKind.signed, IntKind.bits] at h; omega
theorem u64_in {n : Int} (h : (Lit.int .u64 n).wf = true) : 0 ≤ n ∧ n < 18446744073709551616 := by
  simp [Lit.wf, IntKind.min, IntKind.max, IntKind.signed, IntKind.bits] at h; omega
theorem shp_u8 {d : Nat} (cs : List DV) (h : Shp Try.prog (d + 1) 5 cs) : ∃ b : UInt8, True ∧ cs = bdv b := by
  obtain ⟨n, rfl, hw⟩ := shp_int Try.underlying5 h
  obtain ⟨b, rfl⟩ := u8_nat hw
  exact ⟨b, trivial, rfl⟩
theorem shp_hash {d : Nat} (cs : List DV) (h : Shp Try.prog (d + 2) 23 cs) : ∃ x : H, True ∧ cs = hdv x := by
  unfold Shp at h
  simp only [Try.underlying23] at h
  obtain ⟨l, h1, _, rfl⟩ := shpN_map (p := fun _ => True) shp_u8 32 cs h
  exact ⟨ofL l, trivial, by unfold hdv; rw [ofL_l h1]⟩
theorem o_bytes {X : DV} (h : ShV Try.prog 6 29 X) : ∃ l : List UInt8, X = slT bdv 1 l ∧ True := by
  obtain ⟨l, h1, _⟩ := shp_sl (p := fun _ => True) Try.underlying29 (by kernel_rfl) shp_u8 h
  exact ⟨l, h1, trivial⟩
theorem o_hash {X : DV} (h : ShV Try.prog 6 23 X) : ∃ x : H, X = .ag (hdv x) ∧ True := by
  unfold ShV at h
  simp only [Try.underlying23] at h
  obtain ⟨ds, rfl, h⟩ := h
  obtain ⟨x, _, rfl⟩ := shp_hash _ h
  exact ⟨x, rfl, trivial⟩
theorem o_u8 {X : DV} (h : ShV Try.prog 6 5 X) : ∃ b : UInt8, X = .v (.int .u8 b.toNat) ∧ True := by
  obtain ⟨n, rfl, hw⟩ := shv_int Try.underlying5 h
  obtain ⟨b, rfl⟩ := u8_nat hw
  exact ⟨b, rfl, trivial⟩
theorem o_int64 {X : DV} (h : ShV Try.prog 6 2 X) : ∃ n, X = .v (.int .i64 n) ∧ (-9223372036854775808 ≤ n ∧ n < 9223372036854775808) := by
  obtain ⟨n, rfl, hw⟩ := shv_int Try.underlying2 h
  exact ⟨n, rfl, i64_in hw⟩
theorem o_u64 {X : DV} (h : ShV Try.prog 6 24 X) : ∃ n, X = .v (.int .u64 n) ∧ (0 ≤ n ∧ n < 18446744073709551616) := by
  obtain ⟨n, rfl, hw⟩ := shv_int Try.underlying24 h
  exact ⟨n, rfl, u64_in hw⟩
theorem repl_nil {K : Nat → Prop} {w : World} : repL K w [] [] := by simp [repL]
theorem repl_cons {K : Nat → Prop} {w : World} {X : DV} {Xs : List DV} {u : Value} {us : List Value} (h : X.rep K w u) (k : repL K w Xs us) : repL K w (X :: Xs) (u :: us) := by unfold repL; exact ⟨u, us, rfl, h, k⟩
theorem pf_bool {P : Program} {f : FuncId} {Xs : List DV} {us : List Value} {W : World} (h : PF P f Xs (.v (.bool true))) (hr : repL noK W Xs us) : Calls P f us.toArray W fun e W' => e = .returned (.bool true) ∧ Below W.heap.size W W' :=
  (h W us hr).mono fun e W' ⟨u, h1, h2, h3⟩ => by
    have := h3 noK (fun b hb => hb.elim)
    unfold DV.rep at this
    subst this
    exact ⟨h1, h2⟩
end Go.Proofs.Yteapoemockimfaa

