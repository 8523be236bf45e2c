import Derived.Test.YtmjokdhhniblgaaGreatYIi
import Derived.Test.YtmjokdhhniblgaaGreatYEv
import Derived.Test.YtmjokdhhniblgaaGreatYQ2
import Derived.Test.YtmjokdhhniblgaaGreatYQ3
/-
  The seat's directory.
-/
namespace Go.Proofs.YtmjokdhhniblgaaGreat
set_option linter.unusedVariables false
set_option linter.unusedSimpArgs false
open Go.RowKit Pl
set_option maxRecDepth 100000
set_option maxHeartbeats 3200000
end Go.Proofs.YtmjokdhhniblgaaGreat
/-
  Knowledge compared, items compared.
-/
namespace Go.Proofs.YtmjokdhhniblgaaGreat
set_option linter.unusedVariables false
set_option linter.unusedSimpArgs false
open Go.RowKit Pl
set_option maxRecDepth 100000
set_option maxHeartbeats 3200000
section
variable {P : Program} {C : Cx} {L : Lo} {Γ : Ga} {d : Nat} {ty : TypeId} {pos : String} {af : Array Edge} {gd : Option (Nat × Bool)}
def Kn.us (k : Kn) : List Value := [strV k.nm, .int .i64 k.ver, .int .u64 k.key, .int .i64 k.ep]
def En.us (e : En) : List Value := [strV e.nm, .int .i64 e.ver, .int .u64 e.key]
def enFit (k : En) : Prop := k.nm.length ≤ 1048576 ∧ (-9223372036854775808 ≤ k.ver ∧ k.ver < 9223372036854775808) ∧ (0 ≤ k.key ∧ k.key < 18446744073709551616)
theorem kwf_i64 {n : Int} (h : -9223372036854775808 ≤ n ∧ n < 9223372036854775808) : (Lit.int .i64 n).wf = true := by
  simp [Lit.wf, IntKind.min, IntKind.max, IntKind.signed, IntKind.bits]; omega
theorem kwf_u64 {n : Int} (h : 0 ≤ n ∧ n < 18446744073709551616) : (Lit.int .u64 n).wf = true := by
  simp [Lit.wf, IntKind.min, IntKind.max, IntKind.signed, IntKind.bits]; omega
theorem lit_str {l : List UInt8} (h : l.length ≤ 1048576) : ∃ x, LK.s.lit (strV l) = some x := by
  have : (⟨l.toArray⟩ : ByteArray).size ≤ maxLen := by
    show l.toArray.size ≤ maxLen
    unfold maxLen; simp; omega
  unfold strV LK.lit
  exact ⟨_, if_pos this⟩
theorem strV_inj {a b : List UInt8} (h : strV a = strV b) : a = b := by
  unfold strV at h
  injection h with h
  injection h with h
  injection h
end
end Go.Proofs.YtmjokdhhniblgaaGreat
/-
  What comes in, by its type; what a law hands back.
-/
namespace Go.Proofs.YtmjokdhhniblgaaGreat
set_option linter.unusedVariables false
set_option linter.unusedSimpArgs false
set_option maxRecDepth 20000
open Go.RowKit Pl
theorem shpN_map {α : Type} {enc : α → List DV} {p : α → Prop} {g : List DV → Prop} (hg : ∀ cs, g cs → ∃ x, p x ∧ cs = enc x) : ∀ (n : Nat) (cs : List DV), ShpN g n cs → ∃ xs : List α, xs.length = n ∧ (∀ x ∈ xs, p x) ∧ cs = xs.flatMap enc
  | 0, cs, h => ⟨[], rfl, by simp, h⟩
  | n + 1, cs, ⟨a, b, e, h1, h2⟩ => by
    obtain ⟨x, hx, rfl⟩ := hg a h1
    obtain ⟨xs, k1, k2, rfl⟩ := shpN_map hg n b h2
    exact ⟨x :: xs, by simp [k1], by simp [hx]; exact k2, e⟩
theorem shp_sl {P : Program} {d t e sz : Nat} {X : DV} (hu : P.underlying t = some (.slice e)) (hc : P.cellsOf e = sz) {α : Type} {enc : α → List DV} {p : α → Prop} (hg : ∀ cs, Shp P d e cs → ∃ x, p x ∧ cs = enc x) (h : ShV P (d + 1) t X) : ∃ xs : List α, X = slT enc sz xs ∧ ∀ x ∈ xs, p x := by
  unfold ShV at h
  rw [hu] at h
  unfold Shp at h
  simp only [hu] at h
  obtain ⟨n, ds, h1, h2⟩ := h
  obtain ⟨xs, k1, k2, rfl⟩ := shpN_map hg n ds h2
  simp only [List.cons.injEq, and_true] at h1
  exact ⟨xs, by rw [h1, hc, ← k1], k2⟩
theorem shp_int {P : Program} {d t : Nat} {k : IntKind} {cs : List DV} (hu : P.underlying t = some (.int k)) (h : Shp P (d + 1) t cs) : ∃ n, cs = [.v (.int k n)] ∧ (Lit.int k n).wf = true := by
  unfold Shp at h; simpa only [hu] using h
theorem shv_int {P : Program} {d t : Nat} {k : IntKind} {X : DV} (hu : P.underlying t = some (.int k)) (h : ShV P (d + 1) t X) : ∃ n, X = .v (.int k n) ∧ (Lit.int k n).wf = true := by
  unfold ShV at h
  rw [hu] at h
  obtain ⟨n, h1, h2⟩ := shp_int hu h
  exact ⟨n, by simpa using h1, h2⟩
theorem u8_nat {n : Int} (h : (Lit.int .u8 n).wf = true) : ∃ b : UInt8, n = (b.toNat : Nat) := by
  simp [Lit.wf, IntKind.min, IntKind.max, IntKind.signed, IntKind.bits] at h
  exact ⟨UInt8.ofNat n.toNat, by rw [UInt8.toNat_ofNat']; omega⟩
theorem shp_u8 {d : Nat} (cs : List DV) (h : Shp Tryz.prog (d + 1) 5 cs) : ∃ b : UInt8, True ∧ cs = bdv b := by
  obtain ⟨n, rfl, hw⟩ := shp_int Tryz.underlying5 h
  obtain ⟨b, rfl⟩ := u8_nat hw
  exact ⟨b, trivial, rfl⟩
theorem o_bytes {X : DV} (h : ShV Tryz.prog 6 22 X) : ∃ l : List UInt8, X = slT bdv 1 l ∧ True := by
  obtain ⟨l, h1, _⟩ := shp_sl (p := fun _ => True) Tryz.underlying22 (by kernel_rfl) shp_u8 h
  exact ⟨l, h1, trivial⟩
theorem o_u8 {X : DV} (h : ShV Tryz.prog 6 5 X) : ∃ b : UInt8, X = .v (.int .u8 b.toNat) ∧ True := by
  obtain ⟨n, rfl, hw⟩ := shv_int Tryz.underlying5 h
  obtain ⟨b, rfl⟩ := u8_nat hw
  exact ⟨b, rfl, trivial⟩
theorem repl_nil {K : Nat → Prop} {w : World} : repL K w [] [] := by simp [repL]
theorem repl_cons {K : Nat → Prop} {w : World} {X : DV} {Xs : List DV} {u : Value} {us : List Value} (h : X.rep K w u) (k : repL K w Xs us) : repL K w (X :: Xs) (u :: us) := by unfold repL; exact ⟨u, us, rfl, h, k⟩
theorem pf_bool {P : Program} {f : FuncId} {Xs : List DV} {us : List Value} {W : World} (h : PF P f Xs (.v (.bool true))) (hr : repL noK W Xs us) : Calls P f us.toArray W fun e W' => e = .returned (.bool true) ∧ Below W.heap.size W W' :=
  (h W us hr).mono fun e W' ⟨u, h1, h2, h3⟩ => by
    have := h3 noK (fun b hb => hb.elim)
    unfold DV.rep at this
    subst this
    exact ⟨h1, h2⟩
end Go.Proofs.YtmjokdhhniblgaaGreat

