import Derived.Test.YtmjokdhhniblgaaGreatYIi
import Derived.Test.YtmjokdhhniblgaaGreatYEv
import Derived.Test.YtmjokdhhniblgaaGreatYQ2
import Derived.Test.YtmjokdhhniblgaaGreatYQ3
/-
  The seat's directory.
-/
namespace Go.Proofs.YtmjokdhhniblgaaGreat
set_option linter.unusedVariables false
set_option linter.unusedSimpArgs false
open Go.RowKit Pl
set_option maxRecDepth 100000
set_option maxHeartbeats 3200000
def pendE (out : List Kn) (b : UInt8) : En := seatE b (i64w ((latR out (nameL ((b.toNat : Nat) : Int))).1.ver + 1))
end Go.Proofs.YtmjokdhhniblgaaGreat
/-
  Knowledge compared, items compared.
-/
namespace Go.Proofs.YtmjokdhhniblgaaGreat
set_option linter.unusedVariables false
set_option linter.unusedSimpArgs false
open Go.RowKit Pl
set_option maxRecDepth 100000
set_option maxHeartbeats 3200000
theorem qk40 : eqT Tryz.prog 40 = some [.s, .i .i64, .i .u64, .i .i64] := by kernel_rfl
abbrev kks : List LK := [.s, .i .i64, .i .u64, .i .i64]
section
variable {P : Program} {C : Cx} {L : Lo} {Γ : Ga} {d : Nat} {ty : TypeId} {pos : String} {af : Array Edge} {gd : Option (Nat × Bool)}
def Kn.us (k : Kn) : List Value := [strV k.nm, .int .i64 k.ver, .int .u64 k.key, .int .i64 k.ep]
def En.us (e : En) : List Value := [strV e.nm, .int .i64 e.ver, .int .u64 e.key]
/-- Knowledge that a machine can hold. -/
def knFit (k : Kn) : Prop := k.nm.length ≤ 1048576 ∧ (-9223372036854775808 ≤ k.ver ∧ k.ver < 9223372036854775808) ∧ (0 ≤ k.key ∧ k.key < 18446744073709551616) ∧ (-9223372036854775808 ≤ k.ep ∧ k.ep < 9223372036854775808)
def enFit (k : En) : Prop := k.nm.length ≤ 1048576 ∧ (-9223372036854775808 ≤ k.ver ∧ k.ver < 9223372036854775808) ∧ (0 ≤ k.key ∧ k.key < 18446744073709551616)
theorem kwf_i64 {n : Int} (h : -9223372036854775808 ≤ n ∧ n < 9223372036854775808) : (Lit.int .i64 n).wf = true := by
  simp [Lit.wf, IntKind.min, IntKind.max, IntKind.signed, IntKind.bits]; omega
theorem kwf_u64 {n : Int} (h : 0 ≤ n ∧ n < 18446744073709551616) : (Lit.int .u64 n).wf = true := by
  simp [Lit.wf, IntKind.min, IntKind.max, IntKind.signed, IntKind.bits]; omega
theorem lit_str {l : List UInt8} (h : l.length ≤ 1048576) : ∃ x, LK.s.lit (strV l) = some x := by
  have : (⟨l.toArray⟩ : ByteArray).size ≤ maxLen := by
    show l.toArray.size ≤ maxLen
    unfold maxLen; simp; omega
  unfold strV LK.lit
  exact ⟨_, if_pos this⟩
theorem lits_kn {k : Kn} (h : knFit k) : ∃ l, lits kks k.us = some l := by
  obtain ⟨x, hx⟩ := lit_str h.1
  exact ⟨[x, .int .i64 k.ver, .int .u64 k.key, .int .i64 k.ep], by simp only [lits, Kn.us, hx]; simp [LK.lit, kwf_i64 h.2.1, kwf_u64 h.2.2.1, kwf_i64 h.2.2.2]⟩
theorem strV_inj {a b : List UInt8} (h : strV a = strV b) : a = b := by
  unfold strV at h
  injection h with h
  injection h with h
  injection h
theorem kus_inj {a b : Kn} : a.us = b.us ↔ a = b := by
  refine ⟨fun h => ?_, fun h => by rw [h]⟩
  cases a; cases b
  simp only [Kn.us, List.cons.injEq, Value.int.injEq, and_true, true_and] at h
  obtain ⟨h1, h2, h3, h4⟩ := h
  rw [strV_inj h1, h2, h3, h4]
theorem Pl.OT.nek {xt yt : TypeId} {x y : Operand} {a b : Kn} (r : Bool) (h : r = true ↔ ¬ a = b) (ha : knFit a) (hb : knFit b) (hn : Nat.blt d C.n = true) (hx : evd L x = some (.ag a.dv)) (hy : evd L y = some (.ag b.dv)) (ht : eqT P xt = some [.s, .i .i64, .i .u64, .i .i64]) :
    OT P C ⟨some d, .binOp .neq xt x y yt, ty, pos, af, gd⟩ L Γ (upd L d (.f (.v (.bool r)))) Γ :=
  OT.neag r hn hx hy (us := a.us) (vs := b.us) rfl rfl ht (lits_kn ha).choose_spec (lits_kn hb).choose_spec (by rw [kus_inj]; exact h)
end
theorem samek_pf (x : List Kn) (hx : x.length ≤ 1048577) (hft : ∀ k ∈ x, knFit k) : PF Tryz.prog 15 [slT Kn.dv 4 x, slT Kn.dv 4 x] (.v (.bool true)) := by
 refine PF.enter (fn := Tryz.f15) Tryz.func15 rfl Tryz.ntmps15 rfl (fun w0 => .w ?_)
 refine .t 5 1 rfl rfl (.bv (.bool false) rfl (by simp)) ?_
 refine .g 2 1 rfl ?_
 refine TE.setv 5 (.int .i64 ((0 : Nat) : Int)) rfl (congrArg _ (by first | rfl | (dsimp only; first | done | rfl | omega))) ?_
 refine .lo (T := Nat) 0 1 rfl (fun i => i ≤ x.length) (fun i => x.length - i) [0, 1] [] (fun i => [(5, .d (.v (.int .i64 ((i : Nat) : Int))))]) (fun i => []) (0) rfl rfl (Nat.zero_le _) rfl rfl rfl (fun i hI => ?_)
 refine .q 4 1 rfl rfl (fun h2 => ?_) (fun h2 => ?_)
 ·skip
  have hi : i < x.length := by have q := of_decide_eq_true h2; (try dsimp only at q); omega
  refine .d 0 1 rfl ?_
  refine .v 2 1 [] rfl rfl (fun _ _ => .idx (x[i]) rfl rfl rfl rfl et33 (fun _ => rfl) (Int.natCast_nonneg i) (get_nat hi)) ?_
  refine .v 0 1 [] rfl rfl (fun _ _ => .lm (x[i].dv) rfl) ?_
  refine .v 2 1 [] rfl rfl (fun _ _ => .idx (x[i]) rfl rfl rfl rfl et33 (fun _ => rfl) (Int.natCast_nonneg i) (get_nat hi)) ?_
  refine .v 0 1 [] rfl rfl (fun _ _ => .lm (x[i].dv) rfl) ?_
  refine .v 0 1 [] rfl rfl (fun _ _ => .nek (a := x[i]) (b := x[i]) false (by simp) (hft _ (List.getElem_mem hi)) (hft _ (List.getElem_mem hi)) rfl rfl rfl qk40) ?_
  refine .y 0 1 rfl (by kernel_rfl) ?_
  refine .t 2 1 rfl rfl (.bv (.int .i64 ((i + 1 : Nat) : Int)) rfl (congrArg _ (by (try dsimp only); rw [IntKind.wrap_i64]; omega))) ?_
  refine .g 1 1 rfl ?_
  refine TE.setv 5 (.int .i64 ((i + 1 : Nat) : Int)) rfl (congrArg _ (by first | rfl | (dsimp only; first | done | rfl | omega))) ?_
  exact .rd 0 1 id (fun _ _ e => e) rfl (i + 1) (by omega) (by omega) rfl rfl rfl
 ·skip
  skip
  exact .z 1 1 rfl (TE.retf rfl rfl rfl trivial)
end Go.Proofs.YtmjokdhhniblgaaGreat
/-
  What comes in, by its type; what a law hands back.
-/
namespace Go.Proofs.YtmjokdhhniblgaaGreat
set_option linter.unusedVariables false
set_option linter.unusedSimpArgs false
set_option maxRecDepth 20000
open Go.RowKit Pl
theorem shpN_map {α : Type} {enc : α → List DV} {p : α → Prop} {g : List DV → Prop} (hg : ∀ cs, g cs → ∃ x, p x ∧ cs = enc x) : ∀ (n : Nat) (cs : List DV), ShpN g n cs → ∃ xs : List α, xs.length = n ∧ (∀ x ∈ xs, p x) ∧ cs = xs.flatMap enc
  | 0, cs, h => ⟨[], rfl, by simp, h⟩
  | n + 1, cs, ⟨a, b, e, h1, h2⟩ => by
    obtain ⟨x, hx, rfl⟩ := hg a h1
    obtain ⟨xs, k1, k2, rfl⟩ := shpN_map hg n b h2
    exact ⟨x :: xs, by simp [k1], by simp [hx]; exact k2, e⟩
theorem shp_sl {P : Program} {d t e sz : Nat} {X : DV} (hu : P.underlying t = some (.slice e)) (hc : P.cellsOf e = sz) {α : Type} {enc : α → List DV} {p : α → Prop} (hg : ∀ cs, Shp P d e cs → ∃ x, p x ∧ cs = enc x) (h : ShV P (d + 1) t X) : ∃ xs : List α, X = slT enc sz xs ∧ ∀ x ∈ xs, p x := by
  unfold ShV at h
  rw [hu] at h
  unfold Shp at h
  simp only [hu] at h
  obtain ⟨n, ds, h1, h2⟩ := h
  obtain ⟨xs, k1, k2, rfl⟩ := shpN_map hg n ds h2
  simp only [List.cons.injEq, and_true] at h1
  exact ⟨xs, by rw [h1, hc, ← k1], k2⟩
theorem shp_int {P : Program} {d t : Nat} {k : IntKind} {cs : List DV} (hu : P.underlying t = some (.int k)) (h : Shp P (d + 1) t cs) : ∃ n, cs = [.v (.int k n)] ∧ (Lit.int k n).wf = true := by
  unfold Shp at h; simpa only [hu] using h
theorem shv_int {P : Program} {d t : Nat} {k : IntKind} {X : DV} (hu : P.underlying t = some (.int k)) (h : ShV P (d + 1) t X) : ∃ n, X = .v (.int k n) ∧ (Lit.int k n).wf = true := by
  unfold ShV at h
  rw [hu] at h
  obtain ⟨n, h1, h2⟩ := shp_int hu h
  exact ⟨n, by simpa using h1, h2⟩
theorem u8_nat {n : Int} (h : (Lit.int .u8 n).wf = true) : ∃ b : UInt8, n = (b.toNat : Nat) := by
  simp [Lit.wf, IntKind.min, IntKind.max, IntKind.signed, IntKind.bits] at h
  exact ⟨UInt8.ofNat n.toNat, by rw [UInt8.toNat_ofNat']; omega⟩
theorem i64_in {n : Int} (h : (Lit.int .i64 n).wf = true) : -9223372036854775808 ≤ n ∧ n < 9223372036854775808 := by
  simp [Lit.wf, IntKind.min, IntKind.max, IntKind.signed, IntKind.bits] at h; omega
theorem u64_in {n : Int} (h : (Lit.int .u64 n).wf = true) : 0 ≤ n ∧ n < 18446744073709551616 := by
  simp [Lit.wf, IntKind.min, IntKind.max, IntKind.signed, IntKind.bits] at h; omega
theorem shp_u8 {d : Nat} (cs : List DV) (h : Shp Tryz.prog (d + 1) 5 cs) : ∃ b : UInt8, True ∧ cs = bdv b := by
  obtain ⟨n, rfl, hw⟩ := shp_int Tryz.underlying5 h
  obtain ⟨b, rfl⟩ := u8_nat hw
  exact ⟨b, trivial, rfl⟩
theorem shp_hash {d : Nat} (cs : List DV) (h : Shp Tryz.prog (d + 2) 26 cs) : ∃ x : H, True ∧ cs = hdv x := by
  unfold Shp at h
  simp only [Tryz.underlying26] at h
  obtain ⟨l, h1, _, rfl⟩ := shpN_map (p := fun _ => True) shp_u8 32 cs h
  exact ⟨ofL l, trivial, by unfold hdv; rw [ofL_l h1]⟩
theorem o_bytes {X : DV} (h : ShV Tryz.prog 6 22 X) : ∃ l : List UInt8, X = slT bdv 1 l ∧ True := by
  obtain ⟨l, h1, _⟩ := shp_sl (p := fun _ => True) Tryz.underlying22 (by kernel_rfl) shp_u8 h
  exact ⟨l, h1, trivial⟩
theorem o_u8 {X : DV} (h : ShV Tryz.prog 6 5 X) : ∃ b : UInt8, X = .v (.int .u8 b.toNat) ∧ True := by
  obtain ⟨n, rfl, hw⟩ := shv_int Tryz.underlying5 h
  obtain ⟨b, rfl⟩ := u8_nat hw
  exact ⟨b, rfl, trivial⟩
theorem o_int64 {X : DV} (h : ShV Tryz.prog 6 2 X) : ∃ n, X = .v (.int .i64 n) ∧ (-9223372036854775808 ≤ n ∧ n < 9223372036854775808) := by
  obtain ⟨n, rfl, hw⟩ := shv_int Tryz.underlying2 h
  exact ⟨n, rfl, i64_in hw⟩
theorem o_u64 {X : DV} (h : ShV Tryz.prog 6 24 X) : ∃ n, X = .v (.int .u64 n) ∧ (0 ≤ n ∧ n < 18446744073709551616) := by
  obtain ⟨n, rfl, hw⟩ := shv_int Tryz.underlying24 h
  exact ⟨n, rfl, u64_in hw⟩
theorem repl_nil {K : Nat → Prop} {w : World} : repL K w [] [] := by simp [repL]
theorem repl_cons {K : Nat → Prop} {w : World} {X : DV} {Xs : List DV} {u : Value} {us : List Value} (h : X.rep K w u) (k : repL K w Xs us) : repL K w (X :: Xs) (u :: us) := by unfold repL; exact ⟨u, us, rfl, h, k⟩
theorem pf_bool {P : Program} {f : FuncId} {Xs : List DV} {us : List Value} {W : World} (h : PF P f Xs (.v (.bool true))) (hr : repL noK W Xs us) : Calls P f us.toArray W fun e W' => e = .returned (.bool true) ∧ Below W.heap.size W W' :=
  (h W us hr).mono fun e W' ⟨u, h1, h2, h3⟩ => by
    have := h3 noK (fun b hb => hb.elim)
    unfold DV.rep at this
    subst this
    exact ⟨h1, h2⟩
end Go.Proofs.YtmjokdhhniblgaaGreat

