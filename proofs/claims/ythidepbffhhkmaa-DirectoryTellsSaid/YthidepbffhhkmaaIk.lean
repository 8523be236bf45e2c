/-
  Knowledge compared, items compared.
-/
import Derived.Test.YthidepbffhhkmaaIj
namespace Go.Proofs.Ythidepbffhhkmaa
set_option linter.unusedVariables false
set_option linter.unusedSimpArgs false
open Go.RowKit Pl

theorem qe30 : eqT Try.prog 30 = some [.s, .i .i64, .i .u64] := by kernel_rfl
theorem qi36 : eqT Try.prog 36 = some iks := by kernel_rfl
theorem qk32 : eqT Try.prog 32 = some [.s, .i .i64, .i .u64, .i .i64] := by kernel_rfl

abbrev kks : List LK := [.s, .i .i64, .i .u64, .i .i64]
abbrev eks : List LK := [.s, .i .i64, .i .u64]
section
variable {P : Program} {C : Cx} {L : Lo} {Γ : Ga} {d : Nat} {ty : TypeId} {pos : String} {af : Array Edge} {gd : Option (Nat × Bool)}
def Kn.us (k : Kn) : List Value := [strV k.nm, .int .i64 k.ver, .int .u64 k.key, .int .i64 k.ep]
def En.us (e : En) : List Value := [strV e.nm, .int .i64 e.ver, .int .u64 e.key]
/-- Knowledge that a machine can hold. -/
def knFit (k : Kn) : Prop := k.nm.length ≤ 1048576 ∧ (-9223372036854775808 ≤ k.ver ∧ k.ver < 9223372036854775808) ∧ (0 ≤ k.key ∧ k.key < 18446744073709551616) ∧ (-9223372036854775808 ≤ k.ep ∧ k.ep < 9223372036854775808)
def enFit (k : En) : Prop := k.nm.length ≤ 1048576 ∧ (-9223372036854775808 ≤ k.ver ∧ k.ver < 9223372036854775808) ∧ (0 ≤ k.key ∧ k.key < 18446744073709551616)
theorem kwf_i64 {n : Int} (h : -9223372036854775808 ≤ n ∧ n < 9223372036854775808) : (Lit.int .i64 n).wf = true := by
  simp [Lit.wf, IntKind.min, IntKind.max, IntKind.signed, IntKind.bits]; omega
theorem kwf_u64 {n : Int} (h : 0 ≤ n ∧ n < 18446744073709551616) : (Lit.int .u64 n).wf = true := by
  simp [Lit.wf, IntKind.min, IntKind.max, IntKind.signed, IntKind.bits]; omega
theorem lit_str {l : List UInt8} (h : l.length ≤ 1048576) : ∃ x, LK.s.lit (strV l) = some x := by
  have : (⟨l.toArray⟩ : ByteArray).size ≤ maxLen := by
    show l.toArray.size ≤ maxLen
    unfold maxLen; simp; omega
  unfold strV LK.lit
  exact ⟨_, if_pos this⟩
theorem lits_en {k : En} (h : enFit k) : ∃ l, lits eks k.us = some l := by
  obtain ⟨x, hx⟩ := lit_str h.1
  exact ⟨[x, .int .i64 k.ver, .int .u64 k.key], by simp only [lits, En.us, hx]; simp [LK.lit, kwf_i64 h.2.1, kwf_u64 h.2.2]⟩
theorem lits_kn {k : Kn} (h : knFit k) : ∃ l, lits kks k.us = some l := by
  obtain ⟨x, hx⟩ := lit_str h.1
  exact ⟨[x, .int .i64 k.ver, .int .u64 k.key, .int .i64 k.ep], by simp only [lits, Kn.us, hx]; simp [LK.lit, kwf_i64 h.2.1, kwf_u64 h.2.2.1, kwf_i64 h.2.2.2]⟩
theorem strV_inj {a b : List UInt8} (h : strV a = strV b) : a = b := by
  unfold strV at h
  injection h with h
  injection h with h
  injection h
theorem kus_inj {a b : Kn} : a.us = b.us ↔ a = b := by
  refine ⟨fun h => ?_, fun h => by rw [h]⟩
  cases a; cases b
  simp only [Kn.us, List.cons.injEq, Value.int.injEq, and_true, true_and] at h
  obtain ⟨h1, h2, h3, h4⟩ := h
  rw [strV_inj h1, h2, h3, h4]
theorem eus_inj {a b : En} : a.us = b.us ↔ a = b := by
  refine ⟨fun h => ?_, fun h => by rw [h]⟩
  cases a; cases b
  simp only [En.us, List.cons.injEq, Value.int.injEq, and_true, true_and] at h
  obtain ⟨h1, h2, h3⟩ := h
  rw [strV_inj h1, h2, h3]
theorem Pl.OT.nek {xt yt : TypeId} {x y : Operand} {a b : Kn} (r : Bool) (h : r = true ↔ ¬ a = b) (ha : knFit a) (hb : knFit b) (hn : Nat.blt d C.n = true) (hx : evd L x = some (.ag a.dv)) (hy : evd L y = some (.ag b.dv)) (ht : eqT P xt = some [.s, .i .i64, .i .u64, .i .i64]) :
    OT P C ⟨some d, .binOp .neq xt x y yt, ty, pos, af, gd⟩ L Γ (upd L d (.f (.v (.bool r)))) Γ :=
  OT.neag r hn hx hy (us := a.us) (vs := b.us) rfl rfl ht (lits_kn ha).choose_spec (lits_kn hb).choose_spec (by rw [kus_inj]; exact h)
theorem Pl.OT.eqen {xt yt : TypeId} {x y : Operand} {a b : En} (r : Bool) (h : r = true ↔ a = b) (ha : enFit a) (hb : enFit b) (hn : Nat.blt d C.n = true) (hx : evd L x = some (.ag a.dv)) (hy : evd L y = some (.ag b.dv)) (ht : eqT P xt = some [.s, .i .i64, .i .u64]) :
    OT P C ⟨some d, .binOp .eql xt x y yt, ty, pos, af, gd⟩ L Γ (upd L d (.f (.v (.bool r)))) Γ :=
  OT.eqag r hn hx hy (us := a.us) (vs := b.us) rfl rfl ht (lits_en ha).choose_spec (lits_en hb).choose_spec (by rw [eus_inj]; exact h)
end

set_option maxRecDepth 100000 in
set_option maxHeartbeats 1600000 in
theorem samei_pf (x : List It) (hx : x.length ≤ 1048577) : PF Try.prog 17 [slT It.dv 64 x, slT It.dv 64 x] (.v (.bool true)) := by
  refine PF.enter (fn := Try.f17) Try.func17 rfl Try.ntmps17 rfl (fun w0 => ?_)
  refine .seq ?_
  refine .region ?_
  refine .step rfl (.assign rfl rfl) ?_
  refine .nil ?_
  refine .next ?_
  refine .seq ?_
  refine .seq ?_
  refine .region ?_
  refine .step rfl (.move rfl rfl) ?_
  refine .step rfl (.len rfl rfl ⟨_, _, rfl⟩ is26) ?_
  refine .step rfl (.move rfl rfl) ?_
  refine .step rfl (.len rfl rfl ⟨_, _, rfl⟩ is26) ?_
  refine .step rfl (.binv (.bool false) rfl rfl rfl rfl (by simp)) ?_
  refine .nil ?_
  refine .next ?_
  refine .cond rfl (fun h1 => absurd h1 (by decide)) (fun h1 => ?_)
  refine .skip ?_
  refine .next ?_
  refine .seq ?_
  refine .seq ?_
  refine .region ?_
  refine .step rfl (.assign rfl rfl) ?_
  refine .nil ?_
  refine TE.setv 5 (.int .i64 ((0 : Nat) : Int)) rfl (congrArg _ (by first | rfl | (dsimp only; first | done | rfl | omega))) ?_
  refine .next ?_
  refine .block ?_
  refine TC.loop (S := Nat) (fun i => i ≤ x.length) (fun i => x.length - i) (fun i => [(0, .d (slT It.dv 64 x)), (1, .d (slT It.dv 64 x)), (5, .d (.v (.int .i64 ((i : Nat) : Int))))]) (fun i => []) (0) (Nat.zero_le _) ⟨⟨rfl, rfl⟩, ⟨rfl, rfl⟩, ⟨rfl, rfl⟩, trivial⟩ trivial (fun i hI => ?_)
  refine .seq ?_
  refine .seq ?_
  refine .region ?_
  refine .step rfl (.move rfl rfl) ?_
  refine .step rfl (.move rfl rfl) ?_
  refine .step rfl (.len rfl rfl ⟨_, _, rfl⟩ is26) ?_
  refine .step rfl (.bin rfl rfl rfl rfl) ?_
  refine .nil ?_
  refine .next ?_
  refine .cond rfl (fun h2 => ?_) (fun h2 => ?_)
  ·skip
   have hi : i < x.length := by have q := of_decide_eq_true h2; (try dsimp only at q); omega
   refine .skip ?_
   refine .next ?_
   refine .seq ?_
   refine .block ?_
   refine .seq ?_
   refine .draw mixed [Ro.mk _ (Eff.mk (some (17, _)) []) [], Ro.mk _ (Eff.mk (some (18, _)) []) [], Ro.mk _ (Eff.mk (some (19, _)) []) [], Ro.mk _ (Eff.mk (some (20, _)) []) [], Ro.mk _ (Eff.mk (some (21, _)) []) [], Ro.mk _ (Eff.mk (some (22, _)) []) [], Ro.mk _ (Eff.mk (some (23, _)) []) [], Ro.mk _ (Eff.mk (some (24, _)) []) [], Ro.mk _ (Eff.mk (some (25, _)) []) []] rfl ⟨(fun _ _ => .move rfl rfl), (fun _ _ => .move rfl rfl), (fun _ _ => .idx (x[i]) rfl rfl rfl rfl et26 (fun _ => rfl) (Int.natCast_nonneg i) (get_nat hi)), (fun _ _ => .ldem (ds := x[i].dv) rfl rfl rfl rfl rfl tk36), (fun _ _ => .move rfl rfl), (fun _ _ => .move rfl rfl), (fun _ _ => .idx (x[i]) rfl rfl rfl rfl et26 (fun _ => rfl) (Int.natCast_nonneg i) (get_nat hi)), (fun _ _ => .ldem (ds := x[i].dv) rfl rfl rfl rfl rfl tk36), (fun _ _ => .neif (a := x[i]) (b := x[i]) (rfl) rfl rfl rfl qi36), trivial⟩ (by kernel_rfl) ?_
   refine .next ?_
   refine .cond rfl (fun h3 => absurd h3 (by decide)) (fun h3 => ?_)
   refine .skip ?_
   refine TE.blk ?_
   refine .next ?_
   refine .region ?_
   refine .step rfl (.move rfl rfl) ?_
   refine .step rfl (.binv (.int .i64 ((i + 1 : Nat) : Int)) rfl rfl rfl rfl (congrArg _ (by (try dsimp only); rw [IntKind.wrap_i64]; omega))) ?_
   refine .step rfl (.assign rfl rfl) ?_
   refine .nil ?_
   refine TE.setv 5 (.int .i64 ((i + 1 : Nat) : Int)) rfl (congrArg _ (by first | rfl | (dsimp only; first | done | rfl | omega))) ?_
   exact TE.round id (fun _ _ e => e) (i + 1) (by omega) (by omega) ⟨⟨rfl, rfl⟩, ⟨rfl, rfl⟩, ⟨rfl, rfl⟩, trivial⟩ trivial
  ·skip
   skip
   refine .exit ?_
   refine TE.pass ?_
   refine TE.pass ?_
   refine TE.here ?_
   refine .next ?_
   refine .seq ?_
   refine .region ?_
   refine .step rfl (.assign rfl rfl) ?_
   refine .nil ?_
   refine .next ?_
   refine .ret ?_
   exact TE.retf rfl rfl rfl trivial

set_option maxRecDepth 100000 in
set_option maxHeartbeats 1600000 in
theorem samek_pf (x : List Kn) (hx : x.length ≤ 1048577) (hft : ∀ k ∈ x, knFit k) : PF Try.prog 16 [slT Kn.dv 4 x, slT Kn.dv 4 x] (.v (.bool true)) := by
  refine PF.enter (fn := Try.f16) Try.func16 rfl Try.ntmps16 rfl (fun w0 => ?_)
  refine .seq ?_
  refine .region ?_
  refine .step rfl (.assign rfl rfl) ?_
  refine .nil ?_
  refine .next ?_
  refine .seq ?_
  refine .seq ?_
  refine .region ?_
  refine .step rfl (.move rfl rfl) ?_
  refine .step rfl (.len rfl rfl ⟨_, _, rfl⟩ is24) ?_
  refine .step rfl (.move rfl rfl) ?_
  refine .step rfl (.len rfl rfl ⟨_, _, rfl⟩ is24) ?_
  refine .step rfl (.binv (.bool false) rfl rfl rfl rfl (by simp)) ?_
  refine .nil ?_
  refine .next ?_
  refine .cond rfl (fun h1 => absurd h1 (by decide)) (fun h1 => ?_)
  refine .skip ?_
  refine .next ?_
  refine .seq ?_
  refine .seq ?_
  refine .region ?_
  refine .step rfl (.assign rfl rfl) ?_
  refine .nil ?_
  refine TE.setv 5 (.int .i64 ((0 : Nat) : Int)) rfl (congrArg _ (by first | rfl | (dsimp only; first | done | rfl | omega))) ?_
  refine .next ?_
  refine .block ?_
  refine TC.loop (S := Nat) (fun i => i ≤ x.length) (fun i => x.length - i) (fun i => [(0, .d (slT Kn.dv 4 x)), (1, .d (slT Kn.dv 4 x)), (5, .d (.v (.int .i64 ((i : Nat) : Int))))]) (fun i => []) (0) (Nat.zero_le _) ⟨⟨rfl, rfl⟩, ⟨rfl, rfl⟩, ⟨rfl, rfl⟩, trivial⟩ trivial (fun i hI => ?_)
  refine .seq ?_
  refine .seq ?_
  refine .region ?_
  refine .step rfl (.move rfl rfl) ?_
  refine .step rfl (.move rfl rfl) ?_
  refine .step rfl (.len rfl rfl ⟨_, _, rfl⟩ is24) ?_
  refine .step rfl (.bin rfl rfl rfl rfl) ?_
  refine .nil ?_
  refine .next ?_
  refine .cond rfl (fun h2 => ?_) (fun h2 => ?_)
  ·skip
   have hi : i < x.length := by have q := of_decide_eq_true h2; (try dsimp only at q); omega
   refine .skip ?_
   refine .next ?_
   refine .seq ?_
   refine .block ?_
   refine .seq ?_
   refine .draw mixed [Ro.mk _ (Eff.mk (some (17, _)) []) [], Ro.mk _ (Eff.mk (some (18, _)) []) [], Ro.mk _ (Eff.mk (some (19, _)) []) [], Ro.mk _ (Eff.mk (some (20, _)) []) [], Ro.mk _ (Eff.mk (some (21, _)) []) [], Ro.mk _ (Eff.mk (some (22, _)) []) [], Ro.mk _ (Eff.mk (some (23, _)) []) [], Ro.mk _ (Eff.mk (some (24, _)) []) [], Ro.mk _ (Eff.mk (some (25, _)) []) []] rfl ⟨(fun _ _ => .move rfl rfl), (fun _ _ => .move rfl rfl), (fun _ _ => .idx (x[i]) rfl rfl rfl rfl et24 (fun _ => rfl) (Int.natCast_nonneg i) (get_nat hi)), (fun _ _ => .ldem (ds := x[i].dv) rfl rfl rfl rfl rfl tk32), (fun _ _ => .move rfl rfl), (fun _ _ => .move rfl rfl), (fun _ _ => .idx (x[i]) rfl rfl rfl rfl et24 (fun _ => rfl) (Int.natCast_nonneg i) (get_nat hi)), (fun _ _ => .ldem (ds := x[i].dv) rfl rfl rfl rfl rfl tk32), (fun _ _ => .nek (a := x[i]) (b := x[i]) false (by simp) (hft _ (List.getElem_mem hi)) (hft _ (List.getElem_mem hi)) rfl rfl rfl qk32), trivial⟩ (by kernel_rfl) ?_
   refine .next ?_
   refine .cond rfl (fun h3 => absurd h3 (by decide)) (fun h3 => ?_)
   refine .skip ?_
   refine TE.blk ?_
   refine .next ?_
   refine .region ?_
   refine .step rfl (.move rfl rfl) ?_
   refine .step rfl (.binv (.int .i64 ((i + 1 : Nat) : Int)) rfl rfl rfl rfl (congrArg _ (by (try dsimp only); rw [IntKind.wrap_i64]; omega))) ?_
   refine .step rfl (.assign rfl rfl) ?_
   refine .nil ?_
   refine TE.setv 5 (.int .i64 ((i + 1 : Nat) : Int)) rfl (congrArg _ (by first | rfl | (dsimp only; first | done | rfl | omega))) ?_
   exact TE.round id (fun _ _ e => e) (i + 1) (by omega) (by omega) ⟨⟨rfl, rfl⟩, ⟨rfl, rfl⟩, ⟨rfl, rfl⟩, trivial⟩ trivial
  ·skip
   skip
   refine .exit ?_
   refine TE.pass ?_
   refine TE.pass ?_
   refine TE.here ?_
   refine .next ?_
   refine .seq ?_
   refine .region ?_
   refine .step rfl (.assign rfl rfl) ?_
   refine .nil ?_
   refine .next ?_
   refine .ret ?_
   exact TE.retf rfl rfl rfl trivial

end Go.Proofs.Ythidepbffhhkmaa
