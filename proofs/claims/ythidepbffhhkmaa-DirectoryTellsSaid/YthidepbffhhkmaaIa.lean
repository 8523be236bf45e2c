/-
  slices.Insert of one value: a row given away.
-/
import Derived.Test.YthidepbffhhkmaaQ4
import Derived.Test.YthidepbffhhkmaaVo
namespace Go.Proofs.Ythidepbffhhkmaa
set_option linter.unusedVariables false
set_option linter.unusedSimpArgs false
open Go.RowKit Pl

theorem ap24 : apt Try.prog 24 = some (32, 4, 40) := by kernel_rfl
theorem et24 : elt Try.prog 24 = some (32, 4) := by kernel_rfl
theorem is24 : isSl Try.prog 24 = some true := by kernel_rfl

theorem rdv_bs {Γ : Ga} {g off n sz : Nat} {cs : List DV} (h : (Γ g).bind AO.cells = some cs) (hl : off + n * sz ≤ cs.length) : rdv Γ (.bs g off n sz) = some (.sl sz n ((cs.drop off).take (n * sz))) := by
  simp only [rdv, h]; rw [show Nat.ble (off + n * sz) cs.length = true from Nat.ble_eq_true_of_le hl]; rfl

theorem insl_a {cs ds : List DV} {i n : Nat} (hl : cs.length = n * 4) (hd : ds.length = 4) (hi : i ≤ n) : Pl.splice (cs.take (i * 4)) (i * 4) (ds.take (1 * 4)) = cs.take (i * 4) ++ ds := by
  have h1 : (cs.take (i * 4)).length = i * 4 := by rw [List.length_take]; omega
  unfold Pl.splice
  rw [List.take_of_length_le (l := ds) (by omega), List.take_of_length_le (l := cs.take (i * 4)) (by omega), List.drop_eq_nil_of_le (by omega), List.append_nil]

theorem insl_t {cs : List DV} {i n : Nat} (hl : cs.length = n * 4) (hi : i ≤ n) : (cs.drop (i * 4)).take ((n - i) * 4) = cs.drop (i * 4) := List.take_of_length_le (by rw [List.length_drop]; omega)
theorem insl_b {cs ds : List DV} {i n : Nat} (hl : cs.length = n * 4) (hd : ds.length = 4) (hi : i ≤ n) : Pl.splice (cs.take (i * 4) ++ ds) ((i + 1) * 4) (((cs.drop (i * 4)).take ((n - i) * 4)).take ((n - i) * 4)) = cs.take (i * 4) ++ ds ++ cs.drop (i * 4) := by
  have h1 : (cs.take (i * 4) ++ ds).length = (i + 1) * 4 := by rw [List.length_append, List.length_take]; omega
  rw [insl_t hl hi, insl_t hl hi]
  unfold Pl.splice
  rw [List.take_of_length_le (l := cs.take (i * 4) ++ ds) (by omega)]
  have h2 : (cs.take (i * 4) ++ ds).drop ((i + 1) * 4 + (cs.drop (i * 4)).length) = [] := List.drop_eq_nil_of_le (by omega)
  rw [h2, List.append_nil]

theorem insl_c {cs : List DV} {i n : Nat} (hl : cs.length = n * 4) (hi : i < n) : Pl.splice cs ((i + 1) * 4) ((cs.drop (i * 4)).take ((n - i) * 4)) = cs.take ((i + 1) * 4) ++ cs.drop (i * 4) := by
  rw [insl_t hl (by omega)]
  unfold Pl.splice
  have h2 : cs.drop ((i + 1) * 4 + (cs.drop (i * 4)).length) = [] := List.drop_eq_nil_of_le (by rw [List.length_drop]; omega)
  rw [h2, List.append_nil]

theorem insl_d {cs ds : List DV} {i n : Nat} (hl : cs.length = n * 4) (hd : ds.length = 4) (hi : i < n) : Pl.splice (cs.take ((i + 1) * 4) ++ cs.drop (i * 4)) (i * 4) (ds.take (1 * 4)) = cs.take (i * 4) ++ ds ++ cs.drop (i * 4) := by
  have h1 : (cs.take ((i + 1) * 4)).length = (i + 1) * 4 := by rw [List.length_take]; omega
  rw [List.take_of_length_le (l := ds) (by omega)]
  unfold Pl.splice
  rw [List.take_append_of_le_length (by omega), List.take_take, Nat.min_eq_left (by omega), List.drop_append, show (cs.take ((i + 1) * 4)).drop (i * 4 + ds.length) = [] from List.drop_eq_nil_of_le (by omega), List.nil_append, h1, show i * 4 + ds.length - (i + 1) * 4 = 0 by omega, List.drop_zero]

set_option maxRecDepth 100000 in
set_option maxHeartbeats 1600000 in
theorem ins_any (cs ds cs' : List DV) (i n : Nat) (hl : cs.length = n * 4) (hd : ds.length = 4) (hi : i ≤ n) (hb : n + 1 ≤ 1099511627776) (hc : cs' = cs.take (i * 4) ++ ds ++ cs.drop (i * 4)) (hp : ∀ X ∈ cs', Pl X) : PA Try.prog 34 [.ow 0 n 4, .d (.v (.int .i64 ((i : Nat) : Int))), .d (.sl 4 1 ds)] 32 4 cs cs' (n + 1) := by
  refine PA.enter (fn := Try.f34) Try.func34 rfl Try.ntmps34 rfl rfl (fun w0 K0 ob cp hC hcm => ?_)
  refine .seq ?_
  refine .region ?_
  refine .step rfl (.assign rfl rfl) ?_
  refine .nil ?_
  refine .next ?_
  refine .seq ?_
  refine .region ?_
  refine .step rfl (.move rfl rfl) ?_
  refine .step rfl (.move rfl rfl) ?_
  refine .step rfl (.slicei rfl rfl rfl rfl rfl et24 rfl (Int.natCast_nonneg i) (by omega)) ?_
  refine .nil ?_
  refine .next ?_
  refine .seq ?_
  refine .region ?_
  refine .step rfl (.move rfl rfl) ?_
  refine .step rfl (.len rfl rfl ⟨_, _, rfl⟩ is24) ?_
  refine .step rfl (.assign rfl rfl) ?_
  refine .nil ?_
  refine .next ?_
  refine .seq ?_
  refine .seq ?_
  refine .region ?_
  refine .step rfl (.move rfl rfl) ?_
  refine .step rfl (.binv (.bool false) rfl rfl rfl rfl (rfl)) ?_
  refine .nil ?_
  refine .next ?_
  refine .cond rfl (fun h1 => absurd h1 (by decide)) (fun h1 => ?_)
  refine .skip ?_
  refine .next ?_
  refine .seq ?_
  refine .region ?_
  refine .step rfl (.move rfl rfl) ?_
  refine .step rfl (.leno rfl rfl rfl is24) ?_
  refine .step rfl (.assign rfl rfl) ?_
  refine .nil ?_
  refine .next ?_
  refine .seq ?_
  refine .seq ?_
  refine .region ?_
  refine .step rfl (.move rfl rfl) ?_
  refine .step rfl (.move rfl rfl) ?_
  refine .step rfl (.bin rfl rfl rfl rfl) ?_
  refine .nil ?_
  refine .next ?_
  refine .cond rfl (fun h2 => ?_) (fun h2 => ?_)
  ·skip
   have hin : i = n := by have q := h2; simp at q; omega
   have e0 : cs' = cs ++ ds := by rw [hc, hin, ← hl, List.take_length, List.drop_length, List.append_nil]
   subst e0
   refine .seq ?_
   by_cases hrm : n + 1 ≤ cp
   ·skip
    refine .region ?_
    refine .step rfl (.move rfl rfl) ?_
    refine .step rfl (.move rfl rfl) ?_
    refine .step rfl (.appin hC hrm (by decide) rfl rfl rfl hl ap24 rfl rfl trivial) ?_
    refine .step rfl (.assign rfl rfl) ?_
    refine .nil ?_
    refine .next ?_
    refine .ret ?_
    exact TE.reta rfl rfl rfl hp
   ·skip
    refine .region ?_
    refine .step rfl (.move rfl rfl) ?_
    refine .step rfl (.move rfl rfl) ?_
    refine .step rfl (.appout 7 hC (by omega) rfl rfl rfl hl rfl ap24 rfl rfl trivial (by decide) (by omega) (by omega)) ?_
    refine .step rfl (.assign rfl rfl) ?_
    refine .nil ?_
    refine .next ?_
    refine .ret ?_
    exact TE.retan rfl rfl rfl rfl hp
  ·skip
   have hin : ¬ i = n := by have q := h2; simp at q; omega
   refine .skip ?_
   refine .next ?_
   refine .seq ?_
   refine .seq ?_
   refine .region ?_
   refine .step rfl (.move rfl rfl) ?_
   refine .step rfl (.move rfl rfl) ?_
   refine .step rfl (.binv (.int .i64 ((n + 1 : Nat) : Int)) rfl rfl rfl rfl (congrArg _ (by (try dsimp only); rw [IntKind.wrap_i64]; omega))) ?_
   refine .step rfl (.move rfl rfl) ?_
   refine .step rfl (.capm (sz := 4) hC.1 (by omega) (by decide) rfl rfl rfl rfl rfl et24) ?_
   refine .step rfl (.bin rfl rfl rfl rfl) ?_
   refine .nil ?_
   refine .next ?_
   refine .cond rfl (fun h4 => ?_) (fun h4 => ?_)
   ·skip
    have hgr : cp < n + 1 := by have q := of_decide_eq_true h4; (try dsimp only at q); omega
    obtain ⟨k, hk⟩ : ∃ k, i + k = n + 1 := ⟨n + 1 - i, by omega⟩
    refine .seq ?_
    refine .region ?_
    refine .step rfl (.move rfl rfl) ?_
    refine .step rfl (.move rfl rfl) ?_
    refine .step rfl (.slicef rfl rfl rfl rfl et24 rfl rfl (by omega) (by omega)) ?_
    refine .step rfl (.move rfl rfl) ?_
    refine .step rfl (.move rfl rfl) ?_
    refine .step rfl (.binv (.int .i64 ((n + 1 : Nat) : Int)) rfl rfl rfl rfl (congrArg _ (by (try dsimp only); rw [IntKind.wrap_i64]; omega))) ?_
    refine .step rfl (.move rfl rfl) ?_
    refine .step rfl (.binv (.int .i64 ((k : Nat) : Int)) rfl rfl rfl rfl (congrArg _ (by (try dsimp only); rw [IntKind.wrap_i64]; omega))) ?_
    refine .step rfl (.appzg (y := .tmp 0) (n := n) (i := i) (k := k) 7 hC (by omega) (by omega) (by omega) rfl rfl rfl rfl rfl (by omega) rfl ap24 uk3 (by omega) (by omega)) ?_
    refine .step rfl (.assign rfl rfl) ?_
    refine .nil ?_
    refine TE.set 9 (.ow 7 (n + 1) 4) rfl (by rw [hk]) ?_
    refine .next ?_
    refine .seq ?_
    refine .region ?_
    refine .step rfl (.move rfl rfl) ?_
    refine .step rfl (.move rfl rfl) ?_
    refine .step rfl (.sliceo rfl rfl rfl rfl et24 rfl rfl (by omega) (by omega) (by omega) (by omega)) ?_
    refine .step rfl (.move rfl rfl) ?_
    refine .step rfl (.copyd (m := 1) rfl rfl rfl rfl rfl rfl rfl trivial et24 (by show min _ _ = _; omega) (by (try simp only [Int.toNat_natCast, List.length_append, List.length_take]); omega)) ?_
    refine .nil ?_
    refine TE.obj 7 (.row 32 4 (cs.take (i * 4) ++ ds)) rfl (congrArg _ (insl_a hl hd hi)) ?_
    refine .next ?_
    refine .seq ?_
    refine .draw mixed [Ro.mk _ (Eff.mk (some (46, _)) []) [], Ro.mk _ (Eff.mk (some (47, _)) []) [], Ro.mk _ (Eff.mk (some (48, _)) []) [], Ro.mk _ (Eff.mk (some (49, _)) []) [], Ro.mk _ (Eff.mk (some (50, _)) []) [7], Ro.mk _ (Eff.mk (some (51, _)) []) [], Ro.mk _ (Eff.mk (some (52, _)) []) [], Ro.mk _ (Eff.mk (some (53, _)) []) [0], Ro.mk _ (Eff.mk (some (54, _)) [(7, _)]) [0, 7]] rfl ⟨(fun _ _ => .move rfl rfl), (fun _ _ => .move rfl rfl), (fun _ _ => .move rfl rfl), (fun _ _ => .binv (.int .i64 ((i + 1 : Nat) : Int)) rfl rfl rfl rfl (congrArg _ (by (try dsimp only); rw [IntKind.wrap_i64]; omega))), (fun _ _ => .sliceo rfl rfl rfl rfl et24 rfl rfl (by omega) (by omega) (by omega) (by omega)), (fun _ _ => .move rfl rfl), (fun _ _ => .move rfl rfl), (fun _ _ => .sliceo rfl rfl rfl rfl et24 rfl rfl (by omega) (by omega) (by omega) (by omega)), (fun _ _ => .copyd (ns := n - i) (nd := n + 1 - (i + 1)) (ds := (cs.drop (i * 4)).take ((n - i) * 4)) (cs := cs.take (i * 4) ++ ds) (m := n - i) rfl rfl rfl rfl rfl rfl (rdv_bs (cs := cs) rfl (by (try simp only [Int.toNat_natCast]); omega)) trivial et24 (by show min _ _ = _; omega) (by (try simp only [Int.toNat_natCast, List.length_append, List.length_take]); omega)), trivial⟩ (by kernel_rfl) ?_
    refine TE.obj 7 (.row 32 4 cs') rfl (congrArg _ ((insl_b hl hd hi).trans hc.symm)) ?_
    refine .next ?_
    refine .seq ?_
    refine .region ?_
    refine .step rfl (.move rfl rfl) ?_
    refine .step rfl (.assign rfl rfl) ?_
    refine .nil ?_
    refine .next ?_
    refine .ret ?_
    exact TE.retan rfl rfl rfl rfl hp
   ·skip
    have hgr : ¬ (cp < n + 1) := by have q := of_decide_eq_false h4; (try dsimp only at q); omega
    refine .skip ?_
    refine .next ?_
    refine .seq ?_
    refine .region ?_
    refine .step rfl (.move rfl rfl) ?_
    refine .step rfl (.move rfl rfl) ?_
    refine .step rfl (.move rfl rfl) ?_
    refine .step rfl (.binv (.int .i64 ((n + 1 : Nat) : Int)) rfl rfl rfl rfl (congrArg _ (by (try dsimp only); rw [IntKind.wrap_i64]; omega))) ?_
    refine .step rfl (.sliceup (sz := 4) hC.1 (by omega) (by decide) (by omega) (by omega) rfl rfl rfl rfl rfl et24 rfl) ?_
    refine .step rfl (.assign rfl rfl) ?_
    refine .nil ?_
    refine .next ?_
    refine .seq ?_
    refine .seq ?_
    refine .region ?_
    refine .step rfl (.move rfl rfl) ?_
    refine .step rfl (.move rfl rfl) ?_
    refine .step rfl (.move rfl rfl) ?_
    refine .step rfl (.move rfl rfl) ?_
    refine .step rfl (.binv (.int .i64 ((i + 1 : Nat) : Int)) rfl rfl rfl rfl (congrArg _ (by (try dsimp only); rw [IntKind.wrap_i64]; omega))) ?_
    refine .step rfl (.sliceo rfl rfl rfl rfl et24 rfl rfl (by omega) (by omega) (by omega) (by omega)) ?_
    refine .step rfl (.overl (tr := 4) Try.func52 (by kernel_rfl) (by kernel_rfl) (by kernel_rfl) (by kernel_rfl) et24 rfl rfl (by decide) (by decide) rfl rfl) ?_
    refine .step rfl (.un rfl rfl rfl) ?_
    refine .nil ?_
    refine .next ?_
    refine .cond rfl (fun h5 => ?_) (fun h5 => absurd h5 (by decide))
    refine .seq ?_
    refine .draw mixed [Ro.mk _ (Eff.mk (some (69, _)) []) [], Ro.mk _ (Eff.mk (some (70, _)) []) [], Ro.mk _ (Eff.mk (some (71, _)) []) [], Ro.mk _ (Eff.mk (some (72, _)) []) [], Ro.mk _ (Eff.mk (some (73, _)) []) [0], Ro.mk _ (Eff.mk (some (74, _)) []) [], Ro.mk _ (Eff.mk (some (75, _)) []) [], Ro.mk _ (Eff.mk (some (76, _)) []) [0], Ro.mk _ (Eff.mk (some (77, _)) [(0, _)]) [0]] rfl ⟨(fun _ _ => .move rfl rfl), (fun _ _ => .move rfl rfl), (fun _ _ => .move rfl rfl), (fun _ _ => .binv (.int .i64 ((i + 1 : Nat) : Int)) rfl rfl rfl rfl (congrArg _ (by (try dsimp only); rw [IntKind.wrap_i64]; omega))), (fun _ _ => .sliceo rfl rfl rfl rfl et24 rfl rfl (by omega) (by omega) (by omega) (by omega)), (fun _ _ => .move rfl rfl), (fun _ _ => .move rfl rfl), (fun _ _ => .sliceo rfl rfl rfl rfl et24 rfl rfl (by omega) (by omega) (by omega) (by omega)), (fun _ _ => .copyo (ns := n + 1 - i) (nd := n + 1 - (i + 1)) (cs := cs) (m := n - i) rfl rfl rfl rfl rfl rfl et24 (by show min _ _ = _; omega) (by (try simp only [Int.toNat_natCast]); omega) (by (try simp only [Int.toNat_natCast]); omega)), trivial⟩ (by kernel_rfl) ?_
    refine TE.obj 0 (.mrow 0 32 4 (cs.take ((i + 1) * 4) ++ cs.drop (i * 4))) rfl (congrArg _ (insl_c hl (by omega))) ?_
    refine .next ?_
    refine .seq ?_
    refine .region ?_
    refine .step rfl (.move rfl rfl) ?_
    refine .step rfl (.move rfl rfl) ?_
    refine .step rfl (.sliceo rfl rfl rfl rfl et24 rfl rfl (by omega) (by omega) (by omega) (by omega)) ?_
    refine .step rfl (.move rfl rfl) ?_
    refine .step rfl (.copyd (m := 1) rfl rfl rfl rfl rfl rfl rfl trivial et24 (by show min _ _ = _; omega) (by (try simp only [Int.toNat_natCast, List.length_append, List.length_take]); omega)) ?_
    refine .nil ?_
    refine TE.obj 0 (.mrow 0 32 4 cs') rfl (congrArg _ ((insl_d hl hd (by omega)).trans hc.symm)) ?_
    refine .next ?_
    refine .seq ?_
    refine .region ?_
    refine .step rfl (.move rfl rfl) ?_
    refine .step rfl (.assign rfl rfl) ?_
    refine .nil ?_
    refine .next ?_
    refine .ret ?_
    exact TE.reta rfl rfl rfl hp

end Go.Proofs.Ythidepbffhhkmaa
