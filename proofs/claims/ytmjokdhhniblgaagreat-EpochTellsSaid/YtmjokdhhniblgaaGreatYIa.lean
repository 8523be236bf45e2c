import Derived.Test.YtmjokdhhniblgaaGreatYQ4
import Derived.Test.YtmjokdhhniblgaaGreatYVo
import Derived.Test.YtmjokdhhniblgaaGreatYEv
/-
  slices.Insert of one value: a row given away.
-/
namespace Go.Proofs.YtmjokdhhniblgaaGreat
set_option linter.unusedVariables false
set_option linter.unusedSimpArgs false
open Go.RowKit Pl
set_option maxRecDepth 100000
set_option maxHeartbeats 3200000
theorem ap33 : apt Tryz.prog 33 = some (40, 4, 40) := by kernel_rfl
theorem et33 : elt Tryz.prog 33 = some (40, 4) := by kernel_rfl
theorem rdv_bs {Γ : Ga} {g off n sz : Nat} {cs : List DV} (h : (Γ g).bind AO.cells = some cs) (hl : off + n * sz ≤ cs.length) : rdv Γ (.bs g off n sz) = some (.sl sz n ((cs.drop off).take (n * sz))) := by
  simp only [rdv, h]; rw [show Nat.ble (off + n * sz) cs.length = true from Nat.ble_eq_true_of_le hl]; rfl
theorem insl_a {cs ds : List DV} {i n : Nat} (hl : cs.length = n * 4) (hd : ds.length = 4) (hi : i ≤ n) : Pl.splice (cs.take (i * 4)) (i * 4) (ds.take (1 * 4)) = cs.take (i * 4) ++ ds := by
  have h1 : (cs.take (i * 4)).length = i * 4 := by rw [List.length_take]; omega
  unfold Pl.splice
  rw [List.take_of_length_le (l := ds) (by omega), List.take_of_length_le (l := cs.take (i * 4)) (by omega), List.drop_eq_nil_of_le (by omega), List.append_nil]
theorem insl_t {cs : List DV} {i n : Nat} (hl : cs.length = n * 4) (hi : i ≤ n) : (cs.drop (i * 4)).take ((n - i) * 4) = cs.drop (i * 4) := List.take_of_length_le (by rw [List.length_drop]; omega)
theorem insl_b {cs ds : List DV} {i n : Nat} (hl : cs.length = n * 4) (hd : ds.length = 4) (hi : i ≤ n) : Pl.splice (cs.take (i * 4) ++ ds) ((i + 1) * 4) (((cs.drop (i * 4)).take ((n - i) * 4)).take ((n - i) * 4)) = cs.take (i * 4) ++ ds ++ cs.drop (i * 4) := by
  have h1 : (cs.take (i * 4) ++ ds).length = (i + 1) * 4 := by rw [List.length_append, List.length_take]; omega
  rw [insl_t hl hi, insl_t hl hi]
  unfold Pl.splice
  rw [List.take_of_length_le (l := cs.take (i * 4) ++ ds) (by omega)]
  have h2 : (cs.take (i * 4) ++ ds).drop ((i + 1) * 4 + (cs.drop (i * 4)).length) = [] := List.drop_eq_nil_of_le (by omega)
  rw [h2, List.append_nil]
theorem insl_c {cs : List DV} {i n : Nat} (hl : cs.length = n * 4) (hi : i < n) : Pl.splice cs ((i + 1) * 4) ((cs.drop (i * 4)).take ((n - i) * 4)) = cs.take ((i + 1) * 4) ++ cs.drop (i * 4) := by
  rw [insl_t hl (by omega)]
  unfold Pl.splice
  have h2 : cs.drop ((i + 1) * 4 + (cs.drop (i * 4)).length) = [] := List.drop_eq_nil_of_le (by rw [List.length_drop]; omega)
  rw [h2, List.append_nil]
theorem insl_d {cs ds : List DV} {i n : Nat} (hl : cs.length = n * 4) (hd : ds.length = 4) (hi : i < n) : Pl.splice (cs.take ((i + 1) * 4) ++ cs.drop (i * 4)) (i * 4) (ds.take (1 * 4)) = cs.take (i * 4) ++ ds ++ cs.drop (i * 4) := by
  have h1 : (cs.take ((i + 1) * 4)).length = (i + 1) * 4 := by rw [List.length_take]; omega
  rw [List.take_of_length_le (l := ds) (by omega)]
  unfold Pl.splice
  rw [List.take_append_of_le_length (by omega), List.take_take, Nat.min_eq_left (by omega), List.drop_append, show (cs.take ((i + 1) * 4)).drop (i * 4 + ds.length) = [] from List.drop_eq_nil_of_le (by omega), List.nil_append, h1, show i * 4 + ds.length - (i + 1) * 4 = 0 by omega, List.drop_zero]
theorem ins_any (cs ds cs' : List DV) (i n : Nat) (hl : cs.length = n * 4) (hd : ds.length = 4) (hi : i ≤ n) (hb : n + 1 ≤ 1099511627776) (hc : cs' = cs.take (i * 4) ++ ds ++ cs.drop (i * 4)) (hp : ∀ X ∈ cs', Pl X) : PA Tryz.prog 85 [.ow 0 n 4, .d (.v (.int .i64 ((i : Nat) : Int))), .d (.sl 4 1 ds)] 40 4 cs cs' (n + 1) := by
 refine PA.enter (fn := Tryz.f85) Tryz.func85 rfl Tryz.ntmps85 rfl rfl (fun w0 K0 ob cp hC hcm => .w ?_)
 refine .t 3 1 rfl rfl (.slicei rfl rfl rfl rfl rfl et33 rfl (Int.natCast_nonneg i) (by omega)) ?_
 refine .t 4 1 rfl rfl (.bv (.bool false) rfl (rfl)) ?_
 refine .q 7 1 rfl rfl (fun h2 => ?_) (fun h2 => ?_)
 ·skip
  have hin : i = n := by have q := h2; simp at q; omega
  have e0 : cs' = cs ++ ds := by rw [hc, hin, ← hl, List.take_length, List.drop_length, List.append_nil]
  subst e0
  by_cases hrm : n + 1 ≤ cp
  ·skip
   refine .t 2 1 rfl rfl (.appin hC hrm (by decide) rfl rfl rfl hl ap33 rfl rfl trivial) ?_
   exact .z 1 1 rfl (TE.reta rfl rfl rfl hp)
  ·skip
   refine .t 2 1 rfl rfl (.appout 7 hC (by omega) rfl rfl rfl hl rfl ap33 rfl rfl trivial (by decide) (by omega) (by omega)) ?_
   exact .z 1 1 rfl (TE.retan rfl rfl rfl rfl hp)
 ·skip
  have hin : ¬ i = n := by have q := h2; simp at q; omega
  refine .t 2 1 rfl rfl (.bv (.int .i64 ((n + 1 : Nat) : Int)) rfl (congrArg _ (by (try dsimp only); rw [IntKind.wrap_i64]; omega))) ?_
  refine .t 1 1 rfl rfl (.capm (sz := 4) hC.1 (by omega) (by decide) rfl rfl rfl rfl rfl et33) ?_
  refine .q 1 1 rfl rfl (fun h4 => ?_) (fun h4 => ?_)
  ·skip
   have hgr : cp < n + 1 := by have q := of_decide_eq_true h4; (try dsimp only at q); omega
   obtain ⟨k, hk⟩ : ∃ k, i + k = n + 1 := ⟨n + 1 - i, by omega⟩
   refine .t 2 1 rfl rfl (.slicef rfl rfl rfl rfl et33 rfl rfl (by omega) (by omega)) ?_
   refine .t 2 1 rfl rfl (.bv (.int .i64 ((n + 1 : Nat) : Int)) rfl (congrArg _ (by (try dsimp only); rw [IntKind.wrap_i64]; omega))) ?_
   refine .t 1 1 rfl rfl (.bv (.int .i64 ((k : Nat) : Int)) rfl (congrArg _ (by (try dsimp only); rw [IntKind.wrap_i64]; omega))) ?_
   refine .t 0 1 rfl rfl (.appzg (y := .tmp 0) (n := n) (i := i) (k := k) 7 hC (by omega) (by omega) (by omega) rfl rfl rfl rfl rfl (by omega) rfl ap33 uk3 (by omega) (by omega)) ?_
   refine .g 1 1 rfl ?_
   refine TE.set 9 (.ow 7 (n + 1) 4) rfl (by rw [hk]) ?_
   refine .t 2 1 rfl rfl (.sliceo rfl rfl rfl rfl et33 rfl rfl (by omega) (by omega) (by omega) (by omega)) ?_
   refine .t 1 1 rfl rfl (.copyd (m := 1) rfl rfl rfl rfl rfl rfl rfl trivial et33 (by show min _ _ = _; omega) (by (try simp only [Int.toNat_natCast, List.length_append, List.length_take]); omega)) ?_
   refine TE.obj 7 (.row 40 4 (cs.take (i * 4) ++ ds)) rfl (congrArg _ (insl_a hl hd hi)) ?_
   refine .d 0 1 rfl ?_
   refine .v 3 1 [] rfl rfl (fun _ _ => .bv (.int .i64 ((i + 1 : Nat) : Int)) rfl (congrArg _ (by (try dsimp only); rw [IntKind.wrap_i64]; omega))) ?_
   refine .v 0 1 [7] rfl rfl (fun _ _ => .sliceo rfl rfl rfl rfl et33 rfl rfl (by omega) (by omega) (by omega) (by omega)) ?_
   refine .v 2 1 [0] rfl rfl (fun _ _ => .sliceo rfl rfl rfl rfl et33 rfl rfl (by omega) (by omega) (by omega) (by omega)) ?_
   refine .t 0 1 (E := ⟨some (54, _), [(7, _)]⟩) [0, 7] rfl rfl (fun _ _ => .copyd (ns := n - i) (nd := n + 1 - (i + 1)) (ds := (cs.drop (i * 4)).take ((n - i) * 4)) (cs := cs.take (i * 4) ++ ds) (m := n - i) rfl rfl rfl rfl rfl rfl (rdv_bs (cs := cs) rfl (by (try simp only [Int.toNat_natCast]); omega)) trivial et33 (by show min _ _ = _; omega) (by (try simp only [Int.toNat_natCast, List.length_append, List.length_take]); omega)) ?_
   refine .y 0 1 rfl (by kernel_rfl) ?_
   refine TE.obj 7 (.row 40 4 cs') rfl (congrArg _ ((insl_b hl hd hi).trans hc.symm)) ?_
   exact .z 2 1 rfl (TE.retan rfl rfl rfl rfl hp)
  ·skip
   have hgr : ¬ (cp < n + 1) := by have q := of_decide_eq_false h4; (try dsimp only at q); omega
   refine .t 3 1 rfl rfl (.bv (.int .i64 ((n + 1 : Nat) : Int)) rfl (congrArg _ (by (try dsimp only); rw [IntKind.wrap_i64]; omega))) ?_
   refine .t 0 1 rfl rfl (.sliceup (sz := 4) hC.1 (by omega) (by decide) (by omega) (by omega) rfl rfl rfl rfl rfl et33 rfl) ?_
   refine .t 5 1 rfl rfl (.bv (.int .i64 ((i + 1 : Nat) : Int)) rfl (congrArg _ (by (try dsimp only); rw [IntKind.wrap_i64]; omega))) ?_
   refine .t 0 1 rfl rfl (.sliceo rfl rfl rfl rfl et33 rfl rfl (by omega) (by omega) (by omega) (by omega)) ?_
   refine .t 0 1 rfl rfl (.overl (tr := 4) Tryz.func115 (by kernel_rfl) (by kernel_rfl) (by kernel_rfl) (by kernel_rfl) et33 rfl rfl (by decide) (by decide) rfl rfl) ?_
   refine .d 2 1 rfl ?_
   refine .v 3 1 [] rfl rfl (fun _ _ => .bv (.int .i64 ((i + 1 : Nat) : Int)) rfl (congrArg _ (by (try dsimp only); rw [IntKind.wrap_i64]; omega))) ?_
   refine .v 0 1 [0] rfl rfl (fun _ _ => .sliceo rfl rfl rfl rfl et33 rfl rfl (by omega) (by omega) (by omega) (by omega)) ?_
   refine .v 2 1 [0] rfl rfl (fun _ _ => .sliceo rfl rfl rfl rfl et33 rfl rfl (by omega) (by omega) (by omega) (by omega)) ?_
   refine .t 0 1 (E := ⟨some (77, _), [(0, _)]⟩) [0] rfl rfl (fun _ _ => .copyo (ns := n + 1 - i) (nd := n + 1 - (i + 1)) (cs := cs) (m := n - i) rfl rfl rfl rfl rfl rfl et33 (by show min _ _ = _; omega) (by (try simp only [Int.toNat_natCast]); omega) (by (try simp only [Int.toNat_natCast]); omega)) ?_
   refine .y 0 1 rfl (by kernel_rfl) ?_
   refine TE.obj 0 (.mrow 0 40 4 (cs.take ((i + 1) * 4) ++ cs.drop (i * 4))) rfl (congrArg _ (insl_c hl (by omega))) ?_
   refine .t 2 1 rfl rfl (.sliceo rfl rfl rfl rfl et33 rfl rfl (by omega) (by omega) (by omega) (by omega)) ?_
   refine .t 1 1 rfl rfl (.copyd (m := 1) rfl rfl rfl rfl rfl rfl rfl trivial et33 (by show min _ _ = _; omega) (by (try simp only [Int.toNat_natCast, List.length_append, List.length_take]); omega)) ?_
   refine TE.obj 0 (.mrow 0 40 4 cs') rfl (congrArg _ ((insl_d hl hd (by omega)).trans hc.symm)) ?_
   exact .z 2 1 rfl (TE.reta rfl rfl rfl hp)
end Go.Proofs.YtmjokdhhniblgaaGreat

