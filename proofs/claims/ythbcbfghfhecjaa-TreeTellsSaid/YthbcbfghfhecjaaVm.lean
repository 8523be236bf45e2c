/-
  The reference's Set.
-/
import Derived.Test.YthbcbfghfhecjaaVl
import Derived.Test.YthbcbfghfhecjaaTh
namespace Go.Proofs.Ythbcbfghfhecjaa
set_option linter.unusedVariables false
set_option linter.unusedSimpArgs false
open Go.RowKit Pl

theorem cf36 : cfn Try.prog 36 = true := by kernel_rfl
theorem u843 : u8s Try.prog 43 = some 5 := by kernel_rfl
theorem us9 : uks Try.prog 9 = true := by kernel_rfl

set_option maxRecDepth 100000 in
set_option maxHeartbeats 1600000 in
theorem rless_pf (a b : H) : PF Try.prog 36 [.ag (hdv a), .ag (hdv b)] (.v (.bool (Op.bytesLess (H.l a) (H.l b)))) := by
  refine PF.enter (fn := Try.f36) Try.func36 rfl Try.ntmps36 rfl (fun w0 => ?_)
  refine .seq ?_
  refine .region ?_
  refine .step rfl (.box 1 rfl rfl rfl rfl) ?_
  refine .step rfl (.box 2 rfl rfl rfl rfl) ?_
  refine .step rfl (.assign rfl rfl) ?_
  refine .nil ?_
  refine TE.frzb 2 rfl rfl rfl rfl ?_
  refine TE.frzb 3 rfl rfl rfl rfl ?_
  refine .next ?_
  refine .seq ?_
  refine .draw mixed [Ro.mk _ (Eff.mk (some (5, _)) []) [], Ro.mk _ (Eff.mk (some (6, _)) []) [], Ro.mk _ (Eff.mk (some (7, _)) []) [], Ro.mk _ (Eff.mk (some (8, _)) []) [], Ro.mk _ (Eff.mk (some (9, _)) []) [], Ro.mk _ (Eff.mk (some (4, _)) []) []] rfl ⟨(fun _ _ => .slicee rfl rfl rfl ar24 (Nat.le_of_ble_eq_true rfl) (by decide)), (fun _ _ => .convbs (l := H.l a) rfl rfl rfl trivial u843 us9), (fun _ _ => .slicee rfl rfl rfl ar24 (Nat.le_of_ble_eq_true rfl) (by decide)), (fun _ _ => .convbs (l := H.l b) rfl rfl rfl trivial u843 us9), (fun _ _ => .binv (.bool (Op.bytesLess (H.l a) (H.l b))) rfl rfl rfl rfl (congrArg Value.bool (by (try rw [ba_toList, ba_toList]); rfl))), (fun _ _ => .assign rfl rfl), trivial⟩ (by kernel_rfl) ?_
  refine .next ?_
  refine .ret ?_
  exact TE.retf rfl rfl rfl trivial

set_option maxRecDepth 100000 in
set_option maxHeartbeats 1600000 in
theorem rset_po (l m : List It) (hx : l.length + m.length ≤ 1048576) : PO Try.prog 11 [slT It.dv 64 (l), slT It.dv 64 (m)] 35 64 (setR l m).length ((setR l m).flatMap It.dv) := by
  obtain ⟨A, hA⟩ : ∃ A, A = l ++ m := ⟨_, rfl⟩
  have hAl : A.length ≤ 1048576 := by rw [hA]; simp; omega
  have hS : setR l m = A.foldl insR [] := by rw [hA]; rfl
  have hA := Lib.hid hA
  rw [hS]
  have hS := Lib.hid hS
  refine PO.enter (fn := Try.f11) Try.func11 rfl Try.ntmps11 rfl (fun w0 => ?_)
  refine .seq ?_
  refine .region ?_
  refine .step rfl (.assign rfl rfl) ?_
  refine .nil ?_
  refine .next ?_
  refine .seq ?_
  refine .region ?_
  refine .step rfl (.assign rfl rfl) ?_
  refine .nil ?_
  refine TE.own0 5 1 35 64 rfl rfl ?_
  refine .next ?_
  refine .seq ?_
  refine .region ?_
  refine .step rfl (.move rfl rfl) ?_
  refine .step rfl (.append0 2 rfl rfl rfl ap25 rfl rfl trivial (it_all _) (by omega) (by omega)) ?_
  refine .step rfl (.move rfl rfl) ?_
  refine .step rfl (.append 3 rfl rfl rfl (it_flat _) rfl ap25 rfl rfl trivial (it_all _) (by omega) (by omega)) ?_
  refine .step rfl (.assign rfl rfl) ?_
  refine .nil ?_
  refine TE.frz 6 (slT It.dv 64 (A)) rfl rfl (by rw [List.length_append, it_flat, it_flat]; omega) (by rw [hA.out]; show DV.sl _ _ _ = DV.sl _ _ _; rw [List.length_append, List.flatMap_append]) ?_
  refine .next ?_
  refine .seq ?_
  refine .seq ?_
  refine .region ?_
  refine .step rfl (.assign rfl rfl) ?_
  refine .nil ?_
  refine TE.setv 7 (.int .i64 ((0 : Nat) : Int)) rfl (congrArg _ (by first | rfl | (dsimp only; first | done | rfl | omega))) ?_
  refine .next ?_
  refine .block ?_
  refine TC.loop (S := Nat × List It) (fun s => s.1 ≤ A.length ∧ s.2.length ≤ s.1 ∧ s.2 = (A.take s.1).foldl insR []) (fun s => A.length - s.1) (fun s => [(0, .d (slT It.dv 64 (l))), (1, .d (slT It.dv 64 (m))), (5, .ow 1 s.2.length 64), (6, .d (slT It.dv 64 (A))), (7, .d (.v (.int .i64 ((s.1 : Nat) : Int))))]) (fun s => [(1, .row 35 64 ((s.2).flatMap It.dv)), (2, .dead), (3, .dead)]) ((0, [])) ⟨Nat.zero_le _, Nat.le_refl _, rfl⟩ ⟨⟨rfl, rfl⟩, ⟨rfl, rfl⟩, ⟨rfl, rfl⟩, ⟨rfl, rfl⟩, ⟨rfl, rfl⟩, trivial⟩ ⟨.inr rfl, .inl rfl, .inl rfl, trivial⟩ (fun s hI => ?_)
  obtain ⟨i, out⟩ := s
  obtain ⟨i1, i2, i3⟩ := hI
  have i1 : i ≤ A.length := i1
  have i2 : out.length ≤ i := i2
  have i3 : out = (A.take i).foldl insR [] := i3
  refine .seq ?_
  refine .seq ?_
  refine .region ?_
  refine .step rfl (.move rfl rfl) ?_
  refine .step rfl (.move rfl rfl) ?_
  refine .step rfl (.len rfl rfl ⟨_, _, rfl⟩ is25) ?_
  refine .step rfl (.bin rfl rfl rfl rfl) ?_
  refine .nil ?_
  refine .next ?_
  refine .cond rfl (fun h1 => ?_) (fun h1 => ?_)
  · skip
    have hi : i < A.length := by have q := of_decide_eq_true h1; (try dsimp only at q); omega
    refine .skip ?_
    refine .next ?_
    refine .seq ?_
    refine .block ?_
    refine .seq ?_
    refine .region ?_
    refine .step rfl (.assign rfl rfl) ?_
    refine .nil ?_
    refine TE.setv 8 (.int .i64 ((0 : Nat) : Int)) rfl (congrArg _ (by first | rfl | (dsimp only; first | done | rfl | omega))) ?_
    refine .next ?_
    refine .seq ?_
    refine .block ?_
    refine TC.loop (S := Nat) (fun k => k ≤ out.length ∧ ∀ j (hj : j < out.length), j < k → ltI out[j] A[i] = true) (fun k => out.length - k) (fun k => [(0, .d (slT It.dv 64 (l))), (1, .d (slT It.dv 64 (m))), (5, .ow 1 out.length 64), (6, .d (slT It.dv 64 (A))), (7, .d (.v (.int .i64 ((i : Nat) : Int)))), (8, .d (.v (.int .i64 ((k : Nat) : Int))))]) (fun k => [(1, .row 35 64 ((out).flatMap It.dv)), (2, .dead), (3, .dead)]) (0) ⟨Nat.zero_le _, fun j _ h => absurd h (Nat.not_lt_zero j)⟩ ⟨⟨rfl, rfl⟩, ⟨rfl, rfl⟩, ⟨rfl, rfl⟩, ⟨rfl, rfl⟩, ⟨rfl, rfl⟩, ⟨rfl, rfl⟩, trivial⟩ ⟨.inr rfl, .inl rfl, .inl rfl, trivial⟩ (fun k hI => ?_)
    obtain ⟨k1, hj⟩ := hI
    refine .seq ?_
    refine .seq ?_
    by_cases hk : k < out.length
    · skip
      refine .draw mixed [Ro.mk _ (Eff.mk (some (19, _)) []) [], Ro.mk _ (Eff.mk (some (20, _)) []) [], Ro.mk _ (Eff.mk (some (21, _)) []) [1], Ro.mk _ (Eff.mk (some (22, _)) []) [], Ro.mk _ (Eff.mk (some (23, _)) []) [], Ro.mk _ (Eff.mk (some (24, _)) []) [], Ro.mk _ (Eff.mk (some (25, _)) []) [], Ro.mk _ (Eff.mk (some (26, _)) []) [1], Ro.mk _ (Eff.mk (some (27, _)) []) [1], Ro.mk _ (Eff.mk (some (28, _)) []) [1], Ro.mk _ (Eff.mk (some (29, _)) []) [], Ro.mk _ (Eff.mk (some (30, _)) []) [], Ro.mk _ (Eff.mk (some (31, _)) []) [], Ro.mk _ (Eff.mk (some (32, _)) []) [], Ro.mk _ (Eff.mk (some (33, _)) []) [], Ro.mk _ (Eff.mk (some (34, _)) []) [], Ro.mk _ (Eff.mk (some (35, _)) []) []] rfl ⟨(fun _ _ => .move rfl rfl), (fun _ _ => .move rfl rfl), (fun _ _ => .leno rfl rfl rfl is25), (fun _ _ => .binv (.bool true) rfl rfl rfl rfl (congrArg Value.bool (decide_eq_true (by omega)))), (fun _ _ => .move rfl rfl), (.inr ⟨23, _, rfl, rfl, rfl, rfl, fun _ _ => .move rfl rfl⟩), (.inr ⟨23, _, rfl, rfl, rfl, rfl, fun _ _ => .move rfl rfl⟩), (.inr ⟨23, _, rfl, rfl, rfl, rfl, fun _ _ => .idxo rfl rfl rfl rfl rfl et25 (Int.natCast_nonneg _) (by omega)⟩), (.inr ⟨23, _, rfl, rfl, rfl, rfl, fun _ _ => .fieldp rfl rfl rfl rfl fo35_0⟩), (.inr ⟨23, _, rfl, rfl, rfl, rfl, fun _ _ => .ldpm rfl rfl rfl rfl (by rw [Nat.add_zero, Int.toNat_natCast]; exact flat_ix out hk) (h_len _) tk24⟩), (.inr ⟨23, _, rfl, rfl, rfl, rfl, fun _ _ => .move rfl rfl⟩), (.inr ⟨23, _, rfl, rfl, rfl, rfl, fun _ _ => .move rfl rfl⟩), (.inr ⟨23, _, rfl, rfl, rfl, rfl, fun _ _ => .idx (A[i]) rfl rfl rfl rfl et25 it_len (Int.natCast_nonneg _) (get_nat (hi))⟩), (.inr ⟨23, _, rfl, rfl, rfl, rfl, fun _ _ => .fielde rfl rfl rfl fo35_0⟩), (.inr ⟨23, _, rfl, rfl, rfl, rfl, fun _ _ => .ldem (ds := hdv A[i].ix) rfl rfl rfl rfl rfl tk24⟩), (.inr ⟨23, _, rfl, rfl, rfl, rfl, fun _ _ => .callf rfl cf36 rfl ⟨trivial, trivial, trivial⟩ (rless_pf out[k].ix A[i].ix)⟩), (fun _ _ => .pick rfl rfl rfl), trivial⟩ (by kernel_rfl) ?_
      refine .next ?_
      refine .cond rfl (fun h3 => ?_) (fun h3 => ?_)
      · skip
        have hlt : ltI out[k] A[i] = true := h3
        refine .skip ?_
        refine .next ?_
        refine .block ?_
        refine .region ?_
        refine .step rfl (.move rfl rfl) ?_
        refine .step rfl (.binv (.int .i64 ((k + 1 : Nat) : Int)) rfl rfl rfl rfl (congrArg _ (by (try dsimp only); rw [IntKind.wrap_i64]; omega))) ?_
        refine .step rfl (.assign rfl rfl) ?_
        refine .nil ?_
        refine TE.blk ?_
        refine TE.setv 8 (.int .i64 ((k + 1 : Nat) : Int)) rfl (congrArg _ (by first | rfl | (dsimp only; first | done | rfl | omega))) ?_
        exact TE.round id (fun _ _ e => e) (k + 1) ⟨hk, fun j h1 h2 => (Nat.lt_or_eq_of_le (Nat.le_of_lt_succ h2)).elim (hj j h1) (fun e => by subst e; exact hlt)⟩ (by omega) ⟨⟨rfl, rfl⟩, ⟨rfl, rfl⟩, ⟨rfl, rfl⟩, ⟨rfl, rfl⟩, ⟨rfl, rfl⟩, ⟨rfl, rfl⟩, trivial⟩ ⟨.inr rfl, .inl rfl, .inl rfl, trivial⟩
      · skip
        have hlt : ltI out[k] A[i] = false := h3
        have hpl := plc_at hk hlt hj
        refine .exit ?_
        refine TE.pass ?_
        refine TE.pass ?_
        refine TE.here ?_
        refine .next ?_
        refine .seq ?_
        refine .draw mixed [Ro.mk _ (Eff.mk (some (38, _)) []) [], Ro.mk _ (Eff.mk (some (39, _)) []) [], Ro.mk _ (Eff.mk (some (40, _)) []) [1], Ro.mk _ (Eff.mk (some (41, _)) []) [], Ro.mk _ (Eff.mk (some (42, _)) []) [], Ro.mk _ (Eff.mk (some (43, _)) []) [], Ro.mk _ (Eff.mk (some (44, _)) []) [], Ro.mk _ (Eff.mk (some (45, _)) []) [1], Ro.mk _ (Eff.mk (some (46, _)) []) [1], Ro.mk _ (Eff.mk (some (47, _)) []) [1], Ro.mk _ (Eff.mk (some (48, _)) []) [], Ro.mk _ (Eff.mk (some (49, _)) []) [], Ro.mk _ (Eff.mk (some (50, _)) []) [], Ro.mk _ (Eff.mk (some (51, _)) []) [], Ro.mk _ (Eff.mk (some (52, _)) []) [], Ro.mk _ (Eff.mk (some (53, _)) []) [], Ro.mk _ (Eff.mk (some (54, _)) []) []] rfl ⟨(fun _ _ => .move rfl rfl), (fun _ _ => .move rfl rfl), (fun _ _ => .leno rfl rfl rfl is25), (fun _ _ => .binv (.bool true) rfl rfl rfl rfl (congrArg Value.bool (decide_eq_true (by omega)))), (fun _ _ => .move rfl rfl), (.inr ⟨42, _, rfl, rfl, rfl, rfl, fun _ _ => .move rfl rfl⟩), (.inr ⟨42, _, rfl, rfl, rfl, rfl, fun _ _ => .move rfl rfl⟩), (.inr ⟨42, _, rfl, rfl, rfl, rfl, fun _ _ => .idxo rfl rfl rfl rfl rfl et25 (Int.natCast_nonneg _) (by omega)⟩), (.inr ⟨42, _, rfl, rfl, rfl, rfl, fun _ _ => .fieldp rfl rfl rfl rfl fo35_0⟩), (.inr ⟨42, _, rfl, rfl, rfl, rfl, fun _ _ => .ldpm rfl rfl rfl rfl (by rw [Nat.add_zero, Int.toNat_natCast]; exact flat_ix out hk) (h_len _) tk24⟩), (.inr ⟨42, _, rfl, rfl, rfl, rfl, fun _ _ => .move rfl rfl⟩), (.inr ⟨42, _, rfl, rfl, rfl, rfl, fun _ _ => .move rfl rfl⟩), (.inr ⟨42, _, rfl, rfl, rfl, rfl, fun _ _ => .idx (A[i]) rfl rfl rfl rfl et25 it_len (Int.natCast_nonneg _) (get_nat (hi))⟩), (.inr ⟨42, _, rfl, rfl, rfl, rfl, fun _ _ => .fielde rfl rfl rfl fo35_0⟩), (.inr ⟨42, _, rfl, rfl, rfl, rfl, fun _ _ => .ldem (ds := hdv A[i].ix) rfl rfl rfl rfl rfl tk24⟩), (.inr ⟨42, _, rfl, rfl, rfl, rfl, fun _ _ => .eqh (a := out[k].ix) (b := A[i].ix) rfl rfl rfl qh24⟩), (fun _ _ => .pick rfl rfl rfl), trivial⟩ (by kernel_rfl) ?_
        refine .next ?_
        refine .cond rfl (fun h4 => ?_) (fun h4 => ?_)
        · skip
          have hal : alike out[k] A[i] = true := h4
          refine .region ?_
          refine .step rfl (.move rfl rfl) ?_
          refine .step rfl (.move rfl rfl) ?_
          refine .step rfl (.move rfl rfl) ?_
          refine .step rfl (.move rfl rfl) ?_
          refine .step rfl (.idx (A[i]) rfl rfl rfl rfl et25 it_len (Int.natCast_nonneg _) (get_nat (hi))) ?_
          refine .step rfl (.ldem (ds := A[i].dv) rfl rfl rfl rfl rfl tk35) ?_
          refine .step rfl (.idxo rfl rfl rfl rfl rfl et25 (Int.natCast_nonneg _) (by omega)) ?_
          refine .step rfl (.storer (xs := out) (enc := It.dv) (A[i]) rfl rfl rfl rfl rfl rfl (fun _ => rfl) sz35 rfl (hk)) ?_
          refine .nil ?_
          refine TE.blk ?_
          refine .next ?_
          refine .region ?_
          refine .step rfl (.move rfl rfl) ?_
          refine .step rfl (.binv (.int .i64 ((i + 1 : Nat) : Int)) rfl rfl rfl rfl (congrArg _ (by (try dsimp only); rw [IntKind.wrap_i64]; omega))) ?_
          refine .step rfl (.assign rfl rfl) ?_
          refine .nil ?_
          refine TE.set 5 (.ow 1 (out.set k A[i]).length 64) rfl (by rw [List.length_set]) ?_
          refine TE.setv 7 (.int .i64 ((i + 1 : Nat) : Int)) rfl (congrArg _ (by first | rfl | (dsimp only; first | done | rfl | omega))) ?_
          exact TE.round id (fun _ _ e => e) ((i + 1, out.set k A[i])) ⟨by show i + 1 ≤ _; omega, by show (out.set k A[i]).length ≤ i + 1; rw [List.length_set]; omega, by show out.set k A[i] = (A.take (i + 1)).foldl insR []; rw [foldl_snoc hi, ← i3, insR_set hk (plc_at hk hlt hj) hal]⟩ (by show _ - (i + 1) < _ - i; omega) ⟨⟨rfl, rfl⟩, ⟨rfl, rfl⟩, ⟨rfl, rfl⟩, ⟨rfl, rfl⟩, ⟨rfl, rfl⟩, trivial⟩ ⟨.inr rfl, .inl rfl, .inl rfl, trivial⟩
        · skip
          have hno : ∀ hk : k < out.length, ¬ alike out[k] A[i] = true := fun _ => by rw [Bool.not_eq_true]; exact h4
          refine TC.frz 5 (slT It.dv 64 (out)) rfl rfl (it_flat _) rfl ?_
          refine .draw mixed [Ro.mk _ (Eff.mk (some (62, _)) []) [], Ro.mk _ (Eff.mk (some (63, _)) []) [], Ro.mk _ (Eff.mk (some (64, _)) []) [], Ro.mk _ (Eff.mk (some (65, _)) [(4, _)]) [4], Ro.mk _ (Eff.mk (some (66, _)) []) [], Ro.mk _ (Eff.mk (some (67, _)) []) [], Ro.mk _ (Eff.mk (some (68, _)) []) [], Ro.mk _ (Eff.mk (some (69, _)) []) [], Ro.mk _ (Eff.mk (some (70, _)) [(5, _)]) [5], Ro.mk _ (Eff.mk (some (71, _)) [(4, .dead), (6, _)]) [4, 5, 6], Ro.mk _ (Eff.mk (some (72, _)) []) [], Ro.mk _ (Eff.mk (some (73, _)) []) [], Ro.mk _ (Eff.mk (some (74, _)) []) [], Ro.mk _ (Eff.mk (some (75, _)) [(6, .dead), (7, _)]) [6, 7], Ro.mk _ (Eff.mk (some (5, _)) []) []] rfl ⟨(fun _ _ => .move rfl rfl), (fun _ _ => .move rfl rfl), (fun _ _ => .slice rfl rfl rfl rfl rfl et25 it_len (by decide) (by omega) (by omega)), (fun _ _ => .append0 4 rfl rfl rfl ap25 rfl rfl trivial (it_all _) (by simp; omega) (by simp; omega)), (fun _ _ => .move rfl rfl), (fun _ _ => .move rfl rfl), (fun _ _ => .idx (A[i]) rfl rfl rfl rfl et25 it_len (Int.natCast_nonneg _) (get_nat (hi))), (fun _ _ => .ldem (ds := A[i].dv) rfl rfl rfl rfl rfl tk35), (fun _ _ => .buildsl (ds := A[i].dv) 5 rfl rfl rfl ap25 zc35 rfl rfl rfl), (fun _ _ => .append 6 rfl rfl rfl (it_flat _) rfl ap25 rfl rfl (okA_len rfl rfl) (it_one _) (by simp; omega) (by simp; omega)), (fun _ _ => .move rfl rfl), (fun _ _ => .move rfl rfl), (fun _ _ => .slice rfl rfl rfl rfl rfl et25 it_len (Int.natCast_nonneg _) (by omega) (by omega)), (fun _ _ => .append 7 rfl rfl rfl (by rw [List.length_append, it_flat, it_len]; omega) rfl ap25 rfl rfl trivial (it_all _) (by simp; omega) (by simp; omega)), (fun _ _ => .assign rfl rfl), trivial⟩ (by kernel_rfl) ?_
          refine TE.blk ?_
          refine .next ?_
          refine .region ?_
          refine .step rfl (.move rfl rfl) ?_
          refine .step rfl (.binv (.int .i64 ((i + 1 : Nat) : Int)) rfl rfl rfl rfl (congrArg _ (by (try dsimp only); rw [IntKind.wrap_i64]; omega))) ?_
          refine .step rfl (.assign rfl rfl) ?_
          refine .nil ?_
          refine TE.set 5 (.ow 7 (out.take k ++ [A[i]] ++ out.drop k).length 64) rfl (by simp; omega) ?_
          refine TE.obj 7 (.row 35 64 (((out.take k ++ [A[i]] ++ out.drop k)).flatMap It.dv)) rfl (by simp [List.flatMap_append]) ?_
          refine TE.setv 7 (.int .i64 ((i + 1 : Nat) : Int)) rfl (congrArg _ (by first | rfl | (dsimp only; first | done | rfl | omega))) ?_
          exact TE.round (swp 1 7) (swp_inj 1 7) ((i + 1, (out.take k ++ [A[i]] ++ out.drop k))) ⟨by show i + 1 ≤ _; omega, by show (out.take k ++ [A[i]] ++ out.drop k).length ≤ i + 1; rw [← insR_new hpl hno]; have := insR_len out A[i]; omega, by show (out.take k ++ [A[i]] ++ out.drop k) = (A.take (i + 1)).foldl insR []; rw [foldl_snoc hi, ← i3, insR_new hpl hno]⟩ (by show _ - (i + 1) < _ - i; omega) ⟨⟨rfl, rfl⟩, ⟨rfl, rfl⟩, ⟨rfl, rfl⟩, ⟨rfl, rfl⟩, ⟨rfl, rfl⟩, trivial⟩ ⟨.inr rfl, .inl rfl, .inl rfl, trivial⟩
    · skip
      have hpl := plc_none hk k1 hj
      have hno : ∀ hk : k < out.length, ¬ alike out[k] A[i] = true := fun q => absurd q hk
      refine .draw mixed [Ro.mk _ (Eff.mk (some (19, _)) []) [], Ro.mk _ (Eff.mk (some (20, _)) []) [], Ro.mk _ (Eff.mk (some (21, _)) []) [1], Ro.mk _ (Eff.mk (some (22, _)) []) [], Ro.mk _ (Eff.mk (some (23, _)) []) [], Ro.mk _ (Eff.mk (some (24, _)) []) [], Ro.mk _ (Eff.mk (some (25, _)) []) [], Ro.mk _ (Eff.mk (some (26, _)) []) [], Ro.mk _ (Eff.mk (some (27, _)) []) [], Ro.mk _ (Eff.mk (some (28, _)) []) [], Ro.mk _ (Eff.mk (some (29, _)) []) [], Ro.mk _ (Eff.mk (some (30, _)) []) [], Ro.mk _ (Eff.mk (some (31, _)) []) [], Ro.mk _ (Eff.mk (some (32, _)) []) [], Ro.mk _ (Eff.mk (some (33, _)) []) [], Ro.mk _ (Eff.mk (some (34, _)) []) [], Ro.mk _ (Eff.mk (some (35, _)) []) []] rfl ⟨(fun _ _ => .move rfl rfl), (fun _ _ => .move rfl rfl), (fun _ _ => .leno rfl rfl rfl is25), (fun _ _ => .binv (.bool false) rfl rfl rfl rfl (congrArg Value.bool (decide_eq_false (by omega)))), (fun _ _ => .move rfl rfl), (.inr ⟨23, _, rfl, rfl, rfl, rfl, 24, rfl, rfl, rfl⟩), (.inr ⟨23, _, rfl, rfl, rfl, rfl, 25, rfl, rfl, rfl⟩), (.inr ⟨23, _, rfl, rfl, rfl, rfl, 26, rfl, rfl, rfl⟩), (.inr ⟨23, _, rfl, rfl, rfl, rfl, 27, rfl, rfl, rfl⟩), (.inr ⟨23, _, rfl, rfl, rfl, rfl, 28, rfl, rfl, rfl⟩), (.inr ⟨23, _, rfl, rfl, rfl, rfl, 29, rfl, rfl, rfl⟩), (.inr ⟨23, _, rfl, rfl, rfl, rfl, 30, rfl, rfl, rfl⟩), (.inr ⟨23, _, rfl, rfl, rfl, rfl, 31, rfl, rfl, rfl⟩), (.inr ⟨23, _, rfl, rfl, rfl, rfl, 32, rfl, rfl, rfl⟩), (.inr ⟨23, _, rfl, rfl, rfl, rfl, 33, rfl, rfl, rfl⟩), (.inr ⟨23, _, rfl, rfl, rfl, rfl, 34, rfl, rfl, rfl⟩), (fun _ _ => .pick rfl rfl rfl), trivial⟩ (by kernel_rfl) ?_
      refine .next ?_
      refine .cond rfl (fun h5 => absurd h5 (by decide)) (fun h5 => ?_)
      refine .exit ?_
      refine TE.pass ?_
      refine TE.pass ?_
      refine TE.here ?_
      refine .next ?_
      refine .seq ?_
      refine .draw mixed [Ro.mk _ (Eff.mk (some (38, _)) []) [], Ro.mk _ (Eff.mk (some (39, _)) []) [], Ro.mk _ (Eff.mk (some (40, _)) []) [1], Ro.mk _ (Eff.mk (some (41, _)) []) [], Ro.mk _ (Eff.mk (some (42, _)) []) [], Ro.mk _ (Eff.mk (some (43, _)) []) [], Ro.mk _ (Eff.mk (some (44, _)) []) [], Ro.mk _ (Eff.mk (some (45, _)) []) [], Ro.mk _ (Eff.mk (some (46, _)) []) [], Ro.mk _ (Eff.mk (some (47, _)) []) [], Ro.mk _ (Eff.mk (some (48, _)) []) [], Ro.mk _ (Eff.mk (some (49, _)) []) [], Ro.mk _ (Eff.mk (some (50, _)) []) [], Ro.mk _ (Eff.mk (some (51, _)) []) [], Ro.mk _ (Eff.mk (some (52, _)) []) [], Ro.mk _ (Eff.mk (some (53, _)) []) [], Ro.mk _ (Eff.mk (some (54, _)) []) []] rfl ⟨(fun _ _ => .move rfl rfl), (fun _ _ => .move rfl rfl), (fun _ _ => .leno rfl rfl rfl is25), (fun _ _ => .binv (.bool false) rfl rfl rfl rfl (congrArg Value.bool (decide_eq_false (by omega)))), (fun _ _ => .move rfl rfl), (.inr ⟨42, _, rfl, rfl, rfl, rfl, 43, rfl, rfl, rfl⟩), (.inr ⟨42, _, rfl, rfl, rfl, rfl, 44, rfl, rfl, rfl⟩), (.inr ⟨42, _, rfl, rfl, rfl, rfl, 45, rfl, rfl, rfl⟩), (.inr ⟨42, _, rfl, rfl, rfl, rfl, 46, rfl, rfl, rfl⟩), (.inr ⟨42, _, rfl, rfl, rfl, rfl, 47, rfl, rfl, rfl⟩), (.inr ⟨42, _, rfl, rfl, rfl, rfl, 48, rfl, rfl, rfl⟩), (.inr ⟨42, _, rfl, rfl, rfl, rfl, 49, rfl, rfl, rfl⟩), (.inr ⟨42, _, rfl, rfl, rfl, rfl, 50, rfl, rfl, rfl⟩), (.inr ⟨42, _, rfl, rfl, rfl, rfl, 51, rfl, rfl, rfl⟩), (.inr ⟨42, _, rfl, rfl, rfl, rfl, 52, rfl, rfl, rfl⟩), (.inr ⟨42, _, rfl, rfl, rfl, rfl, 53, rfl, rfl, rfl⟩), (fun _ _ => .pick rfl rfl rfl), trivial⟩ (by kernel_rfl) ?_
      refine .next ?_
      refine .cond rfl (fun h6 => absurd h6 (by decide)) (fun h6 => ?_)
      refine TC.frz 5 (slT It.dv 64 (out)) rfl rfl (it_flat _) rfl ?_
      refine .draw mixed [Ro.mk _ (Eff.mk (some (62, _)) []) [], Ro.mk _ (Eff.mk (some (63, _)) []) [], Ro.mk _ (Eff.mk (some (64, _)) []) [], Ro.mk _ (Eff.mk (some (65, _)) [(8, _)]) [8], Ro.mk _ (Eff.mk (some (66, _)) []) [], Ro.mk _ (Eff.mk (some (67, _)) []) [], Ro.mk _ (Eff.mk (some (68, _)) []) [], Ro.mk _ (Eff.mk (some (69, _)) []) [], Ro.mk _ (Eff.mk (some (70, _)) [(9, _)]) [9], Ro.mk _ (Eff.mk (some (71, _)) [(8, .dead), (10, _)]) [8, 9, 10], Ro.mk _ (Eff.mk (some (72, _)) []) [], Ro.mk _ (Eff.mk (some (73, _)) []) [], Ro.mk _ (Eff.mk (some (74, _)) []) [], Ro.mk _ (Eff.mk (some (75, _)) [(10, .dead), (11, _)]) [10, 11], Ro.mk _ (Eff.mk (some (5, _)) []) []] rfl ⟨(fun _ _ => .move rfl rfl), (fun _ _ => .move rfl rfl), (fun _ _ => .slice rfl rfl rfl rfl rfl et25 it_len (by decide) (by omega) (by omega)), (fun _ _ => .append0 8 rfl rfl rfl ap25 rfl rfl trivial (it_all _) (by simp; omega) (by simp; omega)), (fun _ _ => .move rfl rfl), (fun _ _ => .move rfl rfl), (fun _ _ => .idx (A[i]) rfl rfl rfl rfl et25 it_len (Int.natCast_nonneg _) (get_nat (hi))), (fun _ _ => .ldem (ds := A[i].dv) rfl rfl rfl rfl rfl tk35), (fun _ _ => .buildsl (ds := A[i].dv) 9 rfl rfl rfl ap25 zc35 rfl rfl rfl), (fun _ _ => .append 10 rfl rfl rfl (it_flat _) rfl ap25 rfl rfl (okA_len rfl rfl) (it_one _) (by simp; omega) (by simp; omega)), (fun _ _ => .move rfl rfl), (fun _ _ => .move rfl rfl), (fun _ _ => .slice rfl rfl rfl rfl rfl et25 it_len (Int.natCast_nonneg _) (by omega) (by omega)), (fun _ _ => .append 11 rfl rfl rfl (by rw [List.length_append, it_flat, it_len]; omega) rfl ap25 rfl rfl trivial (it_all _) (by simp; omega) (by simp; omega)), (fun _ _ => .assign rfl rfl), trivial⟩ (by kernel_rfl) ?_
      refine TE.blk ?_
      refine .next ?_
      refine .region ?_
      refine .step rfl (.move rfl rfl) ?_
      refine .step rfl (.binv (.int .i64 ((i + 1 : Nat) : Int)) rfl rfl rfl rfl (congrArg _ (by (try dsimp only); rw [IntKind.wrap_i64]; omega))) ?_
      refine .step rfl (.assign rfl rfl) ?_
      refine .nil ?_
      refine TE.set 5 (.ow 11 (out.take k ++ [A[i]] ++ out.drop k).length 64) rfl (by simp; omega) ?_
      refine TE.obj 11 (.row 35 64 (((out.take k ++ [A[i]] ++ out.drop k)).flatMap It.dv)) rfl (by simp [List.flatMap_append]) ?_
      refine TE.setv 7 (.int .i64 ((i + 1 : Nat) : Int)) rfl (congrArg _ (by first | rfl | (dsimp only; first | done | rfl | omega))) ?_
      exact TE.round (swp 1 11) (swp_inj 1 11) ((i + 1, (out.take k ++ [A[i]] ++ out.drop k))) ⟨by show i + 1 ≤ _; omega, by show (out.take k ++ [A[i]] ++ out.drop k).length ≤ i + 1; rw [← insR_new hpl hno]; have := insR_len out A[i]; omega, by show (out.take k ++ [A[i]] ++ out.drop k) = (A.take (i + 1)).foldl insR []; rw [foldl_snoc hi, ← i3, insR_new hpl hno]⟩ (by show _ - (i + 1) < _ - i; omega) ⟨⟨rfl, rfl⟩, ⟨rfl, rfl⟩, ⟨rfl, rfl⟩, ⟨rfl, rfl⟩, ⟨rfl, rfl⟩, trivial⟩ ⟨.inr rfl, .inl rfl, .inl rfl, trivial⟩
  · skip
    have hi : ¬ (i < A.length) := by have q := of_decide_eq_false h1; (try dsimp only at q); omega
    have e : out = A.foldl insR [] := by rw [i3, show i = A.length by omega, List.take_length]
    refine .exit ?_
    refine TE.pass ?_
    refine TE.pass ?_
    refine TE.here ?_
    refine .next ?_
    refine .seq ?_
    refine .region ?_
    refine .step rfl (.move rfl rfl) ?_
    refine .step rfl (.assign rfl rfl) ?_
    refine .nil ?_
    refine .next ?_
    refine .ret ?_
    rw [← e]
    exact TE.retof rfl rfl rfl (it_flat _) (by decide) (pl_flat pl_it _)

end Go.Proofs.Ythbcbfghfhecjaa
