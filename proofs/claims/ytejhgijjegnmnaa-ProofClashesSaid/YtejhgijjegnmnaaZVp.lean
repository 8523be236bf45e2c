/-
  Roots; items of numbers; lists of items compared.
-/
import Derived.Test.YtejhgijjegnmnaaZVo
namespace Go.Proofs.Ytejhgijjegnmnaa
set_option linter.unusedVariables false
set_option linter.unusedSimpArgs false
open Go.RowKit Pl
theorem ap44 : apt Try.prog 44 = some (5, 1, 1) := by kernel_rfl
theorem cf26 : cfn Try.prog 26 = true := by kernel_rfl
theorem cf30 : cfn Try.prog 30 = true := by kernel_rfl
theorem et22 : elt Try.prog 22 = some (23, 1) := by kernel_rfl
theorem is22 : isSl Try.prog 22 = some true := by kernel_rfl
theorem sp25 : stp Try.prog 25 = some ([.int .u8 0, .int .u8 0, .int .u8 0, .int .u8 0, .int .u8 0, .int .u8 0, .int .u8 0, .int .u8 0, .int .u8 0, .int .u8 0, .int .u8 0, .int .u8 0, .int .u8 0, .int .u8 0, .int .u8 0, .int .u8 0, .int .u8 0, .int .u8 0, .int .u8 0, .int .u8 0, .int .u8 0, .int .u8 0, .int .u8 0, .int .u8 0, .int .u8 0, .int .u8 0, .int .u8 0, .int .u8 0, .int .u8 0, .int .u8 0, .int .u8 0, .int .u8 0], [(0, 1), (1, 1), (2, 1), (3, 1), (4, 1), (5, 1), (6, 1), (7, 1), (8, 1), (9, 1), (10, 1), (11, 1), (12, 1), (13, 1), (14, 1), (15, 1), (16, 1), (17, 1), (18, 1), (19, 1), (20, 1), (21, 1), (22, 1), (23, 1), (24, 1), (25, 1), (26, 1), (27, 1), (28, 1), (29, 1), (30, 1), (31, 1)]) := by kernel_rfl
theorem sp67 : stp Try.prog 67 = some ([.string ⟨#[]⟩, .int .i64 0, .int .u64 0], [(0, 1), (1, 1), (2, 1)]) := by kernel_rfl
theorem tk23 : tyk Try.prog 23 = some none := by kernel_rfl
theorem uk23 : ukd Try.prog 23 = some .u16 := by kernel_rfl
theorem zc5 : zc Try.prog 5 = some [.int .u8 0] := by kernel_rfl
set_option maxRecDepth 100000 in
set_option maxHeartbeats 1600000 in
theorem rroot_all (l : List It) (hl : l.length ≤ 1048576) : PF Try.prog 15 [slT It.dv 64 (l)] (.ag (hdv (rootH l))) := by
  have c1 := (rset_po l [] (by simpa using hl)).pf
  have c2 := rroot_pf 256 0 (setR l []) (okT_str (setR_str l [])) (by have := setR_len l []; simp at this; omega) (by omega)
  rw [rootH_def] at c2
  refine PF.enter (fn := Try.f15) Try.func15 rfl Try.ntmps15 rfl (fun w0 => ?_)
  refine .seq ?_
  refine .region ?_
  refine .step rfl (.alloc 1 rfl rfl zc25 rfl) ?_
  refine .nil ?_
  refine .next ?_
  refine .seq ?_
  refine .region ?_
  refine .step rfl (.move rfl rfl) ?_
  refine .step rfl (.callf rfl cf26 rfl ⟨trivial, trivial, trivial⟩ (.nil2 c1)) ?_
  refine .step rfl (.callf rfl cf40 rfl ⟨trivial, trivial, trivial⟩ (c2)) ?_
  refine .step rfl (.store rfl rfl rfl sz25 rfl rfl) ?_
  refine .nil ?_
  refine .next ?_
  refine .ret ?_
  exact TE.retf rfl rfl rfl (pl_ag (pl_h _))
set_option maxRecDepth 100000 in
set_option maxHeartbeats 1600000 in
theorem items_po (l : List UInt16) (hl : l.length ≤ 1048576) : PO Try.prog 10 [slT wdv 1 l] 28 64 (l.map seatI).length ((l.map seatI).flatMap It.dv) := by
  refine PO.enter (fn := Try.f10) Try.func10 rfl Try.ntmps10 rfl (fun w0 => ?_)
  refine .seq ?_
  refine .region ?_
  refine .step rfl (.assign rfl rfl) ?_
  refine .nil ?_
  refine .next ?_
  refine .seq ?_
  refine .region ?_
  refine .step rfl (.assign rfl rfl) ?_
  refine .nil ?_
  refine TE.own0 3 1 28 64 rfl rfl ?_
  refine .next ?_
  refine .seq ?_
  refine .seq ?_
  refine .region ?_
  refine .step rfl (.assign rfl rfl) ?_
  refine .nil ?_
  refine TE.setv 4 (.int .i64 ((0 : Nat) : Int)) rfl (congrArg _ (by first | rfl | (dsimp only; first | done | rfl | omega))) ?_
  refine TE.set 3 (.ow 1 ((l.take (0)).map seatI).length 64) rfl rfl ?_
  refine TE.obj 1 (.row 28 64 (((l.take (0)).map seatI).flatMap It.dv)) rfl rfl ?_
  refine .next ?_
  refine .block ?_
  refine TC.loop (S := Nat) (fun i => i ≤ l.length) (fun i => l.length - i) (fun i => [(0, .d (slT wdv 1 l)), (3, .ow 1 ((l.take (i)).map seatI).length 64), (4, .d (.v (.int .i64 ((i : Nat) : Int))))]) (fun i => [(1, .row 28 64 (((l.take (i)).map seatI).flatMap It.dv))]) (0) (Nat.zero_le _) ⟨⟨rfl, rfl⟩, ⟨rfl, rfl⟩, ⟨rfl, rfl⟩, trivial⟩ ⟨.inr rfl, trivial⟩ (fun i hI => ?_)
  refine .seq ?_
  refine .seq ?_
  refine .region ?_
  refine .step rfl (.move rfl rfl) ?_
  refine .step rfl (.move rfl rfl) ?_
  refine .step rfl (.len rfl rfl ⟨_, _, rfl⟩ is22) ?_
  refine .step rfl (.bin rfl rfl rfl rfl) ?_
  refine .nil ?_
  refine .next ?_
  refine .cond rfl (fun h1 => ?_) (fun h1 => ?_)
  · skip
    have hi : i < l.length := by have q := of_decide_eq_true h1; (try dsimp only at q); omega
    obtain ⟨x, hx⟩ : ∃ x, x = l[i] := ⟨_, rfl⟩
    have ln : ((l.take i).map seatI).length ≤ l.length := by simp; omega
    refine .skip ?_
    refine .next ?_
    refine .seq ?_
    refine .block ?_
    refine .seq ?_
    refine .draw mixed [Ro.mk _ (Eff.mk (some (12, _)) []) [], Ro.mk _ (Eff.mk (some (13, _)) []) [], Ro.mk _ (Eff.mk (some (14, _)) []) [], Ro.mk _ (Eff.mk (some (15, _)) []) [], Ro.mk _ (Eff.mk (some (16, _)) []) [], Ro.mk _ (Eff.mk (some (17, _)) [(2, _)]) [2], Ro.mk _ (Eff.mk (some (18, _)) []) [2], Ro.mk _ (Eff.mk (some (19, _)) []) [], Ro.mk _ (Eff.mk (some (20, _)) []) [], Ro.mk _ (Eff.mk (some (21, _)) []) [], Ro.mk _ (Eff.mk (some (22, _)) []) [], Ro.mk _ (Eff.mk (some (23, _)) []) [], Ro.mk _ (Eff.mk (some (24, _)) []) [], Ro.mk _ (Eff.mk (some (25, _)) []) [], Ro.mk _ (Eff.mk (some (26, _)) []) [], Ro.mk _ (Eff.mk (some (5, _)) [(3, _)]) [3], Ro.mk _ (Eff.mk none [(3, _)]) [3]] rfl ⟨(fun _ _ => .move rfl rfl), (fun _ _ => .move rfl rfl), (fun _ _ => .idx (x) rfl rfl rfl rfl et22 (fun _ => rfl) (Int.natCast_nonneg _) (hx ▸ get_nat hi)), (fun _ _ => .lde rfl rfl rfl rfl tk23), (fun _ _ => .conviv (((x.toUInt8.toNat : Nat) : Int)) rfl rfl uk23 uk5 (u16_u8 _)), (fun _ _ => .buildsl (ds := bdv x.toUInt8) 2 rfl rfl rfl ap44 zc5 rfl rfl rfl), (fun _ _ => .convbs (l := [x.toUInt8]) rfl rfl rfl (okA_len rfl rfl) u844 us9), (fun _ _ => .move rfl rfl), (fun _ _ => .move rfl rfl), (fun _ _ => .idx (x) rfl rfl rfl rfl et22 (fun _ => rfl) (Int.natCast_nonneg _) (hx ▸ get_nat hi)), (fun _ _ => .lde rfl rfl rfl rfl tk23), (fun _ _ => .shr (w8 x) rfl rfl rfl (by decide) (u16_s8 _)), (fun _ _ => .conviv (w8 x) rfl rfl uk23 uk3 (u16_hi _)), (fun _ _ => .build (ds := entD [x.toUInt8] (w8 x) 1) rfl rfl sp67 rfl rfl), (fun _ _ => .callf rfl cf30 rfl ⟨trivial, trivial⟩ (ritem_pf [x.toUInt8] (w8 x) 1 (by simp) (by decide) (by decide))), (fun _ _ => .alloc 3 rfl rfl zc28 rfl), (fun _ _ => .store rfl rfl rfl sz28 rfl rfl), trivial⟩ (by kernel_rfl) ?_
    refine TE.obj 3 (.box 28 (seatI0 x).dv) rfl rfl ?_
    refine .next ?_
    refine .seq ?_
    refine .seq ?_
    refine .region ?_
    refine .step rfl (.move rfl rfl) ?_
    refine .step rfl (.move rfl rfl) ?_
    refine .step rfl (.idx (x) rfl rfl rfl rfl et22 (fun _ => rfl) (Int.natCast_nonneg _) (hx ▸ get_nat hi)) ?_
    refine .step rfl (.lde rfl rfl rfl rfl tk23) ?_
    refine .step rfl (.rem (((x.toNat % 3 : Nat) : Int)) rfl rfl rfl (by decide) (by rw [Int.tmod_eq_emod_of_nonneg (by omega)]; omega)) ?_
    refine .step rfl (.bin rfl rfl rfl rfl) ?_
    refine .nil ?_
    refine .next ?_
    refine .cond rfl (fun h2 => ?_) (fun h2 => ?_)
    · skip
      have q := of_decide_eq_true h2
      have hm : x.toNat % 3 = 0 := by (try dsimp only at q); omega
      have es : seatI x = ⟨h3 (b240 x) (b7 x), (seatI0 x).vl⟩ := by unfold seatI; rw [if_pos hm]
      refine .draw mixed [Ro.mk _ (Eff.mk (some (33, _)) []) [], Ro.mk _ (Eff.mk (some (34, _)) []) [], Ro.mk _ (Eff.mk (some (35, _)) []) [], Ro.mk _ (Eff.mk (some (36, _)) []) [], Ro.mk _ (Eff.mk (some (37, _)) []) [], Ro.mk _ (Eff.mk (some (38, _)) []) [], Ro.mk _ (Eff.mk (some (39, _)) []) [], Ro.mk _ (Eff.mk (some (40, _)) []) [], Ro.mk _ (Eff.mk (some (41, _)) []) [], Ro.mk _ (Eff.mk (some (42, _)) []) [], Ro.mk _ (Eff.mk (some (43, _)) []) [], Ro.mk _ (Eff.mk (some (44, _)) []) [], Ro.mk _ (Eff.mk (some (45, _)) []) [], Ro.mk _ (Eff.mk (some (46, _)) []) [], Ro.mk _ (Eff.mk (some (47, _)) []) [3], Ro.mk _ (Eff.mk none [(3, _)]) [3]] rfl ⟨(fun _ _ => .move rfl rfl), (fun _ _ => .move rfl rfl), (fun _ _ => .idx (x) rfl rfl rfl rfl et22 (fun _ => rfl) (Int.natCast_nonneg _) (hx ▸ get_nat hi)), (fun _ _ => .lde rfl rfl rfl rfl tk23), (fun _ _ => .shr ((((w2 x).toNat : Nat) : Int)) rfl rfl rfl (by decide) (u16_s2 _)), (fun _ _ => .conviv ((((b2 x).toNat : Nat) : Int)) rfl rfl uk23 uk5 (u16_u8 _)), (fun _ _ => .bits ((((b240 x).toNat : Nat) : Int)) rfl rfl rfl rfl (u8_and _ 240)), (fun _ _ => .move rfl rfl), (fun _ _ => .move rfl rfl), (fun _ _ => .idx (x) rfl rfl rfl rfl et22 (fun _ => rfl) (Int.natCast_nonneg _) (hx ▸ get_nat hi)), (fun _ _ => .lde rfl rfl rfl rfl tk23), (fun _ _ => .shr ((((w7 x).toNat : Nat) : Int)) rfl rfl rfl (by decide) (u16_s7 _)), (fun _ _ => .conviv ((((b7 x).toNat : Nat) : Int)) rfl rfl uk23 uk5 (u16_u8 _)), (fun _ _ => .build (ds := hdv (h3 (b240 x) (b7 x))) rfl rfl sp25 rfl rfl), (fun _ _ => .fieldp rfl rfl rfl rfl fo28_0), (fun _ _ => .store rfl rfl rfl sz25 rfl rfl), trivial⟩ (by kernel_rfl) ?_
      refine TE.obj 3 (.box 28 (seatI x).dv) rfl (by rw [es]; rfl) ?_
      refine .next ?_
      refine .region ?_
      refine .step rfl (.move rfl rfl) ?_
      refine .step rfl (.ldpm rfl rfl rfl rfl ((show _ = (seatI x).dv from rfl)) (it_len _) tk28) ?_
      refine .step rfl (.buildsl (ds := (seatI x).dv) 4 rfl rfl rfl ap32 zc28 rfl rfl rfl) ?_
      refine .step rfl (.append 5 rfl rfl rfl (it_flat _) rfl ap32 rfl rfl (okA_len rfl rfl) (it_one _) (by omega) (by omega)) ?_
      refine .step rfl (.assign rfl rfl) ?_
      refine .nil ?_
      refine TE.blk ?_
      refine .next ?_
      refine .region ?_
      refine .step rfl (.move rfl rfl) ?_
      refine .step rfl (.binv (.int .i64 ((i + 1 : Nat) : Int)) rfl rfl rfl rfl (congrArg _ (by (try dsimp only); rw [IntKind.wrap_i64]; omega))) ?_
      refine .step rfl (.assign rfl rfl) ?_
      refine .nil ?_
      refine TE.set 3 (.ow 5 ((l.take (i + 1)).map seatI).length 64) rfl (by rw [map_snoc hi, ← hx]; simp) ?_
      refine TE.obj 5 (.row 28 64 (((l.take (i + 1)).map seatI).flatMap It.dv)) rfl (by rw [map_snoc hi, ← hx]; simp [List.flatMap_append]) ?_
      refine TE.setv 4 (.int .i64 ((i + 1 : Nat) : Int)) rfl (congrArg _ (by first | rfl | (dsimp only; first | done | rfl | omega))) ?_
      exact TE.round (swp 1 5) (swp_inj 1 5) (i + 1) (by omega) (by omega) ⟨⟨rfl, rfl⟩, ⟨rfl, rfl⟩, ⟨rfl, rfl⟩, trivial⟩ ⟨.inr rfl, trivial⟩
    · skip
      have q := of_decide_eq_false h2
      have hm : ¬ x.toNat % 3 = 0 := by (try dsimp only at q); omega
      have es : seatI x = seatI0 x := by unfold seatI; rw [if_neg hm]
      refine TC.obj 3 (.box 28 (seatI x).dv) rfl (by rw [es]) ?_
      refine .skip ?_
      refine .next ?_
      refine .region ?_
      refine .step rfl (.move rfl rfl) ?_
      refine .step rfl (.ldpm rfl rfl rfl rfl ((show _ = (seatI x).dv from rfl)) (it_len _) tk28) ?_
      refine .step rfl (.buildsl (ds := (seatI x).dv) 6 rfl rfl rfl ap32 zc28 rfl rfl rfl) ?_
      refine .step rfl (.append 7 rfl rfl rfl (it_flat _) rfl ap32 rfl rfl (okA_len rfl rfl) (it_one _) (by omega) (by omega)) ?_
      refine .step rfl (.assign rfl rfl) ?_
      refine .nil ?_
      refine TE.blk ?_
      refine .next ?_
      refine .region ?_
      refine .step rfl (.move rfl rfl) ?_
      refine .step rfl (.binv (.int .i64 ((i + 1 : Nat) : Int)) rfl rfl rfl rfl (congrArg _ (by (try dsimp only); rw [IntKind.wrap_i64]; omega))) ?_
      refine .step rfl (.assign rfl rfl) ?_
      refine .nil ?_
      refine TE.set 3 (.ow 7 ((l.take (i + 1)).map seatI).length 64) rfl (by rw [map_snoc hi, ← hx]; simp) ?_
      refine TE.obj 7 (.row 28 64 (((l.take (i + 1)).map seatI).flatMap It.dv)) rfl (by rw [map_snoc hi, ← hx]; simp [List.flatMap_append]) ?_
      refine TE.setv 4 (.int .i64 ((i + 1 : Nat) : Int)) rfl (congrArg _ (by first | rfl | (dsimp only; first | done | rfl | omega))) ?_
      exact TE.round (swp 1 7) (swp_inj 1 7) (i + 1) (by omega) (by omega) ⟨⟨rfl, rfl⟩, ⟨rfl, rfl⟩, ⟨rfl, rfl⟩, trivial⟩ ⟨.inr rfl, trivial⟩
  · skip
    have hi : ¬ (i < l.length) := by have q := of_decide_eq_false h1; (try dsimp only at q); omega
    have e : i = l.length := by have : i ≤ l.length := hI; omega
    subst e
    refine .exit ?_
    refine TE.pass ?_
    refine TE.pass ?_
    refine TE.here ?_
    refine .next ?_
    refine .seq ?_
    refine .region ?_
    refine .step rfl (.move rfl rfl) ?_
    refine .step rfl (.assign rfl rfl) ?_
    refine .nil ?_
    refine .next ?_
    refine .ret ?_
    rw [List.take_length]
    exact TE.retof rfl rfl rfl (it_flat _) (by decide) (pl_flat pl_it _)
end Go.Proofs.Ytejhgijjegnmnaa

