import Derived.Test.YtdjcclcejmeheaaGreatZJe
import Derived.Test.YtdjcclcejmeheaaGreatZEv
import Derived.Test.YtdjcclcejmeheaaGreatZPy
/-
  Make of both sides.
-/
namespace Go.Proofs.YtdjcclcejmeheaaGreat
set_option linter.unusedVariables false
set_option linter.unusedSimpArgs false
open Go.RowKit Pl
set_option maxRecDepth 100000
set_option maxHeartbeats 3200000
theorem ap52 : apt Tryz.prog 52 = some (41, 32, 32) := by kernel_rfl
theorem cf97 : cfn Tryz.prog 97 = true := by kernel_rfl
theorem cf99 : cfn Tryz.prog 99 = true := by kernel_rfl
theorem is100 : isSl Tryz.prog 100 = some true := by kernel_rfl
theorem sz3 : szt Tryz.prog 3 = some 1 := by kernel_rfl
theorem sz52 : szt Tryz.prog 52 = some 1 := by kernel_rfl
theorem sz81 : szt Tryz.prog 81 = some 66 := by kernel_rfl
theorem tk79 : tyk Tryz.prog 79 = some (some 64) := by kernel_rfl
theorem tk81 : tyk Tryz.prog 81 = some (some 66) := by kernel_rfl
theorem zc81 : zc Tryz.prog 81 = some [.slice none 0 0, .int .i64 0, .int .u8 0, .int .u8 0, .int .u8 0, .int .u8 0, .int .u8 0, .int .u8 0, .int .u8 0, .int .u8 0, .int .u8 0, .int .u8 0, .int .u8 0, .int .u8 0, .int .u8 0, .int .u8 0, .int .u8 0, .int .u8 0, .int .u8 0, .int .u8 0, .int .u8 0, .int .u8 0, .int .u8 0, .int .u8 0, .int .u8 0, .int .u8 0, .int .u8 0, .int .u8 0, .int .u8 0, .int .u8 0, .int .u8 0, .int .u8 0, .int .u8 0, .int .u8 0, .int .u8 0, .int .u8 0, .int .u8 0, .int .u8 0, .int .u8 0, .int .u8 0, .int .u8 0, .int .u8 0, .int .u8 0, .int .u8 0, .int .u8 0, .int .u8 0, .int .u8 0, .int .u8 0, .int .u8 0, .int .u8 0, .int .u8 0, .int .u8 0, .int .u8 0, .int .u8 0, .int .u8 0, .int .u8 0, .int .u8 0, .int .u8 0, .int .u8 0, .int .u8 0, .int .u8 0, .int .u8 0, .int .u8 0, .int .u8 0, .int .u8 0, .int .u8 0] := by kernel_rfl
set_option maxRecDepth 100000 in
set_option maxHeartbeats 1600000 in
theorem rmake_pc (l0 : List It) (ix : H) (hl0 : l0.length ≤ 1048576) : PC Tryz.prog 43 [slT It.dv 64 l0, .ag (hdv (ix))] (.ag (mkP ix (setR l0 [])).dv) := by
  have hI0 : mkI ix (setR l0 []) 0 (setR l0 []) [] := mkI_zero (okT_str (setR_str l0 [])) (by have := setR_len l0 []; simp at this; omega)
  refine PC.enter (fn := Tryz.f43) Tryz.func43 rfl Tryz.ntmps43 rfl (fun w0 K0 => ?_)
  refine .seq ?_
  refine .region ?_
  refine .step rfl (.box 1 rfl rfl rfl rfl) ?_
  refine .step rfl (.alloc 2 rfl rfl zc81 rfl) ?_
  refine .nil ?_
  refine TE.frzb 3 rfl rfl rfl rfl ?_
  refine .next ?_
  refine .seq ?_
  refine .region ?_
  refine .step rfl (.move rfl rfl) ?_
  refine .step rfl (.callc rfl cf96 rfl (.nil2 (rset_po l0 [] (by simpa using hl0)).pf.pc)) ?_
  refine .step rfl (.assign rfl rfl) ?_
  refine .nil ?_
  refine .next ?_
  refine .seq ?_
  refine .region ?_
  refine .step rfl (.alloc 3 rfl rfl zc81 rfl) ?_
  refine .nil ?_
  refine TE.nown 4 41 32 rfl ?_
  refine .next ?_
  refine .seq ?_
  refine .seq ?_
  refine .region ?_
  refine .step rfl (.assign rfl rfl) ?_
  refine .nil ?_
  refine TE.setv 6 (.int .i64 ((0 : Nat) : Int)) rfl (congrArg _ (by first | rfl | (dsimp only; first | done | rfl | omega))) ?_
  refine .next ?_
  refine .block ?_
  refine TC.loop (S := (Nat × List It) × (List H × (Option Addr × Nat))) (fun x => mkI ix (setR l0 []) x.1.1 x.1.2 x.2.1) (fun x => 256 - x.1.1) (fun x => [(0, .d (slT It.dv 64 x.1.2)), (3, .d (.el (hdv ix))), (4, .ptr 2 0), (5, .ptr 3 0), (6, .d (.v (.int .i64 ((x.1.1 : Nat) : Int))))]) (fun x => [(1, .dead), (2, .box 81 [.v (.slice none 0 0), .v (.int .i64 0), .v (.int .u8 0), .v (.int .u8 0), .v (.int .u8 0), .v (.int .u8 0), .v (.int .u8 0), .v (.int .u8 0), .v (.int .u8 0), .v (.int .u8 0), .v (.int .u8 0), .v (.int .u8 0), .v (.int .u8 0), .v (.int .u8 0), .v (.int .u8 0), .v (.int .u8 0), .v (.int .u8 0), .v (.int .u8 0), .v (.int .u8 0), .v (.int .u8 0), .v (.int .u8 0), .v (.int .u8 0), .v (.int .u8 0), .v (.int .u8 0), .v (.int .u8 0), .v (.int .u8 0), .v (.int .u8 0), .v (.int .u8 0), .v (.int .u8 0), .v (.int .u8 0), .v (.int .u8 0), .v (.int .u8 0), .v (.int .u8 0), .v (.int .u8 0), .v (.int .u8 0), .v (.int .u8 0), .v (.int .u8 0), .v (.int .u8 0), .v (.int .u8 0), .v (.int .u8 0), .v (.int .u8 0), .v (.int .u8 0), .v (.int .u8 0), .v (.int .u8 0), .v (.int .u8 0), .v (.int .u8 0), .v (.int .u8 0), .v (.int .u8 0), .v (.int .u8 0), .v (.int .u8 0), .v (.int .u8 0), .v (.int .u8 0), .v (.int .u8 0), .v (.int .u8 0), .v (.int .u8 0), .v (.int .u8 0), .v (.int .u8 0), .v (.int .u8 0), .v (.int .u8 0), .v (.int .u8 0), .v (.int .u8 0), .v (.int .u8 0), .v (.int .u8 0), .v (.int .u8 0), .v (.int .u8 0), .v (.int .u8 0)]), (3, .box 81 [.v (.slice x.2.2.1 (x.1.1 : Nat) x.2.2.2), .v (.int .i64 0), .v (.int .u8 0), .v (.int .u8 0), .v (.int .u8 0), .v (.int .u8 0), .v (.int .u8 0), .v (.int .u8 0), .v (.int .u8 0), .v (.int .u8 0), .v (.int .u8 0), .v (.int .u8 0), .v (.int .u8 0), .v (.int .u8 0), .v (.int .u8 0), .v (.int .u8 0), .v (.int .u8 0), .v (.int .u8 0), .v (.int .u8 0), .v (.int .u8 0), .v (.int .u8 0), .v (.int .u8 0), .v (.int .u8 0), .v (.int .u8 0), .v (.int .u8 0), .v (.int .u8 0), .v (.int .u8 0), .v (.int .u8 0), .v (.int .u8 0), .v (.int .u8 0), .v (.int .u8 0), .v (.int .u8 0), .v (.int .u8 0), .v (.int .u8 0), .v (.int .u8 0), .v (.int .u8 0), .v (.int .u8 0), .v (.int .u8 0), .v (.int .u8 0), .v (.int .u8 0), .v (.int .u8 0), .v (.int .u8 0), .v (.int .u8 0), .v (.int .u8 0), .v (.int .u8 0), .v (.int .u8 0), .v (.int .u8 0), .v (.int .u8 0), .v (.int .u8 0), .v (.int .u8 0), .v (.int .u8 0), .v (.int .u8 0), .v (.int .u8 0), .v (.int .u8 0), .v (.int .u8 0), .v (.int .u8 0), .v (.int .u8 0), .v (.int .u8 0), .v (.int .u8 0), .v (.int .u8 0), .v (.int .u8 0), .v (.int .u8 0), .v (.int .u8 0), .v (.int .u8 0), .v (.int .u8 0), .v (.int .u8 0)]), (4, .nrow (.slice x.2.2.1 (x.1.1 : Nat) x.2.2.2) x.1.1 41 32 (x.2.1.flatMap hdv))]) (((0, setR l0 []), ([], (none, 0)))) hI0 ⟨⟨rfl, rfl⟩, ⟨rfl, rfl⟩, ⟨rfl, rfl⟩, ⟨rfl, rfl⟩, ⟨rfl, rfl⟩, trivial⟩ ⟨.inl rfl, .inr rfl, .inr rfl, .inr rfl, trivial⟩ (fun x hI => ?_)
  obtain ⟨⟨k, l⟩, ⟨path, ⟨u0, u0c⟩⟩⟩ := x
  have hI : mkI ix (setR l0 []) k l path := hI
  have hl := hI.2.2.1
  have hpk : path.length = k := hI.2.2.2.1
  refine .seq ?_
  refine .seq ?_
  refine .region ?_
  refine .step rfl (.move rfl rfl) ?_
  refine .step rfl (.len rfl rfl ⟨_, _, rfl⟩ is100) ?_
  refine .step rfl (.bin rfl rfl rfl rfl) ?_
  refine .nil ?_
  refine .next ?_
  refine .cond rfl (fun h1 => ?_) (fun h1 => ?_)
  ·skip
   have hl1 : 1 < l.length := by have q := of_decide_eq_true h1; (try dsimp only at q); omega
   have hl2 : ¬ l.length < 2 := by omega
   obtain ⟨hk, hs, ho1, ho2⟩ := mkI_parts hI hl2
   have f1 := List.length_filter_le (bit0 k) l
   have f2 := List.length_filter_le (fun x => !bit0 k x) l
   have c1 := rroot_pf (256 - (k + 1)) (k + 1) (l.filter (bit0 k)) ho1 (by omega) (by omega)
   have c2 := rroot_pf (256 - (k + 1)) (k + 1) (l.filter (fun x => !bit0 k x)) ho2 (by omega) (by omega)
   refine .skip ?_
   refine .next ?_
   refine .seq ?_
   refine .block ?_
   refine .seq ?_
   refine .region ?_
   refine .step rfl (.move rfl rfl) ?_
   refine .step rfl (.move rfl rfl) ?_
   refine .step rfl (.callc rfl cf97 rfl (sides_pc l k hk hl)) ?_
   refine .step rfl (.move rfl rfl) ?_
   refine .step rfl (.extract rfl rfl rfl rfl) ?_
   refine .step rfl (.extract rfl rfl rfl rfl) ?_
   refine .step rfl (.assign rfl rfl) ?_
   refine .step rfl (.assign rfl rfl) ?_
   refine .nil ?_
   refine .next ?_
   refine .seq ?_
   refine .seq ?_
   refine .region ?_
   refine .step rfl (.ldem (ds := hdv ix) rfl rfl rfl rfl rfl tk41) ?_
   refine .step rfl (.move rfl rfl) ?_
   refine .step rfl (.callf rfl cf98 rfl ⟨trivial, trivial, trivial⟩ (rbit_pf ix ((k : Nat) : Int))) ?_
   refine .step rfl (.bin rfl rfl rfl rfl) ?_
   refine .nil ?_
   refine .next ?_
   refine .cond rfl (fun h2 => ?_) (fun h2 => ?_)
   ·skip
    have hb : bitI ix ((k : Nat) : Int) = 1 := of_decide_eq_true h2
    refine .region ?_
    refine .step rfl (.move rfl rfl) ?_
    refine .step rfl (.move rfl rfl) ?_
    refine .step rfl (.assign rfl rfl) ?_
    refine .step rfl (.assign rfl rfl) ?_
    refine .nil ?_
    refine .next ?_
    refine .seq ?_
    refine .drawlast mixed [Ro.mk _ (Eff.mk (some (28, _)) []) [3], Ro.mk _ (Eff.mk (some (29, _)) []) [3], Ro.mk _ (Eff.mk (some (30, _)) []) [], Ro.mk _ (Eff.mk (some (31, _)) []) [], Ro.mk _ (Eff.mk (some (32, _)) []) [], Ro.mk _ (Eff.mk (some (33, _)) []) [], Ro.mk _ (Eff.mk (some (34, _)) [(5, _)]) [5], Ro.mk _ (Eff.mk (some (35, _)) [(4, .dead), (6, _)]) [4, 5, 6], Ro.mk _ (Eff.mk (some (36, _)) []) [3]] _ rfl ⟨(fun _ _ => .fieldp rfl rfl rfl rfl fo81_0), (fun _ _ => .ldp rfl rfl rfl rfl rfl tk52), (fun _ _ => .move rfl rfl), (fun _ _ => .move rfl rfl), (fun _ _ => .binv (.int .i64 ((k + 1 : Nat) : Int)) rfl rfl rfl rfl (congrArg _ (by (try dsimp only); rw [IntKind.wrap_i64]; omega))), (fun _ _ => .callf rfl cf99 rfl ⟨trivial, trivial, trivial⟩ (c1)), (fun _ _ => .buildsl (ds := hdv (belowH (256 - (k + 1) + 1) (k + 1) (l.filter (bit0 k)))) 5 rfl rfl rfl ap52 zc41 rfl rfl rfl), (fun _ _ => .appendn (g := 4) 6 rfl rfl rfl (h_flat path _ hpk) rfl ap52 rfl rfl (okA_len rfl rfl) (h_one _) (by (try dsimp only); omega) (by (try dsimp only); omega)), (fun _ _ => .fieldp rfl rfl rfl rfl fo81_0), trivial⟩ (by kernel_rfl) (by kernel_rfl) ?_
    refine .name 35 rfl rfl (fun u1 u1c => ?_)
    refine .step rfl (.store rfl rfl rfl sz52 rfl rfl) ?_
    refine .nil ?_
    refine .next ?_
    refine .region ?_
    refine .step rfl (.move rfl rfl) ?_
    refine .step rfl (.assign rfl rfl) ?_
    refine .nil ?_
    refine TE.blk ?_
    refine .next ?_
    refine .region ?_
    refine .step rfl (.move rfl rfl) ?_
    refine .step rfl (.binv (.int .i64 ((k + 1 : Nat) : Int)) rfl rfl rfl rfl (congrArg _ (by (try dsimp only); rw [IntKind.wrap_i64]; omega))) ?_
    refine .step rfl (.assign rfl rfl) ?_
    refine .nil ?_
    refine TE.setv 6 (.int .i64 ((k + 1 : Nat) : Int)) rfl (congrArg _ (by first | rfl | (dsimp only; first | done | rfl | omega))) ?_
    refine TE.obj 3 (.box 81 [.v (.slice u1 (k + 1 : Nat) u1c), .v (.int .i64 0), .v (.int .u8 0), .v (.int .u8 0), .v (.int .u8 0), .v (.int .u8 0), .v (.int .u8 0), .v (.int .u8 0), .v (.int .u8 0), .v (.int .u8 0), .v (.int .u8 0), .v (.int .u8 0), .v (.int .u8 0), .v (.int .u8 0), .v (.int .u8 0), .v (.int .u8 0), .v (.int .u8 0), .v (.int .u8 0), .v (.int .u8 0), .v (.int .u8 0), .v (.int .u8 0), .v (.int .u8 0), .v (.int .u8 0), .v (.int .u8 0), .v (.int .u8 0), .v (.int .u8 0), .v (.int .u8 0), .v (.int .u8 0), .v (.int .u8 0), .v (.int .u8 0), .v (.int .u8 0), .v (.int .u8 0), .v (.int .u8 0), .v (.int .u8 0), .v (.int .u8 0), .v (.int .u8 0), .v (.int .u8 0), .v (.int .u8 0), .v (.int .u8 0), .v (.int .u8 0), .v (.int .u8 0), .v (.int .u8 0), .v (.int .u8 0), .v (.int .u8 0), .v (.int .u8 0), .v (.int .u8 0), .v (.int .u8 0), .v (.int .u8 0), .v (.int .u8 0), .v (.int .u8 0), .v (.int .u8 0), .v (.int .u8 0), .v (.int .u8 0), .v (.int .u8 0), .v (.int .u8 0), .v (.int .u8 0), .v (.int .u8 0), .v (.int .u8 0), .v (.int .u8 0), .v (.int .u8 0), .v (.int .u8 0), .v (.int .u8 0), .v (.int .u8 0), .v (.int .u8 0), .v (.int .u8 0), .v (.int .u8 0)]) rfl rfl ?_
    refine TE.obj 6 (.nrow (.slice u1 (k + 1 : Nat) u1c) (k + 1) 41 32 ((path ++ [belowH (256 - (k + 1) + 1) (k + 1) (l.filter (bit0 k))]).flatMap hdv)) rfl (by rw [List.flatMap_append]; rfl) ?_
    exact TE.round (swp 4 6) (swp_inj 4 6) (((k + 1, l.filter (fun x => !bit0 k x)), (path ++ [belowH (256 - (k + 1) + 1) (k + 1) (l.filter (bit0 k))], (u1, u1c)))) (mkI_one hI hl2 hb) (by show 256 - (k + 1) < 256 - k; omega) ⟨⟨rfl, rfl⟩, ⟨rfl, rfl⟩, ⟨rfl, rfl⟩, ⟨rfl, rfl⟩, ⟨rfl, rfl⟩, trivial⟩ ⟨.inl rfl, .inr rfl, .inr rfl, .inr rfl, trivial⟩
   ·skip
    have hb : ¬ bitI ix ((k : Nat) : Int) = 1 := of_decide_eq_false h2
    refine .skip ?_
    refine .next ?_
    refine .seq ?_
    refine .drawlast mixed [Ro.mk _ (Eff.mk (some (28, _)) []) [3], Ro.mk _ (Eff.mk (some (29, _)) []) [3], Ro.mk _ (Eff.mk (some (30, _)) []) [], Ro.mk _ (Eff.mk (some (31, _)) []) [], Ro.mk _ (Eff.mk (some (32, _)) []) [], Ro.mk _ (Eff.mk (some (33, _)) []) [], Ro.mk _ (Eff.mk (some (34, _)) [(7, _)]) [7], Ro.mk _ (Eff.mk (some (35, _)) [(4, .dead), (8, _)]) [4, 7, 8], Ro.mk _ (Eff.mk (some (36, _)) []) [3]] _ rfl ⟨(fun _ _ => .fieldp rfl rfl rfl rfl fo81_0), (fun _ _ => .ldp rfl rfl rfl rfl rfl tk52), (fun _ _ => .move rfl rfl), (fun _ _ => .move rfl rfl), (fun _ _ => .binv (.int .i64 ((k + 1 : Nat) : Int)) rfl rfl rfl rfl (congrArg _ (by (try dsimp only); rw [IntKind.wrap_i64]; omega))), (fun _ _ => .callf rfl cf99 rfl ⟨trivial, trivial, trivial⟩ (c2)), (fun _ _ => .buildsl (ds := hdv (belowH (256 - (k + 1) + 1) (k + 1) (l.filter (fun x => !bit0 k x)))) 7 rfl rfl rfl ap52 zc41 rfl rfl rfl), (fun _ _ => .appendn (g := 4) 8 rfl rfl rfl (h_flat path _ hpk) rfl ap52 rfl rfl (okA_len rfl rfl) (h_one _) (by (try dsimp only); omega) (by (try dsimp only); omega)), (fun _ _ => .fieldp rfl rfl rfl rfl fo81_0), trivial⟩ (by kernel_rfl) (by kernel_rfl) ?_
    refine .name 35 rfl rfl (fun u1 u1c => ?_)
    refine .step rfl (.store rfl rfl rfl sz52 rfl rfl) ?_
    refine .nil ?_
    refine .next ?_
    refine .region ?_
    refine .step rfl (.move rfl rfl) ?_
    refine .step rfl (.assign rfl rfl) ?_
    refine .nil ?_
    refine TE.blk ?_
    refine .next ?_
    refine .region ?_
    refine .step rfl (.move rfl rfl) ?_
    refine .step rfl (.binv (.int .i64 ((k + 1 : Nat) : Int)) rfl rfl rfl rfl (congrArg _ (by (try dsimp only); rw [IntKind.wrap_i64]; omega))) ?_
    refine .step rfl (.assign rfl rfl) ?_
    refine .nil ?_
    refine TE.setv 6 (.int .i64 ((k + 1 : Nat) : Int)) rfl (congrArg _ (by first | rfl | (dsimp only; first | done | rfl | omega))) ?_
    refine TE.obj 3 (.box 81 [.v (.slice u1 (k + 1 : Nat) u1c), .v (.int .i64 0), .v (.int .u8 0), .v (.int .u8 0), .v (.int .u8 0), .v (.int .u8 0), .v (.int .u8 0), .v (.int .u8 0), .v (.int .u8 0), .v (.int .u8 0), .v (.int .u8 0), .v (.int .u8 0), .v (.int .u8 0), .v (.int .u8 0), .v (.int .u8 0), .v (.int .u8 0), .v (.int .u8 0), .v (.int .u8 0), .v (.int .u8 0), .v (.int .u8 0), .v (.int .u8 0), .v (.int .u8 0), .v (.int .u8 0), .v (.int .u8 0), .v (.int .u8 0), .v (.int .u8 0), .v (.int .u8 0), .v (.int .u8 0), .v (.int .u8 0), .v (.int .u8 0), .v (.int .u8 0), .v (.int .u8 0), .v (.int .u8 0), .v (.int .u8 0), .v (.int .u8 0), .v (.int .u8 0), .v (.int .u8 0), .v (.int .u8 0), .v (.int .u8 0), .v (.int .u8 0), .v (.int .u8 0), .v (.int .u8 0), .v (.int .u8 0), .v (.int .u8 0), .v (.int .u8 0), .v (.int .u8 0), .v (.int .u8 0), .v (.int .u8 0), .v (.int .u8 0), .v (.int .u8 0), .v (.int .u8 0), .v (.int .u8 0), .v (.int .u8 0), .v (.int .u8 0), .v (.int .u8 0), .v (.int .u8 0), .v (.int .u8 0), .v (.int .u8 0), .v (.int .u8 0), .v (.int .u8 0), .v (.int .u8 0), .v (.int .u8 0), .v (.int .u8 0), .v (.int .u8 0), .v (.int .u8 0), .v (.int .u8 0)]) rfl rfl ?_
    refine TE.obj 8 (.nrow (.slice u1 (k + 1 : Nat) u1c) (k + 1) 41 32 ((path ++ [belowH (256 - (k + 1) + 1) (k + 1) (l.filter (fun x => !bit0 k x))]).flatMap hdv)) rfl (by rw [List.flatMap_append]; rfl) ?_
    exact TE.round (swp 4 8) (swp_inj 4 8) (((k + 1, l.filter (bit0 k)), (path ++ [belowH (256 - (k + 1) + 1) (k + 1) (l.filter (fun x => !bit0 k x))], (u1, u1c)))) (mkI_other hI hl2 hb) (by show 256 - (k + 1) < 256 - k; omega) ⟨⟨rfl, rfl⟩, ⟨rfl, rfl⟩, ⟨rfl, rfl⟩, ⟨rfl, rfl⟩, ⟨rfl, rfl⟩, trivial⟩ ⟨.inl rfl, .inr rfl, .inr rfl, .inr rfl, trivial⟩
  ·skip
   have hl1 : ¬ (1 < l.length) := by have q := of_decide_eq_false h1; (try dsimp only at q); omega
   have hl2 : l.length < 2 := by omega
   obtain ⟨hpk, e1, e2⟩ := mkI_end hI hl2
   subst hpk
   refine .exit ?_
   refine TE.pass ?_
   refine TE.pass ?_
   refine TE.here ?_
   refine .next ?_
   refine .seq ?_
   refine .block ?_
   refine .seq ?_
   refine .region ?_
   refine .step rfl (.move rfl rfl) ?_
   refine .step rfl (.len rfl rfl ⟨_, _, rfl⟩ is100) ?_
   refine .step rfl (.bin rfl rfl rfl rfl) ?_
   refine .step rfl (.assign rfl rfl) ?_
   refine .nil ?_
   refine .next ?_
   refine .cond rfl (fun h3 => ?_) (fun h3 => ?_)
   ·skip
    have h0 : l.length = 0 := by have q := of_decide_eq_true h3; (try dsimp only at q); omega
    have el : l = [] := List.eq_nil_of_length_eq_zero h0
    subst el
    refine .region ?_
    refine .step rfl (.fieldp rfl rfl rfl rfl fo81_1) ?_
    refine .step rfl (.store rfl rfl rfl sz3 rfl rfl) ?_
    refine .nil ?_
    refine TE.blk ?_
    refine .next ?_
    refine .seq ?_
    refine TC.map (fun a w h => reps_cellf 3 0 4 rfl rfl rfl (h_flat path _ rfl) h) ?_
    refine .region ?_
    refine .step rfl (.ldpm (ds := Pf.dv ⟨path, 1, zeroIt⟩) rfl rfl rfl rfl rfl rfl tk81) ?_
    refine .step rfl (.store rfl rfl rfl sz81 rfl rfl) ?_
    refine .nil ?_
    refine .next ?_
    refine .ret ?_
    rw [show mkP ix (setR l0 []) = ⟨path, 1, zeroIt⟩ from mkP_nil e1 e2]
    exact TE.retc rfl rfl rfl
   ·skip
    have h0 : ¬ (l.length = 0) := by have q := of_decide_eq_false h3; (try dsimp only at q); omega
    obtain ⟨x0, el⟩ := one_of (l := l) (by omega)
    subst el
    refine .seq ?_
    refine .draw mixed [Ro.mk _ (Eff.mk (some (49, _)) []) [], Ro.mk _ (Eff.mk (some (50, _)) []) [], Ro.mk _ (Eff.mk (some (51, _)) []) [], Ro.mk _ (Eff.mk (some (52, _)) []) [], Ro.mk _ (Eff.mk (some (53, _)) []) [], Ro.mk _ (Eff.mk (some (54, _)) []) [], Ro.mk _ (Eff.mk (some (48, _)) []) []] rfl ⟨(fun _ _ => .move rfl rfl), (fun _ _ => .idx (x0) rfl rfl rfl rfl et100 it_len (by decide) rfl), (fun _ _ => .fielde rfl rfl rfl fo79_0), (fun _ _ => .ldem (ds := hdv x0.ix) rfl rfl rfl rfl rfl tk41), (fun _ _ => .ldem (ds := hdv ix) rfl rfl rfl rfl rfl tk41), (fun _ _ => .eqh (a := x0.ix) (b := ix) rfl rfl rfl qh41), (fun _ _ => .assign rfl rfl), trivial⟩ (by kernel_rfl) ?_
    refine .next ?_
    refine .cond rfl (fun h4 => ?_) (fun h4 => ?_)
    ·skip
     have hx : H.l x0.ix = H.l ix := of_decide_eq_true h4
     refine .draw mixed [Ro.mk _ (Eff.mk (some (55, _)) []) [], Ro.mk _ (Eff.mk (some (56, _)) []) [], Ro.mk _ (Eff.mk (some (57, _)) []) [], Ro.mk _ (Eff.mk (some (58, _)) []) [3], Ro.mk _ (Eff.mk none [(3, _)]) [3], Ro.mk _ (Eff.mk (some (59, _)) []) [3], Ro.mk _ (Eff.mk none [(3, _)]) [3]] rfl ⟨(fun _ _ => .move rfl rfl), (fun _ _ => .idx (x0) rfl rfl rfl rfl et100 it_len (by decide) rfl), (fun _ _ => .ldem (ds := x0.dv) rfl rfl rfl rfl rfl tk79), (fun _ _ => .fieldp rfl rfl rfl rfl fo81_1), (fun _ _ => .store rfl rfl rfl sz3 rfl rfl), (fun _ _ => .fieldp rfl rfl rfl rfl fo81_2), (fun _ _ => .store rfl rfl rfl sz79 rfl rfl), trivial⟩ (by kernel_rfl) ?_
     refine TE.blk ?_
     refine .next ?_
     refine .seq ?_
     refine TC.map (fun a w h => reps_cellf 3 0 4 rfl rfl rfl (h_flat path _ rfl) h) ?_
     refine .region ?_
     refine .step rfl (.ldpm (ds := Pf.dv ⟨path, 0, x0⟩) rfl rfl rfl rfl rfl rfl tk81) ?_
     refine .step rfl (.store rfl rfl rfl sz81 rfl rfl) ?_
     refine .nil ?_
     refine .next ?_
     refine .ret ?_
     rw [show mkP ix (setR l0 []) = ⟨path, 0, x0⟩ from mkP_here e1 e2 hx]
     exact TE.retc rfl rfl rfl
    ·skip
     have hx : ¬ H.l x0.ix = H.l ix := of_decide_eq_false h4
     refine .draw mixed [Ro.mk _ (Eff.mk (some (38, _)) []) [], Ro.mk _ (Eff.mk (some (39, _)) []) [], Ro.mk _ (Eff.mk (some (40, _)) []) [], Ro.mk _ (Eff.mk (some (41, _)) []) [3], Ro.mk _ (Eff.mk none [(3, _)]) [3], Ro.mk _ (Eff.mk (some (42, _)) []) [3], Ro.mk _ (Eff.mk none [(3, _)]) [3]] rfl ⟨(fun _ _ => .move rfl rfl), (fun _ _ => .idx (x0) rfl rfl rfl rfl et100 it_len (by decide) rfl), (fun _ _ => .ldem (ds := x0.dv) rfl rfl rfl rfl rfl tk79), (fun _ _ => .fieldp rfl rfl rfl rfl fo81_1), (fun _ _ => .store rfl rfl rfl sz3 rfl rfl), (fun _ _ => .fieldp rfl rfl rfl rfl fo81_2), (fun _ _ => .store rfl rfl rfl sz79 rfl rfl), trivial⟩ (by kernel_rfl) ?_
     refine TE.blk ?_
     refine .next ?_
     refine .seq ?_
     refine TC.map (fun a w h => reps_cellf 3 0 4 rfl rfl rfl (h_flat path _ rfl) h) ?_
     refine .region ?_
     refine .step rfl (.ldpm (ds := Pf.dv ⟨path, 2, x0⟩) rfl rfl rfl rfl rfl rfl tk81) ?_
     refine .step rfl (.store rfl rfl rfl sz81 rfl rfl) ?_
     refine .nil ?_
     refine .next ?_
     refine .ret ?_
     rw [show mkP ix (setR l0 []) = ⟨path, 2, x0⟩ from mkP_other e1 e2 hx]
     exact TE.retc rfl rfl rfl
end Go.Proofs.YtdjcclcejmeheaaGreat

