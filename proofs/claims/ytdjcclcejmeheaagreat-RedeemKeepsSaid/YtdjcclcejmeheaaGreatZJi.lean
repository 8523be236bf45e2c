import Derived.Test.YtdjcclcejmeheaaGreatZJh
import Derived.Test.YtdjcclcejmeheaaGreatZEv
/-
  What bytes are read as.
-/
namespace Go.Proofs.YtdjcclcejmeheaaGreat
set_option linter.unusedVariables false
set_option linter.unusedSimpArgs false
open Go.RowKit Pl
set_option maxRecDepth 100000
set_option maxHeartbeats 3200000
theorem cf66 : cfn Tryz.prog 66 = true := by kernel_rfl
theorem cf67 : cfn Tryz.prog 67 = true := by kernel_rfl
theorem cf68 : cfn Tryz.prog 68 = true := by kernel_rfl
theorem cf73 : cfn Tryz.prog 73 = true := by kernel_rfl
theorem sp79 : stp Tryz.prog 79 = some ([.int .u8 0, .int .u8 0, .int .u8 0, .int .u8 0, .int .u8 0, .int .u8 0, .int .u8 0, .int .u8 0, .int .u8 0, .int .u8 0, .int .u8 0, .int .u8 0, .int .u8 0, .int .u8 0, .int .u8 0, .int .u8 0, .int .u8 0, .int .u8 0, .int .u8 0, .int .u8 0, .int .u8 0, .int .u8 0, .int .u8 0, .int .u8 0, .int .u8 0, .int .u8 0, .int .u8 0, .int .u8 0, .int .u8 0, .int .u8 0, .int .u8 0, .int .u8 0, .int .u8 0, .int .u8 0, .int .u8 0, .int .u8 0, .int .u8 0, .int .u8 0, .int .u8 0, .int .u8 0, .int .u8 0, .int .u8 0, .int .u8 0, .int .u8 0, .int .u8 0, .int .u8 0, .int .u8 0, .int .u8 0, .int .u8 0, .int .u8 0, .int .u8 0, .int .u8 0, .int .u8 0, .int .u8 0, .int .u8 0, .int .u8 0, .int .u8 0, .int .u8 0, .int .u8 0, .int .u8 0, .int .u8 0, .int .u8 0, .int .u8 0, .int .u8 0], [(0, 32), (32, 32)]) := by kernel_rfl
theorem sp81 : stp Tryz.prog 81 = some ([.slice none 0 0, .int .i64 0, .int .u8 0, .int .u8 0, .int .u8 0, .int .u8 0, .int .u8 0, .int .u8 0, .int .u8 0, .int .u8 0, .int .u8 0, .int .u8 0, .int .u8 0, .int .u8 0, .int .u8 0, .int .u8 0, .int .u8 0, .int .u8 0, .int .u8 0, .int .u8 0, .int .u8 0, .int .u8 0, .int .u8 0, .int .u8 0, .int .u8 0, .int .u8 0, .int .u8 0, .int .u8 0, .int .u8 0, .int .u8 0, .int .u8 0, .int .u8 0, .int .u8 0, .int .u8 0, .int .u8 0, .int .u8 0, .int .u8 0, .int .u8 0, .int .u8 0, .int .u8 0, .int .u8 0, .int .u8 0, .int .u8 0, .int .u8 0, .int .u8 0, .int .u8 0, .int .u8 0, .int .u8 0, .int .u8 0, .int .u8 0, .int .u8 0, .int .u8 0, .int .u8 0, .int .u8 0, .int .u8 0, .int .u8 0, .int .u8 0, .int .u8 0, .int .u8 0, .int .u8 0, .int .u8 0, .int .u8 0, .int .u8 0, .int .u8 0, .int .u8 0, .int .u8 0], [(0, 1), (1, 1), (2, 64)]) := by kernel_rfl
theorem uk24 : ukd Tryz.prog 24 = some .u64 := by kernel_rfl
theorem uk3 : ukd Tryz.prog 3 = some .i64 := by kernel_rfl
theorem phash_s (s : RS) (hs : s.1.length ≤ 1099511627776) : PM Tryz.prog 73 [.ptr 0 0] (.mbox 0 166 (rdC (s).1 (s).2)) (.mbox 0 166 (rdC (rdS s 32).1 (rdS s 32).2)) (.d (.ag (hdv (rdH s)))) := phash_pm s.1 s.2 hs
theorem err_s (s : RS)  : PM Tryz.prog 67 [.ptr 0 0] (.mbox 0 166 (rdC (s).1 (s).2)) (.mbox 0 166 (rdC (s).1 (s).2)) (.d (.v (.int .i64 s.2))) := err_pm s.1 s.2
theorem left_s (s : RS)  : PM Tryz.prog 68 [.ptr 0 0] (.mbox 0 166 (rdC (s).1 (s).2)) (.mbox 0 166 (rdC (s).1 (s).2)) (.d (.v (.int .i64 ((s.1.length : Nat) : Int)))) := left_pm s.1 s.2
set_option maxRecDepth 100000 in
set_option maxHeartbeats 1600000 in
theorem read_pc (b : List UInt8) (hb : b.length ≤ 1099511627776) : PC Tryz.prog 27 [slT bdv 1 b] (.tp [.ag (readP b).1.dv, .v (.int .i64 (readP b).2)]) := by
  refine PC.enter (fn := Tryz.f27) Tryz.func27 rfl Tryz.ntmps27 rfl (fun w0 K0 => ?_)
  refine .seq ?_
  refine .region ?_
  refine .step rfl (.alloc 1 rfl rfl zc81 rfl) ?_
  refine .step rfl (.assign rfl rfl) ?_
  refine .nil ?_
  refine TE.obj 1 (.box 81 zcell) rfl rfl ?_
  refine .next ?_
  refine .seq ?_
  refine .region ?_
  refine .step rfl (.move rfl rfl) ?_
  refine .step rfl (.callb 2 rfl rfl cf63 rfl ⟨trivial, trivial⟩ (new_pb b hb)) ?_
  refine .step rfl (.assign rfl rfl) ?_
  refine .nil ?_
  refine .next ?_
  refine .seq ?_
  refine .region ?_
  refine .step rfl (.move rfl rfl) ?_
  refine .step rfl (.callm (o' := .box 166 (rdC (rdS (b, 0) 8).1 (rdS (b, 0) 8).2)) 2 rfl cf66 rfl rfl rfl rfl (by simp) rfl rfl (num_s (b, 0) hb)) ?_
  refine .step rfl (.assign rfl rfl) ?_
  refine .nil ?_
  refine TE.setv 5 (.int .u64 (rdN (b, 0))) rfl rfl ?_
  refine .next ?_
  refine .seq ?_
  refine .block ?_
  refine .seq ?_
  refine .region ?_
  refine .step rfl (.move rfl rfl) ?_
  refine .step rfl (.callm (o' := .box 166 (rdC (rdS (b, 0) 8).1 (rdS (b, 0) 8).2)) 2 rfl cf67 rfl rfl rfl rfl (by simp) rfl rfl (err_s (rdS (b, 0) 8))) ?_
  refine .step rfl (.bin rfl rfl rfl rfl) ?_
  refine .step rfl (.assign rfl rfl) ?_
  refine .nil ?_
  refine .next ?_
  refine .cond rfl (fun h1 => ?_) (fun h1 => ?_)
  ·skip
   have hx : ¬ (rdS (b, 0) 8).2 = 0 := by simpa using h1
   refine .seq ?_
   refine .region ?_
   refine .step rfl (.build (ds := zcell) rfl rfl sp81 rfl rfl) ?_
   refine .step rfl (.move rfl rfl) ?_
   refine .step rfl (.callm (o' := .box 166 (rdC (rdS (b, 0) 8).1 (rdS (b, 0) 8).2)) 2 rfl cf67 rfl rfl rfl rfl (by simp) rfl rfl (err_s (rdS (b, 0) 8))) ?_
   refine .step rfl (.store rfl rfl rfl sz81 rfl rfl) ?_
   refine .step rfl (.assign rfl rfl) ?_
   refine .nil ?_
   refine .next ?_
   refine .ret ?_
   refine TE.obj 1 (.box 81 zcell) rfl rfl ?_
   refine TE.objsub 1 (Pf.dv zeroP) rfl rfl rfl zeroP_sub ?_
   rw [readP_bad hx]
   exact TE.rettc rfl rfl rfl
  ·skip
   have hx : (rdS (b, 0) 8).2 = 0 := by simpa using h1
   refine .seq ?_
   refine .region ?_
   refine .step rfl (.move rfl rfl) ?_
   refine .step rfl (.bin rfl rfl rfl rfl) ?_
   refine .step rfl (.assign rfl rfl) ?_
   refine .nil ?_
   refine .next ?_
   refine .cond rfl (fun h2 => ?_) (fun h2 => ?_)
   ·skip
    have hn : 256 < rdN (b, 0) := of_decide_eq_true h2
    refine .seq ?_
    refine .region ?_
    refine .step rfl (.build (ds := zcell) rfl rfl sp81 rfl rfl) ?_
    refine .step rfl (.store rfl rfl rfl sz81 rfl rfl) ?_
    refine .step rfl (.assign rfl rfl) ?_
    refine .nil ?_
    refine .next ?_
    refine .ret ?_
    refine TE.obj 1 (.box 81 zcell) rfl rfl ?_
    refine TE.objsub 1 (Pf.dv zeroP) rfl rfl rfl zeroP_sub ?_
    rw [readP_long hx hn]
    exact TE.rettc rfl rfl rfl
   ·skip
    have hn : ¬ 256 < rdN (b, 0) := of_decide_eq_false h2
    refine .skip ?_
    refine TE.blk ?_
    refine .next ?_
    refine .seq ?_
    refine .region ?_
    refine .step rfl (.alloc 3 rfl rfl zc81 rfl) ?_
    refine .nil ?_
    refine TE.obj 1 (.box 81 zcell) rfl rfl ?_
    obtain ⟨N, hN⟩ := rdN_nat (b, 0)
    have hrd : readP b = readE (rdS (b, 0) 8) N := by rw [readP_ok hx hn, hN]; rfl
    have hs0 : (rdS (b, 0) 8).1.length ≤ 1099511627776 := Nat.le_trans (rdS_le (b, 0) 8) hb
    generalize rdS (b, 0) 8 = s0 at *
    have hN2 : N ≤ 256 := by omega
    refine TE.nown 4 41 32 rfl ?_
    refine .next ?_
    refine .seq ?_
    refine .seq ?_
    refine .region ?_
    refine .step rfl (.move rfl rfl) ?_
    refine .step rfl (.move rfl rfl) ?_
    refine .nil ?_
    refine TE.setv 23 (.int .u64 ((N : Nat) : Int)) rfl (congrArg _ hN) ?_
    refine TE.setv 24 (.int .u64 ((0 : Nat) : Int)) rfl (congrArg _ (by first | rfl | (dsimp only; first | done | rfl | omega))) ?_
    refine .next ?_
    refine .block ?_
    refine TC.loop (S := Nat × (Option Addr × Nat)) (fun x => x.1 ≤ N) (fun x => N - x.1) (fun x => [(2, .ptr 1 0), (4, .ptr 2 0), (6, .ptr 3 0), (23, .d (.v (.int .u64 ((N : Nat) : Int)))), (24, .d (.v (.int .u64 ((x.1 : Nat) : Int))))]) (fun x => [(1, .box 81 zcell), (2, .box 166 (rdC (stK s0 x.1).1 (stK s0 x.1).2)), (3, .box 81 [.v (.slice x.2.1 (x.1 : Nat) x.2.2), .v (.int .i64 0), .v (.int .u8 0), .v (.int .u8 0), .v (.int .u8 0), .v (.int .u8 0), .v (.int .u8 0), .v (.int .u8 0), .v (.int .u8 0), .v (.int .u8 0), .v (.int .u8 0), .v (.int .u8 0), .v (.int .u8 0), .v (.int .u8 0), .v (.int .u8 0), .v (.int .u8 0), .v (.int .u8 0), .v (.int .u8 0), .v (.int .u8 0), .v (.int .u8 0), .v (.int .u8 0), .v (.int .u8 0), .v (.int .u8 0), .v (.int .u8 0), .v (.int .u8 0), .v (.int .u8 0), .v (.int .u8 0), .v (.int .u8 0), .v (.int .u8 0), .v (.int .u8 0), .v (.int .u8 0), .v (.int .u8 0), .v (.int .u8 0), .v (.int .u8 0), .v (.int .u8 0), .v (.int .u8 0), .v (.int .u8 0), .v (.int .u8 0), .v (.int .u8 0), .v (.int .u8 0), .v (.int .u8 0), .v (.int .u8 0), .v (.int .u8 0), .v (.int .u8 0), .v (.int .u8 0), .v (.int .u8 0), .v (.int .u8 0), .v (.int .u8 0), .v (.int .u8 0), .v (.int .u8 0), .v (.int .u8 0), .v (.int .u8 0), .v (.int .u8 0), .v (.int .u8 0), .v (.int .u8 0), .v (.int .u8 0), .v (.int .u8 0), .v (.int .u8 0), .v (.int .u8 0), .v (.int .u8 0), .v (.int .u8 0), .v (.int .u8 0), .v (.int .u8 0), .v (.int .u8 0), .v (.int .u8 0), .v (.int .u8 0)]), (4, .nrow (.slice x.2.1 (x.1 : Nat) x.2.2) x.1 41 32 ((hsK s0 x.1).flatMap hdv))]) ((0, (none, 0))) (Nat.zero_le _) ⟨⟨rfl, rfl⟩, ⟨rfl, rfl⟩, ⟨rfl, rfl⟩, ⟨rfl, rfl⟩, ⟨rfl, rfl⟩, trivial⟩ ⟨.inr rfl, .inr rfl, .inr rfl, .inr rfl, trivial⟩ (fun x hI => ?_)
    obtain ⟨k, ⟨u0, u0c⟩⟩ := x
    have hI : k ≤ N := hI
    refine .seq ?_
    refine .region ?_
    refine .step rfl (.bin rfl rfl rfl rfl) ?_
    refine .nil ?_
    refine .next ?_
    refine .seq ?_
    refine .cond rfl (fun h3 => ?_) (fun h3 => ?_)
    ·skip
     have hk : k < N := by have q := of_decide_eq_true h3; (try dsimp only at q); omega
     refine .skip ?_
     refine .next ?_
     refine .seq ?_
     refine .block ?_
     refine .drawlast mixed [Ro.mk _ (Eff.mk (some (26, _)) []) [3], Ro.mk _ (Eff.mk (some (27, _)) []) [3], Ro.mk _ (Eff.mk (some (28, _)) []) [], Ro.mk _ (Eff.mk (some (29, _)) [(2, _)]) [2], Ro.mk _ (Eff.mk (some (30, _)) [(5, _)]) [5], Ro.mk _ (Eff.mk (some (31, _)) [(4, .dead), (6, _)]) [4, 5, 6], Ro.mk _ (Eff.mk (some (32, _)) []) [3]] _ rfl ⟨(fun _ _ => .fieldp rfl rfl rfl rfl fo81_0), (fun _ _ => .ldp rfl rfl rfl rfl rfl tk52), (fun _ _ => .move rfl rfl), (fun _ _ => .callm (o' := .box 166 (rdC (stK s0 (k + 1)).1 (stK s0 (k + 1)).2)) 2 rfl cf73 rfl rfl rfl rfl (by simp) rfl rfl (phash_s (stK s0 k) (Nat.le_trans (stK_le s0 k) hs0))), (fun _ _ => .buildsl (ds := hdv (rdH (stK s0 k))) 5 rfl rfl rfl ap52 zc41 rfl rfl rfl), (fun _ _ => .appendn (g := 4) 6 rfl rfl rfl (h_flat _ k (hsK_len _ _)) rfl ap52 rfl rfl (okA_len rfl rfl) (h_one _) (by (try dsimp only); omega) (by (try dsimp only); omega)), (fun _ _ => .fieldp rfl rfl rfl rfl fo81_0), trivial⟩ (by kernel_rfl) (by kernel_rfl) ?_
     refine .name 31 rfl rfl (fun u1 u1c => ?_)
     refine .step rfl (.store rfl rfl rfl sz52 rfl rfl) ?_
     refine .nil ?_
     refine TE.blk ?_
     refine .next ?_
     refine .region ?_
     refine .step rfl (.binv (.int .u64 ((k + 1 : Nat) : Int)) rfl rfl rfl rfl (congrArg _ (by (try dsimp only); rw [IntKind.wrap_u64]; omega))) ?_
     refine .step rfl (.move rfl rfl) ?_
     refine .nil ?_
     refine TE.setv 24 (.int .u64 ((k + 1 : Nat) : Int)) rfl (congrArg _ (by first | rfl | (dsimp only; first | done | rfl | omega))) ?_
     refine TE.obj 3 (.box 81 [.v (.slice u1 (k + 1 : Nat) u1c), .v (.int .i64 0), .v (.int .u8 0), .v (.int .u8 0), .v (.int .u8 0), .v (.int .u8 0), .v (.int .u8 0), .v (.int .u8 0), .v (.int .u8 0), .v (.int .u8 0), .v (.int .u8 0), .v (.int .u8 0), .v (.int .u8 0), .v (.int .u8 0), .v (.int .u8 0), .v (.int .u8 0), .v (.int .u8 0), .v (.int .u8 0), .v (.int .u8 0), .v (.int .u8 0), .v (.int .u8 0), .v (.int .u8 0), .v (.int .u8 0), .v (.int .u8 0), .v (.int .u8 0), .v (.int .u8 0), .v (.int .u8 0), .v (.int .u8 0), .v (.int .u8 0), .v (.int .u8 0), .v (.int .u8 0), .v (.int .u8 0), .v (.int .u8 0), .v (.int .u8 0), .v (.int .u8 0), .v (.int .u8 0), .v (.int .u8 0), .v (.int .u8 0), .v (.int .u8 0), .v (.int .u8 0), .v (.int .u8 0), .v (.int .u8 0), .v (.int .u8 0), .v (.int .u8 0), .v (.int .u8 0), .v (.int .u8 0), .v (.int .u8 0), .v (.int .u8 0), .v (.int .u8 0), .v (.int .u8 0), .v (.int .u8 0), .v (.int .u8 0), .v (.int .u8 0), .v (.int .u8 0), .v (.int .u8 0), .v (.int .u8 0), .v (.int .u8 0), .v (.int .u8 0), .v (.int .u8 0), .v (.int .u8 0), .v (.int .u8 0), .v (.int .u8 0), .v (.int .u8 0), .v (.int .u8 0), .v (.int .u8 0), .v (.int .u8 0)]) rfl rfl ?_
     refine TE.obj 2 (.box 166 (rdC (stK s0 (k + 1)).1 (stK s0 (k + 1)).2)) rfl rfl ?_
     refine TE.obj 6 (.nrow (.slice u1 (k + 1 : Nat) u1c) (k + 1) 41 32 ((hsK s0 (k + 1)).flatMap hdv)) rfl (by rw [hsK, List.flatMap_append]; rfl) ?_
     exact TE.round (swp 4 6) (swp_inj 4 6) ((k + 1, (u1, u1c))) (by show k + 1 ≤ N; omega) (by show N - (k + 1) < N - k; omega) ⟨⟨rfl, rfl⟩, ⟨rfl, rfl⟩, ⟨rfl, rfl⟩, ⟨rfl, rfl⟩, ⟨rfl, rfl⟩, trivial⟩ ⟨.inr rfl, .inr rfl, .inr rfl, .inr rfl, trivial⟩
    ·skip
     have hk : ¬ (k < N) := by have q := of_decide_eq_false h3; (try dsimp only at q); omega
     have e : k = N := by omega
     subst k
     refine .exit ?_
     refine TE.pass ?_
     refine TE.pass ?_
     refine TE.here ?_
     refine .next ?_
     refine .seq ?_
     refine .region ?_
     refine .step rfl (.move rfl rfl) ?_
     refine .step rfl (.callm (o' := .box 166 (rdC ((rdS (stK s0 N) 8)).1 ((rdS (stK s0 N) 8)).2)) 2 rfl cf66 rfl rfl rfl rfl (by simp) rfl rfl (num_s (stK s0 N) (Nat.le_trans (stK_le s0 N) hs0))) ?_
     refine .step rfl (.assign rfl rfl) ?_
     refine .nil ?_
     refine .next ?_
     refine .seq ?_
     refine .region ?_
     refine .step rfl (.move rfl rfl) ?_
     refine .step rfl (.callm (o' := .box 166 (rdC ((rdS (rdS (stK s0 N) 8) 32)).1 ((rdS (rdS (stK s0 N) 8) 32)).2)) 2 rfl cf73 rfl rfl rfl rfl (by simp) rfl rfl (phash_s (rdS (stK s0 N) 8) (Nat.le_trans (rdS_le (stK s0 N) 8) (Nat.le_trans (stK_le s0 N) hs0)))) ?_
     refine .step rfl (.move rfl rfl) ?_
     refine .step rfl (.callm (o' := .box 166 (rdC ((rdS (rdS (rdS (stK s0 N) 8) 32) 32)).1 ((rdS (rdS (rdS (stK s0 N) 8) 32) 32)).2)) 2 rfl cf73 rfl rfl rfl rfl (by simp) rfl rfl (phash_s (rdS (rdS (stK s0 N) 8) 32) (Nat.le_trans (rdS_le (rdS (stK s0 N) 8) 32) (Nat.le_trans (rdS_le (stK s0 N) 8) (Nat.le_trans (stK_le s0 N) hs0))))) ?_
     refine .step rfl (.build (ds := It.dv ⟨rdH (rdS (stK s0 N) 8), rdH (rdS (rdS (stK s0 N) 8) 32)⟩) rfl rfl sp79 rfl rfl) ?_
     refine .step rfl (.fieldp rfl rfl rfl rfl fo81_2) ?_
     refine .step rfl (.store rfl rfl rfl sz79 rfl rfl) ?_
     refine .nil ?_
     refine TE.obj 3 (.box 81 (.v (.slice u0 (N : Nat) u0c) :: .v (.int .i64 0) :: It.dv ⟨rdH (rdS (stK s0 N) 8), rdH (rdS (rdS (stK s0 N) 8) 32)⟩)) rfl rfl ?_
     refine .next ?_
     refine .seq ?_
     refine .block ?_
     refine .seq ?_
     refine .region ?_
     refine .step rfl (.move rfl rfl) ?_
     refine .step rfl (.callm (o' := .box 166 (rdC ((rdS (rdS (rdS (stK s0 N) 8) 32) 32)).1 ((rdS (rdS (rdS (stK s0 N) 8) 32) 32)).2)) 2 rfl cf67 rfl rfl rfl rfl (by simp) rfl rfl (err_s ((rdS (rdS (rdS (stK s0 N) 8) 32) 32)))) ?_
     refine .step rfl (.bin rfl rfl rfl rfl) ?_
     refine .step rfl (.assign rfl rfl) ?_
     refine .nil ?_
     refine .next ?_
     refine .cond rfl (fun h4 => ?_) (fun h4 => ?_)
     ·skip
      have hx2 : ¬ (tlS s0 N).2 = 0 := by unfold tlS; simpa using h4
      refine .seq ?_
      refine .region ?_
      refine .step rfl (.build (ds := zcell) rfl rfl sp81 rfl rfl) ?_
      refine .step rfl (.move rfl rfl) ?_
      refine .step rfl (.callm (o' := .box 166 (rdC ((rdS (rdS (rdS (stK s0 N) 8) 32) 32)).1 ((rdS (rdS (rdS (stK s0 N) 8) 32) 32)).2)) 2 rfl cf67 rfl rfl rfl rfl (by simp) rfl rfl (err_s ((rdS (rdS (rdS (stK s0 N) 8) 32) 32)))) ?_
      refine .step rfl (.store rfl rfl rfl sz81 rfl rfl) ?_
      refine .step rfl (.assign rfl rfl) ?_
      refine .nil ?_
      refine .next ?_
      refine .ret ?_
      refine TE.obj 1 (.box 81 zcell) rfl rfl ?_
      refine TE.objsub 1 (Pf.dv zeroP) rfl rfl rfl zeroP_sub ?_
      rw [hrd, readE_bad hx2]
      exact TE.rettc rfl rfl rfl
     ·skip
      have hx2 : (tlS s0 N).2 = 0 := by unfold tlS; simpa using h4
      refine .seq ?_
      refine .region ?_
      refine .step rfl (.move rfl rfl) ?_
      refine .step rfl (.bin rfl rfl rfl rfl) ?_
      refine .step rfl (.move rfl rfl) ?_
      refine .case 52 rfl (fun h5 => ?_) (fun h5 => ?_)
      ·skip
       have hq : 2 < rdN (stK s0 N) ∨ 0 < (tlS s0 N).1.length := .inl (of_decide_eq_true h5)
       refine .no 52 rfl rfl rfl rfl rfl rfl rfl ?_
       refine .no 52 rfl rfl rfl rfl rfl rfl rfl ?_
       refine .no 52 rfl rfl rfl rfl rfl rfl rfl ?_
       refine .step rfl (.pick rfl rfl rfl) ?_
       refine .step rfl (.assign rfl rfl) ?_
       refine .nil ?_
       refine .next ?_
       refine .cond rfl (fun h6 => ?_) (fun h6 => absurd h6 (by decide))
       refine .seq ?_
       refine .region ?_
       refine .step rfl (.build (ds := zcell) rfl rfl sp81 rfl rfl) ?_
       refine .step rfl (.store rfl rfl rfl sz81 rfl rfl) ?_
       refine .step rfl (.assign rfl rfl) ?_
       refine .nil ?_
       refine .next ?_
       refine .ret ?_
       refine TE.obj 1 (.box 81 zcell) rfl rfl ?_
       refine TE.objsub 1 (Pf.dv zeroP) rfl rfl rfl zeroP_sub ?_
       rw [hrd, readE_form hx2 hq]
       exact TE.rettc rfl rfl rfl
      ·skip
       have hq1 : ¬ 2 < rdN (stK s0 N) := of_decide_eq_false h5
       refine .go 52 rfl rfl rfl rfl (.move rfl rfl) ?_
       refine .go 52 rfl rfl rfl rfl (.callm (o' := .box 166 (rdC ((rdS (rdS (rdS (stK s0 N) 8) 32) 32)).1 ((rdS (rdS (rdS (stK s0 N) 8) 32) 32)).2)) 2 rfl cf68 rfl rfl rfl rfl (by simp) rfl rfl (left_s (rdS (rdS (rdS (stK s0 N) 8) 32) 32))) ?_
       refine .go 52 rfl rfl rfl rfl (.bin rfl rfl rfl rfl) ?_
       refine .step rfl (.pick rfl rfl rfl) ?_
       refine .step rfl (.assign rfl rfl) ?_
       refine .nil ?_
       refine .next ?_
       refine .cond rfl (fun h7 => ?_) (fun h7 => ?_)
       ·skip
        have hq : 2 < rdN (stK s0 N) ∨ 0 < (tlS s0 N).1.length := .inr (by have q := of_decide_eq_true h7; (try dsimp only at q); exact Int.ofNat_lt.1 q)
        refine .seq ?_
        refine .region ?_
        refine .step rfl (.build (ds := zcell) rfl rfl sp81 rfl rfl) ?_
        refine .step rfl (.store rfl rfl rfl sz81 rfl rfl) ?_
        refine .step rfl (.assign rfl rfl) ?_
        refine .nil ?_
        refine .next ?_
        refine .ret ?_
        refine TE.obj 1 (.box 81 zcell) rfl rfl ?_
        refine TE.objsub 1 (Pf.dv zeroP) rfl rfl rfl zeroP_sub ?_
        rw [hrd, readE_form hx2 hq]
        exact TE.rettc rfl rfl rfl
       ·skip
        have hq2 : ¬ 0 < (tlS s0 N).1.length := by have q := of_decide_eq_false h7; (try dsimp only at q); exact fun z => q (Int.ofNat_lt.2 z)
        have hbd := rdN_bd (stK s0 N)
        refine .skip ?_
        refine TE.blk ?_
        refine .next ?_
        refine .seq ?_
        refine .region ?_
        refine .step rfl (.move rfl rfl) ?_
        refine .step rfl (.conviv (rdN (stK s0 N)) rfl rfl uk24 uk3 (by rw [IntKind.wrap_i64]; omega)) ?_
        refine .step rfl (.fieldp rfl rfl rfl rfl fo81_1) ?_
        refine .step rfl (.store rfl rfl rfl sz3 rfl rfl) ?_
        refine .nil ?_
        refine TE.obj 3 (.box 81 (.v (.slice u0 (N : Nat) u0c) :: .v (.int .i64 (rdN (stK s0 N))) :: It.dv ⟨rdH (rdS (stK s0 N) 8), rdH (rdS (rdS (stK s0 N) 8) 32)⟩)) rfl rfl ?_
        refine .next ?_
        refine .seq ?_
        refine TC.map (fun a w h => reps_cellf 3 0 4 rfl rfl rfl (h_flat _ N (hsK_len _ _)) h) ?_
        refine TC.obj 3 (.box 81 (Pf.dv ⟨hsK s0 N, rdN (stK s0 N), ⟨rdH (rdS (stK s0 N) 8), rdH (rdS (rdS (stK s0 N) 8) 32)⟩⟩)) rfl (by unfold Pf.dv slT; rw [hsK_len]; rfl) ?_
        refine .region ?_
        refine .step rfl (.ldpm (ds := Pf.dv ⟨hsK s0 N, rdN (stK s0 N), ⟨rdH (rdS (stK s0 N) 8), rdH (rdS (rdS (stK s0 N) 8) 32)⟩⟩) rfl rfl rfl rfl rfl rfl tk81) ?_
        refine .step rfl (.store rfl rfl rfl sz81 rfl rfl) ?_
        refine .step rfl (.assign rfl rfl) ?_
        refine .nil ?_
        refine .next ?_
        refine .ret ?_
        rw [hrd, readE_ok hx2 hq1 hq2]
        exact TE.rettc rfl rfl rfl
end Go.Proofs.YtdjcclcejmeheaaGreat

