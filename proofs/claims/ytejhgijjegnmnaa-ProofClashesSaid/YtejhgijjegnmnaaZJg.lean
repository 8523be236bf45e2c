/-
  Readers.
-/
import Derived.Test.YtejhgijjegnmnaaZJf
import Derived.Test.YtejhgijjegnmnaaZFg
namespace Go.Proofs.Ytejhgijjegnmnaa
set_option linter.unusedVariables false
set_option linter.unusedSimpArgs false
open Go.RowKit Pl
theorem cf79 : cfn Try.prog 79 = true := by kernel_rfl
theorem cf82 : cfn Try.prog 82 = true := by kernel_rfl
theorem cf83 : cfn Try.prog 83 = true := by kernel_rfl
theorem cf84 : cfn Try.prog 84 = true := by kernel_rfl
theorem cf95 : cfn Try.prog 95 = true := by kernel_rfl
theorem cf96 : cfn Try.prog 96 = true := by kernel_rfl
theorem et44 : elt Try.prog 44 = some (5, 1) := by kernel_rfl
theorem fo115_0 : fo Try.prog 115 0 = some 0 := by kernel_rfl
theorem fo115_1 : fo Try.prog 115 1 = some 1 := by kernel_rfl
theorem fo89_0 : fo Try.prog 89 0 = some 0 := by kernel_rfl
theorem fo89_1 : fo Try.prog 89 1 = some 1 := by kernel_rfl
theorem is44 : isSl Try.prog 44 = some true := by kernel_rfl
theorem sp115 : stp Try.prog 115 = some ([.slice none 0 0, .int .i64 0], [(0, 1), (1, 1)]) := by kernel_rfl
theorem sz49 : szt Try.prog 49 = some 1 := by kernel_rfl
theorem tk49 : tyk Try.prog 49 = some none := by kernel_rfl
set_option maxRecDepth 100000 in
set_option maxHeartbeats 1600000 in
theorem fail_pm (l : List UInt8) (x y : Int) : PM Try.prog 95 [.ptr 0 0, .d (.v (.int .i64 y))] (.mbox 0 115 (rdC (l) (x))) (.mbox 0 115 (rdC ([]) (y))) (.d (.tp [])) := by
  refine PM.enter (fn := Try.f95) Try.func95 rfl Try.ntmps95 rfl rfl rfl (fun w0 K0 ob => ?_)
  refine .region ?_
  refine .step rfl (.move rfl rfl) ?_
  refine .step rfl (.move rfl rfl) ?_
  refine .step rfl (.move rfl rfl) ?_
  refine .step rfl (.nilp rfl rfl rfl rfl) ?_
  refine .step rfl (.fieldp rfl rfl rfl rfl fo115_0) ?_
  refine .step rfl (.storem rfl rfl rfl sz44 rfl rfl) ?_
  refine .step rfl (.nilp rfl rfl rfl rfl) ?_
  refine .step rfl (.fieldp rfl rfl rfl rfl fo115_1) ?_
  refine .step rfl (.storem rfl rfl rfl sz49 rfl rfl) ?_
  refine .nil ?_
  refine TE.obj 0 (.mbox 0 115 [.v (.slice none 0 0), .v (.int .i64 y)]) rfl rfl ?_
  refine TE.objsub 0 (rdC [] y) rfl rfl rfl (rdC_sub _) ?_
  exact TE.retm0 0 rfl rfl rfl
set_option maxRecDepth 100000 in
set_option maxHeartbeats 1600000 in
theorem raw_pm (l : List UInt8) (x : Int) (n : Nat) (hl : l.length ≤ 1099511627776) : PM Try.prog 83 [.ptr 0 0, .d (.v (.int .i64 ((n : Nat) : Int)))] (.mbox 0 115 (rdC (l) (x))) (.mbox 0 115 (rdC (rawRest l x n) (rawErr l x n))) (.d (slT bdv 1 (rawOut l x n))) := by
  refine PM.enter (fn := Try.f83) Try.func83 rfl Try.ntmps83 rfl rfl rfl (fun w0 K0 ob => ?_)
  refine .seq ?_
  refine .region ?_
  refine .step rfl (.assign rfl rfl) ?_
  refine .nil ?_
  refine .next ?_
  refine .seq ?_
  refine .region ?_
  refine .step rfl (.move rfl rfl) ?_
  refine .step rfl (.max2 rfl rfl rfl) ?_
  refine .step rfl (.assign rfl rfl) ?_
  refine .nil ?_
  refine TE.setv 1 (.int .i64 ((n : Nat) : Int)) rfl (congrArg _ (Int.max_eq_left (Int.natCast_nonneg n))) ?_
  refine .next ?_
  refine .seq ?_
  refine .block ?_
  refine .seq ?_
  refine .region ?_
  refine .step rfl (.move rfl rfl) ?_
  refine .step rfl (.nilp rfl rfl rfl rfl) ?_
  refine .step rfl (.fieldp rfl rfl rfl rfl fo115_1) ?_
  refine .step rfl (.ldp rfl rfl rfl rfl rfl tk49) ?_
  refine .step rfl (.bin rfl rfl rfl rfl) ?_
  refine .step rfl (.assign rfl rfl) ?_
  refine .nil ?_
  refine .next ?_
  refine .cond rfl (fun h1 => ?_) (fun h1 => ?_)
  ·skip
   have hx : ¬ x = 0 := by simpa using h1
   refine .seq ?_
   refine .region ?_
   refine .step rfl (.assign rfl rfl) ?_
   refine .nil ?_
   refine .next ?_
   refine .ret ?_
   obtain ⟨e1, e2, e3⟩ := rd_bad (l := l) n hx
   rw [e1, e2, e3]
   refine TE.sub 4 (slT bdv 1 []) rfl rfl (nil_sub _ _) ?_
   exact TE.retm 0 rfl rfl rfl rfl rfl
  ·skip
   have hx : x = 0 := by simpa using h1
   refine .seq ?_
   refine .region ?_
   refine .step rfl (.move rfl rfl) ?_
   refine .step rfl (.move rfl rfl) ?_
   refine .step rfl (.nilp rfl rfl rfl rfl) ?_
   refine .step rfl (.fieldp rfl rfl rfl rfl fo115_0) ?_
   refine .step rfl (.ldp rfl rfl rfl rfl rfl tk44) ?_
   refine .step rfl (.len rfl rfl ⟨_, _, rfl⟩ is44) ?_
   refine .step rfl (.bin rfl rfl rfl rfl) ?_
   refine .step rfl (.assign rfl rfl) ?_
   refine .nil ?_
   refine .next ?_
   refine .cond rfl (fun h2 => ?_) (fun h2 => ?_)
   ·skip
    have hn : ¬ n ≤ l.length := by have q := of_decide_eq_true h2; (try dsimp only at q); omega
    refine .seq ?_
    refine .region ?_
    refine .step rfl (.move rfl rfl) ?_
    refine .step rfl (.callm (o' := .mbox 0 115 (rdC ([]) (21))) 0 rfl cf95 rfl rfl rfl rfl (by simp) rfl rfl (fail_pm l x 21)) ?_
    refine .nil ?_
    refine .next ?_
    refine .seq ?_
    refine .region ?_
    refine .step rfl (.assign rfl rfl) ?_
    refine .nil ?_
    refine .next ?_
    refine .ret ?_
    obtain ⟨e1, e2, e3⟩ := rd_short (l := l) hx hn
    rw [e1, e2, e3]
    refine TE.sub 4 (slT bdv 1 []) rfl rfl (nil_sub _ _) ?_
    exact TE.retm 0 rfl rfl rfl rfl rfl
   ·skip
    have hn : n ≤ l.length := by have q := of_decide_eq_false h2; (try dsimp only at q); omega
    refine .skip ?_
    refine TE.blk ?_
    refine .next ?_
    refine .seq ?_
    refine .region ?_
    refine .step rfl (.move rfl rfl) ?_
    refine .step rfl (.nilp rfl rfl rfl rfl) ?_
    refine .step rfl (.fieldp rfl rfl rfl rfl fo115_0) ?_
    refine .step rfl (.ldp rfl rfl rfl rfl rfl tk44) ?_
    refine .step rfl (.move rfl rfl) ?_
    refine .step rfl (.slice rfl rfl rfl rfl rfl et44 (fun _ => rfl) (by omega) (by omega) (by omega)) ?_
    refine .step rfl (.callf rfl cf82 rfl ⟨trivial, trivial⟩ (clone8_pf _ (by simp only [List.length_drop, List.length_take]; omega))) ?_
    refine .step rfl (.assign rfl rfl) ?_
    refine .nil ?_
    refine TE.set 5 (.f (slT bdv 1 (l.take n))) rfl (by simp only [Int.toNat_natCast, Int.toNat_zero, List.drop_zero]; try rfl) ?_
    refine .next ?_
    refine .seq ?_
    refine .region ?_
    refine .step rfl (.move rfl rfl) ?_
    refine .step rfl (.move rfl rfl) ?_
    refine .step rfl (.nilp rfl rfl rfl rfl) ?_
    refine .step rfl (.fieldp rfl rfl rfl rfl fo115_0) ?_
    refine .step rfl (.ldp rfl rfl rfl rfl rfl tk44) ?_
    refine .step rfl (.move rfl rfl) ?_
    refine .step rfl (.slice rfl rfl rfl rfl rfl et44 (fun _ => rfl) (by omega) (by omega) (by omega)) ?_
    refine .step rfl (.nilp rfl rfl rfl rfl) ?_
    refine .step rfl (.fieldp rfl rfl rfl rfl fo115_0) ?_
    refine .step rfl (.storem rfl rfl rfl sz44 rfl rfl) ?_
    refine .nil ?_
    refine TE.obj 0 (.mbox 0 115 (rdC (l.drop n) (x))) rfl (by simp only [Int.toNat_natCast, List.take_length]; rfl) ?_
    refine .next ?_
    refine .seq ?_
    refine .region ?_
    refine .step rfl (.move rfl rfl) ?_
    refine .step rfl (.assign rfl rfl) ?_
    refine .nil ?_
    refine .next ?_
    refine .ret ?_
    obtain ⟨e1, e2, e3⟩ := rd_ok (l := l) hx hn
    rw [e1, e2, e3]
    exact TE.retm 0 rfl rfl rfl rfl rfl
set_option maxRecDepth 100000 in
set_option maxHeartbeats 1600000 in
theorem num_pm (l : List UInt8) (x : Int) (hl : l.length ≤ 1099511627776) : PM Try.prog 47 [.ptr 0 0] (.mbox 0 115 (rdC (l) (x))) (.mbox 0 115 (rdC (rawRest l x 8) (rawErr l x 8))) (.d (.v (.int .u64 (leNum (rawOut l x 8))))) := by
  have hq := rawOut_le l x 8
  refine PM.enter (fn := Try.f47) Try.func47 rfl Try.ntmps47 rfl rfl rfl (fun w0 K0 ob => ?_)
  refine .seq ?_
  refine .region ?_
  refine .step rfl (.assign rfl rfl) ?_
  refine .nil ?_
  refine .next ?_
  refine .seq ?_
  refine .region ?_
  refine .step rfl (.assign rfl rfl) ?_
  refine .nil ?_
  refine .next ?_
  refine .seq ?_
  refine .seq ?_
  refine .region ?_
  refine .step rfl (.move rfl rfl) ?_
  refine .step rfl (.callm (o' := .mbox 0 115 (rdC (rawRest l x 8) (rawErr l x 8))) 0 rfl cf83 rfl rfl rfl rfl (by simp) rfl rfl (raw_pm l x 8 hl)) ?_
  refine .step rfl (.len rfl rfl ⟨_, _, rfl⟩ is44) ?_
  refine .step rfl (.move rfl rfl) ?_
  refine .nil ?_
  generalize rawOut l x 8 = q at hq ⊢
  refine TE.setv 9 (.int .i64 ((0 : Nat) : Int)) rfl (congrArg _ (by first | rfl | (dsimp only; first | done | rfl | omega))) ?_
  refine TE.setv 8 (.int .i64 ((q.length : Nat) : Int)) rfl rfl ?_
  refine TE.setv 3 (.int .u64 (leNum (q.take 0))) rfl rfl ?_
  refine .next ?_
  refine .block ?_
  refine TC.loop (S := Nat) (fun i => i ≤ q.length) (fun i => q.length - i) (fun i => [(0, .ptr 0 0), (3, .d (.v (.int .u64 (leNum (q.take i))))), (7, .d (slT bdv 1 q)), (8, .d (.v (.int .i64 ((q.length : Nat) : Int)))), (9, .d (.v (.int .i64 ((i : Nat) : Int))))]) (fun i => [(0, .mbox 0 115 (rdC (rawRest l x 8) (rawErr l x 8)))]) (0) (Nat.zero_le _) ⟨⟨rfl, rfl⟩, ⟨rfl, rfl⟩, ⟨rfl, rfl⟩, ⟨rfl, rfl⟩, ⟨rfl, rfl⟩, trivial⟩ ⟨.inr rfl, trivial⟩ (fun i hI => ?_)
  refine .seq ?_
  refine .region ?_
  refine .step rfl (.bin rfl rfl rfl rfl) ?_
  refine .nil ?_
  refine .next ?_
  refine .seq ?_
  refine .cond rfl (fun h1 => ?_) (fun h1 => ?_)
  ·skip
   have hi : i < q.length := by have q := of_decide_eq_true h1; (try dsimp only at q); omega
   refine .skip ?_
   refine .next ?_
   refine .seq ?_
   refine .block ?_
   refine .seq ?_
   refine .region ?_
   refine .step rfl (.move rfl rfl) ?_
   refine .step rfl (.idx (q[i]) rfl rfl rfl rfl et44 (fun _ => rfl) (Int.natCast_nonneg _) (get_nat hi)) ?_
   refine .step rfl (.lde rfl rfl rfl rfl tk5) ?_
   refine .step rfl (.assign rfl rfl) ?_
   refine .step rfl (.assign rfl rfl) ?_
   refine .nil ?_
   refine .next ?_
   refine .region ?_
   refine .step rfl (.move rfl rfl) ?_
   refine .step rfl (.move rfl rfl) ?_
   refine .step rfl (.conviv (IntKind.u64.wrap (q[i].toNat : Int)) rfl rfl uk5 uk47 (rfl)) ?_
   refine .step rfl (.move rfl rfl) ?_
   refine .step rfl (.binv (.int .i64 ((8 * i : Nat) : Int)) rfl rfl rfl rfl (congrArg _ (by (try dsimp only); rw [IntKind.wrap_i64]; omega))) ?_
   refine .step rfl (.shl (IntKind.u64.wrap (IntKind.u64.wrap (q[i].toNat : Int) * 2 ^ (8 * i))) rfl rfl rfl (Int.natCast_nonneg _) (congrArg (fun e => IntKind.u64.wrap (_ * 2 ^ e)) (Nat.min_eq_left (by show 8 * i ≤ 64; omega)))) ?_
   refine .step rfl (.bits (leNum (q.take (i + 1))) rfl rfl rfl rfl (or_next hi hq)) ?_
   refine .step rfl (.assign rfl rfl) ?_
   refine .nil ?_
   refine TE.setv 3 (.int .u64 (leNum (q.take (i + 1)))) rfl rfl ?_
   refine TE.blk ?_
   refine .next ?_
   refine .region ?_
   refine .step rfl (.binv (.int .i64 ((i + 1 : Nat) : Int)) rfl rfl rfl rfl (congrArg _ (by (try dsimp only); rw [IntKind.wrap_i64]; omega))) ?_
   refine .step rfl (.move rfl rfl) ?_
   refine .nil ?_
   refine TE.setv 9 (.int .i64 ((i + 1 : Nat) : Int)) rfl (congrArg _ (by first | rfl | (dsimp only; first | done | rfl | omega))) ?_
   exact TE.round id (fun _ _ e => e) (i + 1) (by omega) (by omega) ⟨⟨rfl, rfl⟩, ⟨rfl, rfl⟩, ⟨rfl, rfl⟩, ⟨rfl, rfl⟩, ⟨rfl, rfl⟩, trivial⟩ ⟨.inr rfl, trivial⟩
  ·skip
   have hi : ¬ (i < q.length) := by have q := of_decide_eq_false h1; (try dsimp only at q); omega
   have e : i = q.length := by have : i ≤ q.length := hI; omega
   subst e
   rw [List.take_length]
   refine .exit ?_
   refine TE.pass ?_
   refine TE.pass ?_
   refine TE.here ?_
   refine .next ?_
   refine .seq ?_
   refine .region ?_
   refine .step rfl (.move rfl rfl) ?_
   refine .step rfl (.assign rfl rfl) ?_
   refine .nil ?_
   refine .next ?_
   refine .ret ?_
   exact TE.retm 0 rfl rfl rfl rfl rfl
set_option maxRecDepth 100000 in
set_option maxHeartbeats 1600000 in
theorem err_pm (l : List UInt8) (x : Int) : PM Try.prog 48 [.ptr 0 0] (.mbox 0 115 (rdC (l) (x))) (.mbox 0 115 (rdC (l) (x))) (.d (.v (.int .i64 x))) := by
  refine PM.enter (fn := Try.f48) Try.func48 rfl Try.ntmps48 rfl rfl rfl (fun w0 K0 ob => ?_)
  refine .seq ?_
  refine .region ?_
  refine .step rfl (.assign rfl rfl) ?_
  refine .nil ?_
  refine .next ?_
  refine .seq ?_
  refine .region ?_
  refine .step rfl (.move rfl rfl) ?_
  refine .step rfl (.nilp rfl rfl rfl rfl) ?_
  refine .step rfl (.fieldp rfl rfl rfl rfl fo115_1) ?_
  refine .step rfl (.ldp rfl rfl rfl rfl rfl tk49) ?_
  refine .step rfl (.assign rfl rfl) ?_
  refine .nil ?_
  refine .next ?_
  refine .ret ?_
  exact TE.retm 0 rfl rfl rfl rfl rfl
set_option maxRecDepth 100000 in
set_option maxHeartbeats 1600000 in
theorem left_pm (l : List UInt8) (x : Int) : PM Try.prog 50 [.ptr 0 0] (.mbox 0 115 (rdC (l) (x))) (.mbox 0 115 (rdC (l) (x))) (.d (.v (.int .i64 ((l.length : Nat) : Int)))) := by
  refine PM.enter (fn := Try.f50) Try.func50 rfl Try.ntmps50 rfl rfl rfl (fun w0 K0 ob => ?_)
  refine .seq ?_
  refine .region ?_
  refine .step rfl (.assign rfl rfl) ?_
  refine .nil ?_
  refine .next ?_
  refine .seq ?_
  refine .region ?_
  refine .step rfl (.move rfl rfl) ?_
  refine .step rfl (.nilp rfl rfl rfl rfl) ?_
  refine .step rfl (.fieldp rfl rfl rfl rfl fo115_0) ?_
  refine .step rfl (.ldp rfl rfl rfl rfl rfl tk44) ?_
  refine .step rfl (.len rfl rfl ⟨_, _, rfl⟩ is44) ?_
  refine .step rfl (.assign rfl rfl) ?_
  refine .nil ?_
  refine .next ?_
  refine .ret ?_
  exact TE.retm 0 rfl rfl rfl rfl rfl
set_option maxRecDepth 100000 in
set_option maxHeartbeats 1600000 in
theorem new_pb (l : List UInt8) (hl : l.length ≤ 1099511627776) : PB Try.prog 46 [slT bdv 1 l] 115 (rdC l 0) := by
  refine PB.enter (fn := Try.f46) Try.func46 rfl Try.ntmps46 rfl (fun w0 => ?_)
  refine .seq ?_
  refine .region ?_
  refine .step rfl (.assign rfl rfl) ?_
  refine .nil ?_
  refine .next ?_
  refine .seq ?_
  refine .region ?_
  refine .step rfl (.move rfl rfl) ?_
  refine .step rfl (.callo 1 rfl rfl cf82 rfl ⟨trivial, trivial⟩ (clone8_po l hl)) ?_
  refine .name 4 rfl rfl (fun u uc => ?_)
  refine .step rfl (.build rfl rfl sp115 rfl rfl) ?_
  refine .step rfl (.box 2 rfl rfl rfl rfl) ?_
  refine .step rfl (.assign rfl rfl) ?_
  refine .nil ?_
  refine TE.obj 2 (.box 115 [.v (.slice u (l.length : Nat) uc), .v (.int .i64 0)]) rfl rfl ?_
  refine .next ?_
  refine .ret ?_
  exact TE.retb (off := 0) (gR := 1) (g := 2) rfl rfl rfl rfl rfl (by rw [flat_length (sz := 1) (fun _ => rfl)]) (fun X h => by simp at h; rcases h with rfl | rfl <;> exact pl_v _) (pl_flat (fun b Y hY => by simp [bdv] at hY; subst hY; exact pl_v _) _) rfl
set_option maxRecDepth 100000 in
set_option maxHeartbeats 1600000 in
theorem hash_pm (l : List UInt8) (x : Int) (hl : l.length ≤ 1099511627776) : PM Try.prog 49 [.ptr 0 0] (.mbox 0 115 (rdC (l) (x))) (.mbox 0 115 (rdC (rawRest l x 32) (rawErr l x 32))) (.d (.ag (hdv (ofL (rawOut l x 32))))) := by
  have hq := rawOut_le l x 32
  refine PM.enter (fn := Try.f49) Try.func49 rfl Try.ntmps49 rfl rfl rfl (fun w0 K0 ob => ?_)
  refine .seq ?_
  refine .region ?_
  refine .step rfl (.alloc 1 rfl rfl zc25 rfl) ?_
  refine .nil ?_
  refine .next ?_
  refine .seq ?_
  refine .region ?_
  refine .step rfl (.alloc 2 rfl rfl zc25 rfl) ?_
  refine .nil ?_
  refine TE.obj 1 (.box 25 (hdv zeroH)) rfl rfl ?_
  refine TE.obj 2 (.box 25 (hdv zeroH)) rfl rfl ?_
  refine .next ?_
  refine .seq ?_
  refine .draw mixed [Ro.mk _ (Eff.mk (some (4, _)) []) [2], Ro.mk _ (Eff.mk (some (5, _)) []) [], Ro.mk _ (Eff.mk (some (6, _)) [(0, _)]) [0], Ro.mk _ (Eff.mk (some (7, _)) [(2, _)]) [2]] rfl ⟨(fun _ _ => .slicep rfl rfl rfl rfl ar25 rfl rfl (by decide) (by decide) (by decide) (by decide) (Nat.le_of_ble_eq_true rfl) (by decide)), (fun _ _ => .move rfl rfl), (fun _ _ => .callm (o' := .mbox 0 115 (rdC (rawRest l x 32) (rawErr l x 32))) 0 rfl cf83 rfl rfl rfl rfl (by simp) rfl rfl (raw_pm l x 32 hl)), (fun _ _ => .copyb rfl rfl rfl rfl rfl rfl trivial et44 (Nat.min_eq_left hq) (by show 0 + (rawOut l x 32).length * 1 ≤ 32; omega)), trivial⟩ (by kernel_rfl) ?_
  refine TE.obj 2 (.box 25 (hdv (ofL (rawOut l x 32)))) rfl (congrArg (AO.box _) (ofL_copy rfl hq)) ?_
  refine .next ?_
  refine .seq ?_
  refine .region ?_
  refine .step rfl (.ldpm (ds := hdv (ofL (rawOut l x 32))) rfl rfl rfl rfl rfl rfl tk25) ?_
  refine .step rfl (.store rfl rfl rfl sz25 rfl rfl) ?_
  refine .nil ?_
  refine .next ?_
  refine .ret ?_
  exact TE.retm 0 rfl rfl rfl rfl rfl
set_option maxRecDepth 100000 in
set_option maxHeartbeats 1600000 in
theorem rfail_pm (l : List UInt8) (x y : Int) : PM Try.prog 96 [.ptr 0 0, .d (.v (.int .i64 y))] (.mbox 0 89 (rdC (l) (x))) (.mbox 0 89 (rdC ([]) (y))) (.d (.tp [])) := by
  refine PM.enter (fn := Try.f96) Try.func96 rfl Try.ntmps96 rfl rfl rfl (fun w0 K0 ob => ?_)
  refine .region ?_
  refine .step rfl (.move rfl rfl) ?_
  refine .step rfl (.move rfl rfl) ?_
  refine .step rfl (.move rfl rfl) ?_
  refine .step rfl (.nilp rfl rfl rfl rfl) ?_
  refine .step rfl (.fieldp rfl rfl rfl rfl fo89_0) ?_
  refine .step rfl (.storem rfl rfl rfl sz44 rfl rfl) ?_
  refine .step rfl (.nilp rfl rfl rfl rfl) ?_
  refine .step rfl (.fieldp rfl rfl rfl rfl fo89_1) ?_
  refine .step rfl (.storem rfl rfl rfl sz3 rfl rfl) ?_
  refine .nil ?_
  refine TE.obj 0 (.mbox 0 89 [.v (.slice none 0 0), .v (.int .i64 y)]) rfl rfl ?_
  refine TE.objsub 0 (rdC [] y) rfl rfl rfl (rdC_sub _) ?_
  exact TE.retm0 0 rfl rfl rfl
set_option maxRecDepth 100000 in
set_option maxHeartbeats 1600000 in
theorem rraw_pm (l : List UInt8) (x : Int) (n : Nat) (hl : l.length ≤ 1099511627776) : PM Try.prog 84 [.ptr 0 0, .d (.v (.int .i64 ((n : Nat) : Int)))] (.mbox 0 89 (rdC (l) (x))) (.mbox 0 89 (rdC (rawRest l x n) (rawErr l x n))) (.d (slT bdv 1 (rawOut l x n))) := by
  refine PM.enter (fn := Try.f84) Try.func84 rfl Try.ntmps84 rfl rfl rfl (fun w0 K0 ob => ?_)
  refine .seq ?_
  refine .region ?_
  refine .step rfl (.assign rfl rfl) ?_
  refine .nil ?_
  refine .next ?_
  refine .seq ?_
  refine .region ?_
  refine .step rfl (.move rfl rfl) ?_
  refine .step rfl (.max2 rfl rfl rfl) ?_
  refine .step rfl (.assign rfl rfl) ?_
  refine .nil ?_
  refine TE.setv 1 (.int .i64 ((n : Nat) : Int)) rfl (congrArg _ (Int.max_eq_left (Int.natCast_nonneg n))) ?_
  refine .next ?_
  refine .seq ?_
  refine .seq ?_
  refine .region ?_
  refine .step rfl (.move rfl rfl) ?_
  refine .step rfl (.nilp rfl rfl rfl rfl) ?_
  refine .step rfl (.fieldp rfl rfl rfl rfl fo89_1) ?_
  refine .step rfl (.ldp rfl rfl rfl rfl rfl tk3) ?_
  refine .step rfl (.bin rfl rfl rfl rfl) ?_
  refine .nil ?_
  refine .next ?_
  refine .cond rfl (fun h1 => ?_) (fun h1 => ?_)
  ·skip
   have hx : ¬ x = 0 := by simpa using h1
   refine .seq ?_
   refine .region ?_
   refine .step rfl (.assign rfl rfl) ?_
   refine .nil ?_
   refine .next ?_
   refine .ret ?_
   obtain ⟨e1, e2, e3⟩ := rd_bad (l := l) n hx
   rw [e1, e2, e3]
   refine TE.sub 4 (slT bdv 1 []) rfl rfl (nil_sub _ _) ?_
   exact TE.retm 0 rfl rfl rfl rfl rfl
  ·skip
   have hx : x = 0 := by simpa using h1
   refine .skip ?_
   refine .next ?_
   refine .seq ?_
   refine .seq ?_
   refine .region ?_
   refine .step rfl (.move rfl rfl) ?_
   refine .step rfl (.move rfl rfl) ?_
   refine .step rfl (.nilp rfl rfl rfl rfl) ?_
   refine .step rfl (.fieldp rfl rfl rfl rfl fo89_0) ?_
   refine .step rfl (.ldp rfl rfl rfl rfl rfl tk44) ?_
   refine .step rfl (.len rfl rfl ⟨_, _, rfl⟩ is44) ?_
   refine .step rfl (.bin rfl rfl rfl rfl) ?_
   refine .nil ?_
   refine .next ?_
   refine .cond rfl (fun h2 => ?_) (fun h2 => ?_)
   ·skip
    have hn : ¬ n ≤ l.length := by have q := of_decide_eq_true h2; (try dsimp only at q); omega
    refine .seq ?_
    refine .region ?_
    refine .step rfl (.move rfl rfl) ?_
    refine .step rfl (.callm (o' := .mbox 0 89 (rdC ([]) (21))) 0 rfl cf96 rfl rfl rfl rfl (by simp) rfl rfl (rfail_pm l x 21)) ?_
    refine .nil ?_
    refine .next ?_
    refine .seq ?_
    refine .region ?_
    refine .step rfl (.assign rfl rfl) ?_
    refine .nil ?_
    refine .next ?_
    refine .ret ?_
    obtain ⟨e1, e2, e3⟩ := rd_short (l := l) hx hn
    rw [e1, e2, e3]
    refine TE.sub 4 (slT bdv 1 []) rfl rfl (nil_sub _ _) ?_
    exact TE.retm 0 rfl rfl rfl rfl rfl
   ·skip
    have hn : n ≤ l.length := by have q := of_decide_eq_false h2; (try dsimp only at q); omega
    refine .skip ?_
    refine .next ?_
    refine .seq ?_
    refine .region ?_
    refine .step rfl (.move rfl rfl) ?_
    refine .step rfl (.nilp rfl rfl rfl rfl) ?_
    refine .step rfl (.fieldp rfl rfl rfl rfl fo89_0) ?_
    refine .step rfl (.ldp rfl rfl rfl rfl rfl tk44) ?_
    refine .step rfl (.move rfl rfl) ?_
    refine .step rfl (.slice rfl rfl rfl rfl rfl et44 (fun _ => rfl) (by omega) (by omega) (by omega)) ?_
    refine .step rfl (.assign rfl rfl) ?_
    refine .nil ?_
    refine TE.set 5 (.d (slT bdv 1 (l.take n))) rfl (by simp only [Int.toNat_natCast, Int.toNat_zero, List.drop_zero]; try rfl) ?_
    refine .next ?_
    refine .seq ?_
    refine .region ?_
    refine .step rfl (.move rfl rfl) ?_
    refine .step rfl (.move rfl rfl) ?_
    refine .step rfl (.nilp rfl rfl rfl rfl) ?_
    refine .step rfl (.fieldp rfl rfl rfl rfl fo89_0) ?_
    refine .step rfl (.ldp rfl rfl rfl rfl rfl tk44) ?_
    refine .step rfl (.move rfl rfl) ?_
    refine .step rfl (.slice rfl rfl rfl rfl rfl et44 (fun _ => rfl) (by omega) (by omega) (by omega)) ?_
    refine .step rfl (.nilp rfl rfl rfl rfl) ?_
    refine .step rfl (.fieldp rfl rfl rfl rfl fo89_0) ?_
    refine .step rfl (.storem rfl rfl rfl sz44 rfl rfl) ?_
    refine .nil ?_
    refine TE.obj 0 (.mbox 0 89 (rdC (l.drop n) (x))) rfl (by simp only [Int.toNat_natCast, List.take_length]; rfl) ?_
    refine .next ?_
    refine .seq ?_
    refine .region ?_
    refine .step rfl (.move rfl rfl) ?_
    refine .step rfl (.assign rfl rfl) ?_
    refine .nil ?_
    refine .next ?_
    refine .ret ?_
    obtain ⟨e1, e2, e3⟩ := rd_ok (l := l) hx hn
    rw [e1, e2, e3]
    exact TE.retm 0 rfl rfl rfl rfl rfl
set_option maxRecDepth 100000 in
set_option maxHeartbeats 1600000 in
theorem rnum_pm (l : List UInt8) (x : Int) (hl : l.length ≤ 1099511627776) : PM Try.prog 51 [.ptr 0 0] (.mbox 0 89 (rdC (l) (x))) (.mbox 0 89 (rdC (rawRest l x 8) (rawErr l x 8))) (.d (.v (.int .u64 (leNum (rawOut l x 8))))) := by
  refine PM.enter (fn := Try.f51) Try.func51 rfl Try.ntmps51 rfl rfl rfl (fun w0 K0 ob => ?_)
  refine .seq ?_
  refine .region ?_
  refine .step rfl (.assign rfl rfl) ?_
  refine .nil ?_
  refine .next ?_
  refine .seq ?_
  refine .region ?_
  refine .step rfl (.move rfl rfl) ?_
  refine .step rfl (.callm (o' := .mbox 0 89 (rdC (rawRest l x 8) (rawErr l x 8))) 0 rfl cf84 rfl rfl rfl rfl (by simp) rfl rfl (rraw_pm l x 8 hl)) ?_
  refine .step rfl (.assign rfl rfl) ?_
  refine .nil ?_
  refine .next ?_
  refine .seq ?_
  refine .seq ?_
  refine .region ?_
  refine .step rfl (.move rfl rfl) ?_
  refine .step rfl (.nilp rfl rfl rfl rfl) ?_
  refine .step rfl (.fieldp rfl rfl rfl rfl fo89_1) ?_
  refine .step rfl (.ldp rfl rfl rfl rfl rfl tk3) ?_
  refine .step rfl (.bin rfl rfl rfl rfl) ?_
  refine .nil ?_
  refine .next ?_
  refine .cond rfl (fun h1 => ?_) (fun h1 => ?_)
  ·skip
   have hx : ¬ rawErr l x 8 = 0 := by simpa using h1
   rw [rd_err hx]
   refine .seq ?_
   refine .region ?_
   refine .step rfl (.assign rfl rfl) ?_
   refine .nil ?_
   refine .next ?_
   refine .ret ?_
   exact TE.retm 0 rfl rfl rfl rfl rfl
  ·skip
   have hx : rawErr l x 8 = 0 := by simpa using h1
   refine .skip ?_
   refine .next ?_
   refine .seq ?_
   refine .region ?_
   refine .step rfl (.move rfl rfl) ?_
   refine .step rfl (.callf rfl cf79 rfl ⟨trivial, trivial⟩ (rword_pf _ (rd_no hx))) ?_
   refine .step rfl (.assign rfl rfl) ?_
   refine .nil ?_
   refine .next ?_
   refine .ret ?_
   exact TE.retm 0 rfl rfl rfl rfl rfl
set_option maxRecDepth 100000 in
set_option maxHeartbeats 1600000 in
theorem rhash_pm (l : List UInt8) (x : Int) (hl : l.length ≤ 1099511627776) : PM Try.prog 52 [.ptr 0 0] (.mbox 0 89 (rdC (l) (x))) (.mbox 0 89 (rdC (rawRest l x 32) (rawErr l x 32))) (.d (.ag (hdv (ofL (rawOut l x 32))))) := by
  have hq := rawOut_le l x 32
  refine PM.enter (fn := Try.f52) Try.func52 rfl Try.ntmps52 rfl rfl rfl (fun w0 K0 ob => ?_)
  refine .seq ?_
  refine .region ?_
  refine .step rfl (.alloc 1 rfl rfl zc25 rfl) ?_
  refine .nil ?_
  refine .next ?_
  refine .seq ?_
  refine .region ?_
  refine .step rfl (.alloc 2 rfl rfl zc25 rfl) ?_
  refine .nil ?_
  refine TE.obj 1 (.box 25 (hdv zeroH)) rfl rfl ?_
  refine TE.obj 2 (.box 25 (hdv zeroH)) rfl rfl ?_
  refine .next ?_
  refine .seq ?_
  refine .region ?_
  refine .step rfl (.move rfl rfl) ?_
  refine .step rfl (.callm (o' := .mbox 0 89 (rdC (rawRest l x 32) (rawErr l x 32))) 0 rfl cf84 rfl rfl rfl rfl (by simp) rfl rfl (rraw_pm l x 32 hl)) ?_
  refine .step rfl (.assign rfl rfl) ?_
  refine .nil ?_
  refine .next ?_
  refine .seq ?_
  refine .seq ?_
  refine .region ?_
  refine .step rfl (.assign rfl rfl) ?_
  refine .nil ?_
  refine TE.setv 5 (.int .i64 ((0 : Nat) : Int)) rfl (congrArg _ (by first | rfl | (dsimp only; first | done | rfl | omega))) ?_
  generalize rawOut l x 32 = q at hq ⊢
  refine TE.obj 2 (.box 25 (hdv (ofL (q.take 0)))) rfl rfl ?_
  refine .next ?_
  refine .block ?_
  refine TC.loop (S := Nat) (fun i => i ≤ q.length) (fun i => q.length - i) (fun i => [(0, .ptr 0 0), (2, .ptr 1 0), (3, .ptr 2 0), (4, .d (slT bdv 1 q)), (5, .d (.v (.int .i64 ((i : Nat) : Int))))]) (fun i => [(0, .mbox 0 89 (rdC (rawRest l x 32) (rawErr l x 32))), (1, .box 25 (hdv zeroH)), (2, .box 25 (hdv (ofL (q.take i))))]) (0) (Nat.zero_le _) ⟨⟨rfl, rfl⟩, ⟨rfl, rfl⟩, ⟨rfl, rfl⟩, ⟨rfl, rfl⟩, ⟨rfl, rfl⟩, trivial⟩ ⟨.inr rfl, .inr rfl, .inr rfl, trivial⟩ (fun i hI => ?_)
  refine .seq ?_
  refine .seq ?_
  refine .region ?_
  refine .step rfl (.move rfl rfl) ?_
  refine .step rfl (.move rfl rfl) ?_
  refine .step rfl (.len rfl rfl ⟨_, _, rfl⟩ is44) ?_
  refine .step rfl (.bin rfl rfl rfl rfl) ?_
  refine .nil ?_
  refine .next ?_
  refine .cond rfl (fun h1 => ?_) (fun h1 => ?_)
  ·skip
   have hi : i < q.length := by have q := of_decide_eq_true h1; (try dsimp only at q); omega
   refine .skip ?_
   refine .next ?_
   refine .seq ?_
   refine .block ?_
   refine .region ?_
   refine .step rfl (.move rfl rfl) ?_
   refine .step rfl (.move rfl rfl) ?_
   refine .step rfl (.move rfl rfl) ?_
   refine .step rfl (.idx (q[i]) rfl rfl rfl rfl et44 (fun _ => rfl) (Int.natCast_nonneg _) (get_nat hi)) ?_
   refine .step rfl (.lde rfl rfl rfl rfl tk5) ?_
   refine .step rfl (.idxp rfl rfl rfl rfl rfl ar25 (Int.natCast_nonneg _) (by omega)) ?_
   refine .step rfl (.storeg rfl rfl rfl rfl sz5 rfl (by rw [h_len, Nat.mul_one, Nat.zero_add, Int.toNat_natCast]; show i + 1 ≤ 32; omega)) ?_
   refine .nil ?_
   refine TE.obj 2 (.box 25 (hdv (ofL (q.take (i + 1))))) rfl (by rw [Nat.mul_one, Nat.zero_add, Int.toNat_natCast]; exact congrArg (AO.box _) (ofL_step hi hq)) ?_
   refine TE.blk ?_
   refine .next ?_
   refine .region ?_
   refine .step rfl (.move rfl rfl) ?_
   refine .step rfl (.binv (.int .i64 ((i + 1 : Nat) : Int)) rfl rfl rfl rfl (congrArg _ (by (try dsimp only); rw [IntKind.wrap_i64]; omega))) ?_
   refine .step rfl (.assign rfl rfl) ?_
   refine .nil ?_
   refine TE.setv 5 (.int .i64 ((i + 1 : Nat) : Int)) rfl (congrArg _ (by first | rfl | (dsimp only; first | done | rfl | omega))) ?_
   exact TE.round id (fun _ _ e => e) (i + 1) (by omega) (by omega) ⟨⟨rfl, rfl⟩, ⟨rfl, rfl⟩, ⟨rfl, rfl⟩, ⟨rfl, rfl⟩, ⟨rfl, rfl⟩, trivial⟩ ⟨.inr rfl, .inr rfl, .inr rfl, trivial⟩
  ·skip
   have hi : ¬ (i < q.length) := by have q := of_decide_eq_false h1; (try dsimp only at q); omega
   have e : i = q.length := by have : i ≤ q.length := hI; omega
   subst e
   rw [List.take_length]
   refine .exit ?_
   refine TE.pass ?_
   refine TE.pass ?_
   refine TE.here ?_
   refine .next ?_
   refine .seq ?_
   refine .region ?_
   refine .step rfl (.ldpm (ds := hdv (ofL q)) rfl rfl rfl rfl rfl rfl tk25) ?_
   refine .step rfl (.store rfl rfl rfl sz25 rfl rfl) ?_
   refine .nil ?_
   refine .next ?_
   refine .ret ?_
   exact TE.retm 0 rfl rfl rfl rfl rfl
end Go.Proofs.Ytejhgijjegnmnaa

