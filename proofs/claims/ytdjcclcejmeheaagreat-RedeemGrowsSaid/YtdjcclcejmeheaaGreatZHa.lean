import Derived.Test.YtdjcclcejmeheaaGreatZPy
import Derived.Test.YtdjcclcejmeheaaGreatZGa
import Derived.Test.YtdjcclcejmeheaaGreatZEv
/-
  Readers.
-/
namespace Go.Proofs.YtdjcclcejmeheaaGreat
set_option linter.unusedVariables false
set_option linter.unusedSimpArgs false
open Go.RowKit Pl
set_option maxRecDepth 100000
set_option maxHeartbeats 3200000
theorem et22 : elt Tryz.prog 22 = some (5, 1) := by kernel_rfl
theorem sz5 : szt Tryz.prog 5 = some 1 := by kernel_rfl
theorem fail_pm (l : List UInt8) (x y : Int) : PM Tryz.prog 112 [.ptr 0 0, .d (.v (.int .i64 y))] (.mbox 0 166 (rdC (l) (x))) (.mbox 0 166 (rdC ([]) (y))) (.d (.tp [])) := by
 refine PM.enter (fn := Tryz.f112) Tryz.func112 rfl Tryz.ntmps112 rfl rfl rfl (fun w0 K0 ob => .w ?_)
 refine .g 9 1 rfl ?_
 refine TE.obj 0 (.mbox 0 166 [.v (.slice none 0 0), .v (.int .i64 y)]) rfl rfl ?_
 refine TE.objsub 0 (rdC [] y) rfl rfl rfl (rdC_sub _) ?_
 exact .z 0 1 rfl (TE.retm0 0 rfl rfl rfl)
theorem raw_pm (l : List UInt8) (x : Int) (n : Nat) (hl : l.length ≤ 1099511627776) : PM Tryz.prog 113 [.ptr 0 0, .d (.v (.int .i64 ((n : Nat) : Int)))] (.mbox 0 166 (rdC (l) (x))) (.mbox 0 166 (rdC (rawRest l x n) (rawErr l x n))) (.d (slT bdv 1 (rawOut l x n))) := by
 refine PM.enter (fn := Tryz.f113) Tryz.func113 rfl Tryz.ntmps113 rfl rfl rfl (fun w0 K0 ob => .w ?_)
 refine .g 4 1 rfl ?_
 refine TE.setv 1 (.int .i64 ((n : Nat) : Int)) rfl (congrArg _ (Int.max_eq_left (Int.natCast_nonneg n))) ?_
 refine .q 6 1 rfl rfl (fun h1 => ?_) (fun h1 => ?_)
 ·skip
  have hx : ¬ x = 0 := by simpa using h1
  refine .g 1 1 rfl ?_
  obtain ⟨e1, e2, e3⟩ := rd_bad (l := l) n hx
  rw [e1, e2, e3]
  refine TE.sub 4 (slT bdv 1 []) rfl rfl (nil_sub _ _) ?_
  exact .z 0 1 rfl (TE.retm 0 rfl rfl rfl rfl rfl)
 ·skip
  have hx : x = 0 := by simpa using h1
  refine .q 8 1 rfl rfl (fun h2 => ?_) (fun h2 => ?_)
  ·skip
   have hn : ¬ n ≤ l.length := by have q := of_decide_eq_true h2; (try dsimp only at q); omega
   refine .t 1 1 rfl rfl (.cm 0 (.mbox 0 166 (rdC ([]) (21))) rfl (fail_pm l x 21) rfl) ?_
   refine .g 1 1 rfl ?_
   obtain ⟨e1, e2, e3⟩ := rd_short (l := l) hx hn
   rw [e1, e2, e3]
   refine TE.sub 4 (slT bdv 1 []) rfl rfl (nil_sub _ _) ?_
   exact .z 0 1 rfl (TE.retm 0 rfl rfl rfl rfl rfl)
  ·skip
   have hn : n ≤ l.length := by have q := of_decide_eq_false h2; (try dsimp only at q); omega
   refine .t 5 1 rfl rfl (.slice rfl rfl rfl rfl rfl et22 (fun _ => rfl) (by omega) (by omega) (by omega)) ?_
   refine .t 0 1 rfl rfl (.cf (clone8_pf _ (by simp only [List.length_drop, List.length_take]; omega)) rfl) ?_
   refine .g 1 1 rfl ?_
   refine TE.set 5 (.f (slT bdv 1 (l.take n))) rfl (by simp only [Int.toNat_natCast, Int.toNat_zero, List.drop_zero]; try rfl) ?_
   refine .t 6 1 rfl rfl (.slice rfl rfl rfl rfl rfl et22 (fun _ => rfl) (by omega) (by omega) (by omega)) ?_
   refine .g 3 1 rfl ?_
   refine TE.obj 0 (.mbox 0 166 (rdC (l.drop n) (x))) rfl (by simp only [Int.toNat_natCast, List.take_length]; rfl) ?_
   obtain ⟨e1, e2, e3⟩ := rd_ok (l := l) hx hn
   rw [e1, e2, e3]
   exact .z 2 1 rfl (TE.retm 0 rfl rfl rfl rfl rfl)
theorem num_pm (l : List UInt8) (x : Int) (hl : l.length ≤ 1099511627776) : PM Tryz.prog 66 [.ptr 0 0] (.mbox 0 166 (rdC (l) (x))) (.mbox 0 166 (rdC (rawRest l x 8) (rawErr l x 8))) (.d (.v (.int .u64 (leNum (rawOut l x 8))))) := by
 have hq := rawOut_le l x 8
 refine PM.enter (fn := Tryz.f66) Tryz.func66 rfl Tryz.ntmps66 rfl rfl rfl (fun w0 K0 ob => .w ?_)
 refine .t 3 1 rfl rfl (.cm 0 (.mbox 0 166 (rdC (rawRest l x 8) (rawErr l x 8))) rfl (raw_pm l x 8 hl) rfl) ?_
 refine .g 2 1 rfl ?_
 generalize rawOut l x 8 = q at hq ⊢
 refine TE.setv 9 (.int .i64 ((0 : Nat) : Int)) rfl (congrArg _ (by first | rfl | (dsimp only; first | done | rfl | omega))) ?_
 refine TE.setv 8 (.int .i64 ((q.length : Nat) : Int)) rfl rfl ?_
 refine TE.setv 3 (.int .u64 (leNum (q.take 0))) rfl rfl ?_
 refine .lo (T := Nat) 0 1 rfl (fun i => i ≤ q.length) (fun i => q.length - i) [0] [] (fun i => [(3, .d (.v (.int .u64 (leNum (q.take i))))), (7, .d (slT bdv 1 q)), (8, .d (.v (.int .i64 ((q.length : Nat) : Int)))), (9, .d (.v (.int .i64 ((i : Nat) : Int))))]) (fun i => [(0, .mbox 0 166 (rdC (rawRest l x 8) (rawErr l x 8)))]) (0) rfl rfl (Nat.zero_le _) rfl rfl rfl (fun i hI => ?_)
 refine .q 1 1 rfl rfl (fun h1 => ?_) (fun h1 => ?_)
 ·skip
  have hi : i < q.length := by have q := of_decide_eq_true h1; (try dsimp only at q); omega
  refine .t 1 1 rfl rfl (.idx (q[i]) rfl rfl rfl rfl et22 (fun _ => rfl) (Int.natCast_nonneg _) (get_nat hi)) ?_
  refine .t 5 1 rfl rfl (.cv (IntKind.u64.wrap (q[i].toNat : Int)) rfl (rfl)) ?_
  refine .t 1 1 rfl rfl (.bv (.int .i64 ((8 * i : Nat) : Int)) rfl (congrArg _ (by (try dsimp only); rw [IntKind.wrap_i64]; omega))) ?_
  refine .t 0 1 rfl rfl (.shl (IntKind.u64.wrap (IntKind.u64.wrap (q[i].toNat : Int) * 2 ^ (8 * i))) rfl rfl rfl (Int.natCast_nonneg _) (congrArg (fun e => IntKind.u64.wrap (_ * 2 ^ e)) (Nat.min_eq_left (by show 8 * i ≤ 64; omega)))) ?_
  refine .t 0 1 rfl rfl (.bits (leNum (q.take (i + 1))) rfl rfl rfl rfl (or_next hi hq)) ?_
  refine .g 1 1 rfl ?_
  refine TE.setv 3 (.int .u64 (leNum (q.take (i + 1)))) rfl rfl ?_
  refine .t 0 1 rfl rfl (.bv (.int .i64 ((i + 1 : Nat) : Int)) rfl (congrArg _ (by (try dsimp only); rw [IntKind.wrap_i64]; omega))) ?_
  refine .g 1 1 rfl ?_
  refine TE.setv 9 (.int .i64 ((i + 1 : Nat) : Int)) rfl (congrArg _ (by first | rfl | (dsimp only; first | done | rfl | omega))) ?_
  exact .rd 0 1 id (fun _ _ e => e) rfl (i + 1) (by omega) (by omega) rfl rfl rfl
 ·skip
  have hi : ¬ (i < q.length) := by have q := of_decide_eq_false h1; (try dsimp only at q); omega
  have e : i = q.length := by have : i ≤ q.length := hI; omega
  subst e
  rw [List.take_length]
  exact .z 2 1 rfl (TE.retm 0 rfl rfl rfl rfl rfl)
theorem err_pm (l : List UInt8) (x : Int) : PM Tryz.prog 67 [.ptr 0 0] (.mbox 0 166 (rdC (l) (x))) (.mbox 0 166 (rdC (l) (x))) (.d (.v (.int .i64 x))) := by
 refine PM.enter (fn := Tryz.f67) Tryz.func67 rfl Tryz.ntmps67 rfl rfl rfl (fun w0 K0 ob => .w ?_)
 exact .z 6 1 rfl (TE.retm 0 rfl rfl rfl rfl rfl)
theorem left_pm (l : List UInt8) (x : Int) : PM Tryz.prog 68 [.ptr 0 0] (.mbox 0 166 (rdC (l) (x))) (.mbox 0 166 (rdC (l) (x))) (.d (.v (.int .i64 ((l.length : Nat) : Int)))) := by
 refine PM.enter (fn := Tryz.f68) Tryz.func68 rfl Tryz.ntmps68 rfl rfl rfl (fun w0 K0 ob => .w ?_)
 exact .z 7 1 rfl (TE.retm 0 rfl rfl rfl rfl rfl)
theorem new_pb (l : List UInt8) (hl : l.length ≤ 1099511627776) : PB Tryz.prog 63 [slT bdv 1 l] 166 (rdC l 0) := by
 refine PB.enter (fn := Tryz.f63) Tryz.func63 rfl Tryz.ntmps63 rfl (fun w0 => .w ?_)
 refine .t 2 1 rfl rfl (.co 1 (clone8_po l hl) rfl) ?_
 refine .name 4 rfl rfl (fun u uc => ?_)
 refine .g 3 2 rfl ?_
 refine TE.obj 2 (.box 166 [.v (.slice u (l.length : Nat) uc), .v (.int .i64 0)]) rfl rfl ?_
 exact .z 0 3 rfl (TE.retb (off := 0) (gR := 1) (g := 2) rfl rfl rfl rfl rfl (by rw [flat_length (sz := 1) (fun _ => rfl)]) (fun X h => by simp at h; rcases h with rfl | rfl <;> exact pl_v _) (pl_flat (fun b Y hY => by simp [bdv] at hY; subst hY; exact pl_v _) _) rfl)
theorem hash_pm (l : List UInt8) (x : Int) (hl : l.length ≤ 1099511627776) : PM Tryz.prog 71 [.ptr 0 0] (.mbox 0 166 (rdC (l) (x))) (.mbox 0 166 (rdC (rawRest l x 32) (rawErr l x 32))) (.d (.ag (hdv (ofL (rawOut l x 32))))) := by
 have hq := rawOut_le l x 32
 refine PM.enter (fn := Tryz.f71) Tryz.func71 rfl Tryz.ntmps71 rfl rfl rfl (fun w0 K0 ob => .w ?_)
 refine .g 2 1 rfl ?_
 refine TE.obj 1 (.box 41 (hdv zeroH)) rfl rfl ?_
 refine TE.obj 2 (.box 41 (hdv zeroH)) rfl rfl ?_
 refine .d 0 3 rfl ?_
 refine .v 0 3 [2] rfl rfl (fun _ _ => .slicep rfl rfl rfl rfl ar41 rfl rfl (by decide) (by decide) (by decide) (by decide) (Nat.le_of_ble_eq_true rfl) (by decide)) ?_
 refine .t 1 3 (E := ⟨some (6, _), [(0, _)]⟩) [0] rfl rfl (fun _ _ => .cm 0 (.mbox 0 166 (rdC (rawRest l x 32) (rawErr l x 32))) rfl (raw_pm l x 32 hl) rfl) ?_
 refine .t 0 3 (E := ⟨some (7, _), [(2, _)]⟩) [2] rfl rfl (fun _ _ => .copyb rfl rfl rfl rfl rfl rfl trivial et22 (Nat.min_eq_left hq) (by show 0 + (rawOut l x 32).length * 1 ≤ 32; omega)) ?_
 refine .y 0 3 rfl (by kernel_rfl) ?_
 refine TE.obj 2 (.box 41 (hdv (ofL (rawOut l x 32)))) rfl (congrArg (AO.box _) (ofL_copy rfl hq)) ?_
 refine .t 0 3 rfl rfl (.lp (hdv (ofL (rawOut l x 32))) rfl) ?_
 exact .z 1 3 rfl (TE.retm 0 rfl rfl rfl rfl rfl)
theorem rfail_pm (l : List UInt8) (x y : Int) : PM Tryz.prog 150 [.ptr 0 0, .d (.v (.int .i64 y))] (.mbox 0 140 (rdC (l) (x))) (.mbox 0 140 (rdC ([]) (y))) (.d (.tp [])) := by
 refine PM.enter (fn := Tryz.f150) Tryz.func150 rfl Tryz.ntmps150 rfl rfl rfl (fun w0 K0 ob => .w ?_)
 refine .g 9 1 rfl ?_
 refine TE.obj 0 (.mbox 0 140 [.v (.slice none 0 0), .v (.int .i64 y)]) rfl rfl ?_
 refine TE.objsub 0 (rdC [] y) rfl rfl rfl (rdC_sub _) ?_
 exact .z 0 1 rfl (TE.retm0 0 rfl rfl rfl)
theorem rraw_pm (l : List UInt8) (x : Int) (n : Nat) (hl : l.length ≤ 1099511627776) : PM Tryz.prog 127 [.ptr 0 0, .d (.v (.int .i64 ((n : Nat) : Int)))] (.mbox 0 140 (rdC (l) (x))) (.mbox 0 140 (rdC (rawRest l x n) (rawErr l x n))) (.d (slT bdv 1 (rawOut l x n))) := by
 refine PM.enter (fn := Tryz.f127) Tryz.func127 rfl Tryz.ntmps127 rfl rfl rfl (fun w0 K0 ob => .w ?_)
 refine .g 4 1 rfl ?_
 refine TE.setv 1 (.int .i64 ((n : Nat) : Int)) rfl (congrArg _ (Int.max_eq_left (Int.natCast_nonneg n))) ?_
 refine .q 5 1 rfl rfl (fun h1 => ?_) (fun h1 => ?_)
 ·skip
  have hx : ¬ x = 0 := by simpa using h1
  refine .g 1 1 rfl ?_
  obtain ⟨e1, e2, e3⟩ := rd_bad (l := l) n hx
  rw [e1, e2, e3]
  refine TE.sub 4 (slT bdv 1 []) rfl rfl (nil_sub _ _) ?_
  exact .z 0 1 rfl (TE.retm 0 rfl rfl rfl rfl rfl)
 ·skip
  have hx : x = 0 := by simpa using h1
  refine .q 7 1 rfl rfl (fun h2 => ?_) (fun h2 => ?_)
  ·skip
   have hn : ¬ n ≤ l.length := by have q := of_decide_eq_true h2; (try dsimp only at q); omega
   refine .t 1 1 rfl rfl (.cm 0 (.mbox 0 140 (rdC ([]) (21))) rfl (rfail_pm l x 21) rfl) ?_
   refine .g 1 1 rfl ?_
   obtain ⟨e1, e2, e3⟩ := rd_short (l := l) hx hn
   rw [e1, e2, e3]
   refine TE.sub 4 (slT bdv 1 []) rfl rfl (nil_sub _ _) ?_
   exact .z 0 1 rfl (TE.retm 0 rfl rfl rfl rfl rfl)
  ·skip
   have hn : n ≤ l.length := by have q := of_decide_eq_false h2; (try dsimp only at q); omega
   refine .t 5 1 rfl rfl (.slice rfl rfl rfl rfl rfl et22 (fun _ => rfl) (by omega) (by omega) (by omega)) ?_
   refine .g 1 1 rfl ?_
   refine TE.set 5 (.d (slT bdv 1 (l.take n))) rfl (by simp only [Int.toNat_natCast, Int.toNat_zero, List.drop_zero]; try rfl) ?_
   refine .t 6 1 rfl rfl (.slice rfl rfl rfl rfl rfl et22 (fun _ => rfl) (by omega) (by omega) (by omega)) ?_
   refine .g 3 1 rfl ?_
   refine TE.obj 0 (.mbox 0 140 (rdC (l.drop n) (x))) rfl (by simp only [Int.toNat_natCast, List.take_length]; rfl) ?_
   obtain ⟨e1, e2, e3⟩ := rd_ok (l := l) hx hn
   rw [e1, e2, e3]
   exact .z 2 1 rfl (TE.retm 0 rfl rfl rfl rfl rfl)
theorem rnum_pm (l : List UInt8) (x : Int) (hl : l.length ≤ 1099511627776) : PM Tryz.prog 83 [.ptr 0 0] (.mbox 0 140 (rdC (l) (x))) (.mbox 0 140 (rdC (rawRest l x 8) (rawErr l x 8))) (.d (.v (.int .u64 (leNum (rawOut l x 8))))) := by
 refine PM.enter (fn := Tryz.f83) Tryz.func83 rfl Tryz.ntmps83 rfl rfl rfl (fun w0 K0 ob => .w ?_)
 refine .t 2 1 rfl rfl (.cm 0 (.mbox 0 140 (rdC (rawRest l x 8) (rawErr l x 8))) rfl (rraw_pm l x 8 hl) rfl) ?_
 refine .q 6 1 rfl rfl (fun h1 => ?_) (fun h1 => ?_)
 ·skip
  have hx : ¬ rawErr l x 8 = 0 := by simpa using h1
  rw [rd_err hx]
  exact .z 1 1 rfl (TE.retm 0 rfl rfl rfl rfl rfl)
 ·skip
  have hx : rawErr l x 8 = 0 := by simpa using h1
  refine .t 1 1 rfl rfl (.cf (rword_pf _ (rd_no hx)) rfl) ?_
  exact .z 1 1 rfl (TE.retm 0 rfl rfl rfl rfl rfl)
theorem rhash_pm (l : List UInt8) (x : Int) (hl : l.length ≤ 1099511627776) : PM Tryz.prog 85 [.ptr 0 0] (.mbox 0 140 (rdC (l) (x))) (.mbox 0 140 (rdC (rawRest l x 32) (rawErr l x 32))) (.d (.ag (hdv (ofL (rawOut l x 32))))) := by
 have hq := rawOut_le l x 32
 refine PM.enter (fn := Tryz.f85) Tryz.func85 rfl Tryz.ntmps85 rfl rfl rfl (fun w0 K0 ob => .w ?_)
 refine .g 2 1 rfl ?_
 refine TE.obj 1 (.box 41 (hdv zeroH)) rfl rfl ?_
 refine TE.obj 2 (.box 41 (hdv zeroH)) rfl rfl ?_
 refine .t 1 3 rfl rfl (.cm 0 (.mbox 0 140 (rdC (rawRest l x 32) (rawErr l x 32))) rfl (rraw_pm l x 32 hl) rfl) ?_
 refine .g 2 3 rfl ?_
 refine TE.setv 5 (.int .i64 ((0 : Nat) : Int)) rfl (congrArg _ (by first | rfl | (dsimp only; first | done | rfl | omega))) ?_
 generalize rawOut l x 32 = q at hq ⊢
 refine TE.obj 2 (.box 41 (hdv (ofL (q.take 0)))) rfl rfl ?_
 refine .lo (T := Nat) 0 3 rfl (fun i => i ≤ q.length) (fun i => q.length - i) [0] [] (fun i => [(2, .ptr 1 0), (3, .ptr 2 0), (4, .d (slT bdv 1 q)), (5, .d (.v (.int .i64 ((i : Nat) : Int))))]) (fun i => [(0, .mbox 0 140 (rdC (rawRest l x 32) (rawErr l x 32))), (1, .box 41 (hdv zeroH)), (2, .box 41 (hdv (ofL (q.take i))))]) (0) rfl rfl (Nat.zero_le _) rfl rfl rfl (fun i hI => ?_)
 refine .q 4 3 rfl rfl (fun h1 => ?_) (fun h1 => ?_)
 ·skip
  have hi : i < q.length := by have q := of_decide_eq_true h1; (try dsimp only at q); omega
  refine .t 3 3 rfl rfl (.idx (q[i]) rfl rfl rfl rfl et22 (fun _ => rfl) (Int.natCast_nonneg _) (get_nat hi)) ?_
  refine .t 1 3 rfl rfl (.idxp rfl rfl rfl rfl rfl ar41 (Int.natCast_nonneg _) (by omega)) ?_
  refine .t 0 3 rfl rfl (.storeg rfl rfl rfl rfl sz5 rfl (by rw [h_len, Nat.mul_one, Nat.zero_add, Int.toNat_natCast]; show i + 1 ≤ 32; omega)) ?_
  refine TE.obj 2 (.box 41 (hdv (ofL (q.take (i + 1))))) rfl (by rw [Nat.mul_one, Nat.zero_add, Int.toNat_natCast]; exact congrArg (AO.box _) (ofL_step hi hq)) ?_
  refine .t 1 3 rfl rfl (.bv (.int .i64 ((i + 1 : Nat) : Int)) rfl (congrArg _ (by (try dsimp only); rw [IntKind.wrap_i64]; omega))) ?_
  refine .g 1 3 rfl ?_
  refine TE.setv 5 (.int .i64 ((i + 1 : Nat) : Int)) rfl (congrArg _ (by first | rfl | (dsimp only; first | done | rfl | omega))) ?_
  exact .rd 0 3 id (fun _ _ e => e) rfl (i + 1) (by omega) (by omega) rfl rfl rfl
 ·skip
  have hi : ¬ (i < q.length) := by have q := of_decide_eq_false h1; (try dsimp only at q); omega
  have e : i = q.length := by have : i ≤ q.length := hI; omega
  subst e
  rw [List.take_length]
  refine .t 0 3 rfl rfl (.lp (hdv (ofL q)) rfl) ?_
  exact .z 1 3 rfl (TE.retm 0 rfl rfl rfl rfl rfl)
end Go.Proofs.YtdjcclcejmeheaaGreat

