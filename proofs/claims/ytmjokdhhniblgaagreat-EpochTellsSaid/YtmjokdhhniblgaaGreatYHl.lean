import Derived.Test.YtmjokdhhniblgaaGreatYGc
import Derived.Test.YtmjokdhhniblgaaGreatYGf
import Derived.Test.YtmjokdhhniblgaaGreatYEv
/-
  Lengths in bits; entries sorted.
-/
namespace Go.Proofs.YtmjokdhhniblgaaGreat
set_option linter.unusedVariables false
set_option linter.unusedSimpArgs false
open Go.RowKit Pl
set_option maxRecDepth 100000
set_option maxHeartbeats 3200000
theorem ap23 : apt Tryz.prog 23 = some (38, 3, 32) := by kernel_rfl
theorem cf53 : cfn Tryz.prog 53 = true := by kernel_rfl
theorem is9 : isSl Tryz.prog 9 = some false := by kernel_rfl
theorem sz38 : szt Tryz.prog 38 = some 3 := by kernel_rfl
theorem tk38 : tyk Tryz.prog 38 = some (some 3) := by kernel_rfl
theorem len64_pf (m : Nat) (hm : m < 4294967296) : PF Tryz.prog 126 [.v (.int .u64 ((m : Nat) : Int))] (.v (.int .i64 ((blN m : Nat) : Int))) := by
 refine PF.enter (fn := Tryz.f126) Tryz.func126 rfl Tryz.ntmps126 rfl (fun w0 => .w ?_)
 refine .q 3 1 rfl rfl (fun h1 => absurd (of_decide_eq_true h1) (by omega)) (fun h1 => ?_)
 refine .q 2 1 rfl rfl (fun h2 => ?_) (fun h2 => ?_)
 ·skip
  have h1 : 65536 ≤ m := by have q := of_decide_eq_true h2; (try dsimp only at q); omega
  refine .t 1 1 rfl rfl (.shr (((m / 65536 : Nat) : Int)) rfl rfl rfl (by decide) (by rw [Int.fdiv_eq_ediv_of_nonneg _ (by decide), show ((2 : Int) ^ (min (Int.toNat 16) IntKind.u64.bits)) = 65536 from rfl]; omega)) ?_
  refine .t 2 1 rfl rfl (.bv (.int .i64 ((16 : Nat) : Int)) rfl (rfl)) ?_
  refine .g 1 1 rfl ?_
  obtain ⟨x, hx⟩ : ∃ n, n = m / 65536 := ⟨_, rfl⟩
  refine TE.setv 0 (.int .u64 ((x : Nat) : Int)) rfl (by rw [hx]) ?_
  obtain ⟨a, ha⟩ : ∃ n, n = 16 := ⟨_, rfl⟩
  refine TE.setv 2 (.int .i64 ((a : Nat) : Int)) rfl (by rw [ha]) ?_
  have e1 : blN m = a + blN x := by rw [hx, ha]; exact blN_div (k := 16) h1
  have x1 : x < 65536 := by omega
  have a1 : a ≤ 16 := by omega
  refine .q 2 1 rfl rfl (fun h3 => ?_) (fun h3 => ?_)
  ·skip
   have h2 : 256 ≤ x := by have q := of_decide_eq_true h3; (try dsimp only at q); omega
   refine .t 1 1 rfl rfl (.shr (((x / 256 : Nat) : Int)) rfl rfl rfl (by decide) (by rw [Int.fdiv_eq_ediv_of_nonneg _ (by decide), show ((2 : Int) ^ (min (Int.toNat 8) IntKind.u64.bits)) = 256 from rfl]; omega)) ?_
   refine .t 2 1 rfl rfl (.bv (.int .i64 ((a + 8 : Nat) : Int)) rfl (congrArg _ (by (try dsimp only); rw [IntKind.wrap_i64]; omega))) ?_
   refine .g 1 1 rfl ?_
   obtain ⟨y, hy⟩ : ∃ n, n = x / 256 := ⟨_, rfl⟩
   refine TE.setv 0 (.int .u64 ((y : Nat) : Int)) rfl (by rw [hy]) ?_
   obtain ⟨b, hb⟩ : ∃ n, n = a + 8 := ⟨_, rfl⟩
   refine TE.setv 2 (.int .i64 ((b : Nat) : Int)) rfl (by rw [hb]) ?_
   have e2 : blN m = b + blN y := by rw [hy, hb, e1, blN_div (m := x) (k := 8) h2, ← Nat.add_assoc]
   have y1 : y < 256 := by omega
   have b1 : b ≤ 24 := by omega
   refine .t 2 1 rfl rfl (.cv (((y : Nat) : Int)) rfl (by rw [IntKind.wrap_u8]; omega)) ?_
   refine .t 0 1 rfl rfl (.xs (UInt8.ofNat (blN y)) rfl rfl rfl is9 (by omega) (by rw [Int.toNat_natCast]; exact tab_at y1)) ?_
   refine .t 0 1 rfl rfl (.cv (((blN y : Nat) : Int)) rfl (by have := blN_lt (n := y) (k := 8) (by omega); rw [UInt8.toNat_ofNat', IntKind.wrap_i64]; omega)) ?_
   refine .t 0 1 rfl rfl (.bv (.int .i64 ((blN m : Nat) : Int)) rfl (congrArg _ (by have := blN_lt (n := y) (k := 8) (by omega); rw [e2, IntKind.wrap_i64]; omega))) ?_
   exact .z 1 1 rfl (TE.retf rfl rfl rfl (okv rfl))
  ·skip
   have h2 : ¬ (256 ≤ x) := by have q := of_decide_eq_false h3; (try dsimp only at q); omega
   obtain ⟨y, hy⟩ : ∃ n, n = x := ⟨_, rfl⟩
   refine TE.setv 0 (.int .u64 ((y : Nat) : Int)) rfl (by rw [hy]) ?_
   obtain ⟨b, hb⟩ : ∃ n, n = a := ⟨_, rfl⟩
   refine TE.setv 2 (.int .i64 ((b : Nat) : Int)) rfl (by rw [hb]) ?_
   have e2 : blN m = b + blN y := by rw [hy, hb, e1]
   have y1 : y < 256 := by omega
   have b1 : b ≤ 24 := by omega
   refine .t 2 1 rfl rfl (.cv (((y : Nat) : Int)) rfl (by rw [IntKind.wrap_u8]; omega)) ?_
   refine .t 0 1 rfl rfl (.xs (UInt8.ofNat (blN y)) rfl rfl rfl is9 (by omega) (by rw [Int.toNat_natCast]; exact tab_at y1)) ?_
   refine .t 0 1 rfl rfl (.cv (((blN y : Nat) : Int)) rfl (by have := blN_lt (n := y) (k := 8) (by omega); rw [UInt8.toNat_ofNat', IntKind.wrap_i64]; omega)) ?_
   refine .t 0 1 rfl rfl (.bv (.int .i64 ((blN m : Nat) : Int)) rfl (congrArg _ (by have := blN_lt (n := y) (k := 8) (by omega); rw [e2, IntKind.wrap_i64]; omega))) ?_
   exact .z 1 1 rfl (TE.retf rfl rfl rfl (okv rfl))
 ·skip
  have h1 : ¬ (65536 ≤ m) := by have q := of_decide_eq_false h2; (try dsimp only at q); omega
  obtain ⟨x, hx⟩ : ∃ n, n = m := ⟨_, rfl⟩
  refine TE.setv 0 (.int .u64 ((x : Nat) : Int)) rfl (by rw [hx]) ?_
  obtain ⟨a, ha⟩ : ∃ n, n = 0 := ⟨_, rfl⟩
  refine TE.setv 2 (.int .i64 ((a : Nat) : Int)) rfl (by rw [ha]; rfl) ?_
  have e1 : blN m = a + blN x := by rw [hx, ha, Nat.zero_add]
  have x1 : x < 65536 := by omega
  have a1 : a ≤ 16 := by omega
  refine .q 2 1 rfl rfl (fun h4 => ?_) (fun h4 => ?_)
  ·skip
   have h2 : 256 ≤ x := by have q := of_decide_eq_true h4; (try dsimp only at q); omega
   refine .t 1 1 rfl rfl (.shr (((x / 256 : Nat) : Int)) rfl rfl rfl (by decide) (by rw [Int.fdiv_eq_ediv_of_nonneg _ (by decide), show ((2 : Int) ^ (min (Int.toNat 8) IntKind.u64.bits)) = 256 from rfl]; omega)) ?_
   refine .t 2 1 rfl rfl (.bv (.int .i64 ((a + 8 : Nat) : Int)) rfl (congrArg _ (by (try dsimp only); rw [IntKind.wrap_i64]; omega))) ?_
   refine .g 1 1 rfl ?_
   obtain ⟨y, hy⟩ : ∃ n, n = x / 256 := ⟨_, rfl⟩
   refine TE.setv 0 (.int .u64 ((y : Nat) : Int)) rfl (by rw [hy]) ?_
   obtain ⟨b, hb⟩ : ∃ n, n = a + 8 := ⟨_, rfl⟩
   refine TE.setv 2 (.int .i64 ((b : Nat) : Int)) rfl (by rw [hb]) ?_
   have e2 : blN m = b + blN y := by rw [hy, hb, e1, blN_div (m := x) (k := 8) h2, ← Nat.add_assoc]
   have y1 : y < 256 := by omega
   have b1 : b ≤ 24 := by omega
   refine .t 2 1 rfl rfl (.cv (((y : Nat) : Int)) rfl (by rw [IntKind.wrap_u8]; omega)) ?_
   refine .t 0 1 rfl rfl (.xs (UInt8.ofNat (blN y)) rfl rfl rfl is9 (by omega) (by rw [Int.toNat_natCast]; exact tab_at y1)) ?_
   refine .t 0 1 rfl rfl (.cv (((blN y : Nat) : Int)) rfl (by have := blN_lt (n := y) (k := 8) (by omega); rw [UInt8.toNat_ofNat', IntKind.wrap_i64]; omega)) ?_
   refine .t 0 1 rfl rfl (.bv (.int .i64 ((blN m : Nat) : Int)) rfl (congrArg _ (by have := blN_lt (n := y) (k := 8) (by omega); rw [e2, IntKind.wrap_i64]; omega))) ?_
   exact .z 1 1 rfl (TE.retf rfl rfl rfl (okv rfl))
  ·skip
   have h2 : ¬ (256 ≤ x) := by have q := of_decide_eq_false h4; (try dsimp only at q); omega
   obtain ⟨y, hy⟩ : ∃ n, n = x := ⟨_, rfl⟩
   refine TE.setv 0 (.int .u64 ((y : Nat) : Int)) rfl (by rw [hy]) ?_
   obtain ⟨b, hb⟩ : ∃ n, n = a := ⟨_, rfl⟩
   refine TE.setv 2 (.int .i64 ((b : Nat) : Int)) rfl (by rw [hb]) ?_
   have e2 : blN m = b + blN y := by rw [hy, hb, e1]
   have y1 : y < 256 := by omega
   have b1 : b ≤ 24 := by omega
   refine .t 2 1 rfl rfl (.cv (((y : Nat) : Int)) rfl (by rw [IntKind.wrap_u8]; omega)) ?_
   refine .t 0 1 rfl rfl (.xs (UInt8.ofNat (blN y)) rfl rfl rfl is9 (by omega) (by rw [Int.toNat_natCast]; exact tab_at y1)) ?_
   refine .t 0 1 rfl rfl (.cv (((blN y : Nat) : Int)) rfl (by have := blN_lt (n := y) (k := 8) (by omega); rw [UInt8.toNat_ofNat', IntKind.wrap_i64]; omega)) ?_
   refine .t 0 1 rfl rfl (.bv (.int .i64 ((blN m : Nat) : Int)) rfl (congrArg _ (by have := blN_lt (n := y) (k := 8) (by omega); rw [e2, IntKind.wrap_i64]; omega))) ?_
   exact .z 1 1 rfl (TE.retf rfl rfl rfl (okv rfl))
theorem blen_pf (m : Nat) (hm : m < 4294967296) : PF Tryz.prog 87 [.v (.int .u64 ((m : Nat) : Int))] (.v (.int .i64 ((blN m : Nat) : Int))) := by
 refine PF.enter (fn := Tryz.f87) Tryz.func87 rfl Tryz.ntmps87 rfl (fun w0 => .w ?_)
 refine .q 1 1 rfl rfl (fun h1 => absurd h1 (by decide)) (fun h1 => ?_)
 refine .t 1 1 rfl rfl (.cf (len64_pf m hm) rfl) ?_
 exact .z 1 1 rfl (TE.retf rfl rfl rfl (okv rfl))
theorem split_pf (n : Nat) (hn : n ≤ 1073741825) : PF Tryz.prog 92 [.v (.int .i64 ((n : Nat) : Int))] (.v (.int .i64 ((splitN n : Nat) : Int))) := by
 refine PF.enter (fn := Tryz.f92) Tryz.func92 rfl Tryz.ntmps92 rfl (fun w0 => .w ?_)
 refine .q 3 1 rfl rfl (fun h1 => ?_) (fun h1 => ?_)
 ·skip
  have h2 : n < 2 := by have q := of_decide_eq_true h1; (try dsimp only at q); omega
  have e : splitN n = 0 := splitN_lt h2
  rw [e]
  exact .z 1 1 rfl (TE.retf rfl rfl rfl (okv rfl))
 ·skip
  have h2 : ¬ (n < 2) := by have q := of_decide_eq_false h1; (try dsimp only at q); omega
  obtain ⟨e, hb1⟩ := split_bl (n := n) (by omega)
  obtain ⟨b, hb⟩ : ∃ b, b = blN (n - 1) := ⟨_, rfl⟩
  have hb2 : b ≤ 31 := by rw [hb]; exact blN_lt (k := 31) (by omega)
  rw [← hb] at e hb1
  have cB := blen_pf (n - 1) (by omega)
  rw [← hb] at cB
  have hpw : 2 ^ (b - 1) ≤ 1073741824 := Nat.le_trans (Nat.pow_le_pow_right (by decide) (by omega : b - 1 ≤ 30)) (by decide)
  refine .t 1 1 rfl rfl (.bv (.int .i64 ((n - 1 : Nat) : Int)) rfl (congrArg _ (by (try dsimp only); rw [IntKind.wrap_i64]; omega))) ?_
  refine .t 0 1 rfl rfl (.cv (((n - 1 : Nat) : Int)) rfl (by rw [IntKind.wrap_u64]; omega)) ?_
  refine .t 0 1 rfl rfl (.cf (cB) rfl) ?_
  refine .t 0 1 rfl rfl (.bv (.int .i64 ((b - 1 : Nat) : Int)) rfl (congrArg _ (by (try dsimp only); rw [IntKind.wrap_i64]; omega))) ?_
  refine .t 0 1 rfl rfl (.shl (((2 ^ (b - 1) : Nat) : Int)) rfl rfl rfl (by omega) (by rw [Int.toNat_natCast, show min (b - 1) IntKind.i64.bits = b - 1 from Nat.min_eq_left (by show b - 1 ≤ 64; omega), Int.one_mul, IntKind.wrap_i64, show ((2 : Int) ^ (b - 1)) = ((2 ^ (b - 1) : Nat) : Int) by simp]; omega)) ?_
  rw [e]
  exact .z 1 1 rfl (TE.retf rfl rfl rfl (okv rfl))
theorem ename_pf (x y : En) : PF Tryz.prog 53 [.ag x.dv, .ag y.dv] (.v (.int .i64 (cmpS x.nm y.nm))) := by
 refine PF.enter (fn := Tryz.f53) Tryz.func53 rfl Tryz.ntmps53 rfl (fun w0 => .w ?_)
 refine .t 7 1 rfl rfl (.cf (cmp_s _ _) rfl) ?_
 exact .z 1 3 rfl (TE.retf rfl rfl rfl trivial)
theorem inse_pm (xs : List En) (hx : xs.length ≤ 1048576) : PM Tryz.prog 117 [.ow 0 xs.length 3, .d (.v (.int .i64 0)), .d (.v (.int .i64 ((xs.length : Nat) : Int))), .d (.fn (.func 53) [] [])] (.mrow 0 38 3 ((xs).flatMap En.dv)) (.mrow 0 38 3 ((byN xs).flatMap En.dv)) (.d (.tp [])) := by
 refine PM.enter (fn := Tryz.f117) Tryz.func117 rfl Tryz.ntmps117 rfl rfl rfl (fun w0 K0 ob => .w ?_)
 refine .g 3 1 rfl ?_
 refine TE.setv 8 (.int .i64 ((1 : Nat) : Int)) rfl rfl ?_
 refine TE.obj 0 (.mrow 0 38 3 ((byN (xs.take (1)) ++ xs.drop (1)).flatMap En.dv)) rfl (by rw [byN_one]) ?_
 refine .lo (T := Nat) 0 1 rfl (fun i => 1 ≤ i) (fun i => xs.length - i) [0, 1, 2, 3] [] (fun i => [(8, .d (.v (.int .i64 ((i : Nat) : Int))))]) (fun i => [(0, .mrow 0 38 3 ((byN (xs.take (i)) ++ xs.drop (i)).flatMap En.dv))]) (1) rfl rfl (Nat.le_refl _) rfl rfl rfl (fun i hI => ?_)
 refine .q 3 1 rfl rfl (fun h1 => ?_) (fun h1 => ?_)
 ·skip
  have hi : i < xs.length := by have q := of_decide_eq_true h1; (try dsimp only at q); omega
  obtain ⟨o, ho⟩ : ∃ o, o = byN (xs.take i) := ⟨_, rfl⟩
  have hol : o.length = i := by rw [ho, byN_len, List.length_take]; omega
  obtain ⟨e, he⟩ : ∃ e, e = xs[i] := ⟨_, rfl⟩
  obtain ⟨r, hr⟩ : ∃ r, r = xs.drop (i + 1) := ⟨_, rfl⟩
  have hrl : r.length = xs.length - (i + 1) := by rw [hr, List.length_drop]
  refine TE.obj 0 (.mrow 0 38 3 ((insJ o e r (i)).flatMap En.dv)) rfl (by rw [ho, he, hr, ← insJ_top hi]) ?_
  refine .lo (T := Nat) 2 1 rfl (fun j => j ≤ i ∧ ∀ m (hm : m < o.length), j ≤ m → leN o[m].nm e.nm = false) (fun j => j) [0, 1, 2, 3] [] (fun j => [(8, .d (.v (.int .i64 ((i : Nat) : Int)))), (9, .d (.v (.int .i64 ((j : Nat) : Int))))]) (fun j => [(0, .mrow 0 38 3 ((insJ o e r (j)).flatMap En.dv))]) (i) rfl rfl ⟨Nat.le_refl _, fun m hm h => absurd hm (by omega)⟩ rfl rfl rfl (fun j hI => ?_)
  obtain ⟨hji, hgt⟩ := hI
  have hyl : (insJ o e r (j)).length = xs.length := by rw [insJ_len (by omega), hrl]; omega
  obtain ⟨ys, hys⟩ : ∃ ys, ys = insJ o e r (j) := ⟨_, rfl⟩
  rw [← hys] at hyl ⊢
  by_cases hja : 0 < j
  ·skip
   have hjl : j < ys.length := by omega
   have hjp : j - 1 < ys.length := by omega
   have hpo : j - 1 < o.length := by omega
   have ya : ys[j] = e := by subst hys; exact insJ_at (by omega) _
   have yb : ys[j - 1] = o[j - 1] := by subst hys; exact insJ_pre (by omega) hja _
   by_cases hlt : Op.bytesLess e.nm o[j - 1].nm = true
   ·skip
    refine .d 0 1 rfl ?_
    refine .v 2 1 [] rfl rfl (fun _ _ => .bv (.bool true) rfl (congrArg Value.bool (decide_eq_true (by omega)))) ?_
    refine .v 4 1 [0] rfl rfl (fun _ _ => .ixo rfl (Int.natCast_nonneg _) (by omega)) ?_
    refine .v 0 1 [0] rfl rfl (fun _ _ => .ldpm rfl rfl rfl rfl (flat_at en_len ys (hjl)) (en_len _) tk38) ?_
    refine .v 2 1 [] rfl rfl (fun _ _ => .bv (.int .i64 ((j - 1 : Nat) : Int)) rfl (congrArg _ (wrap_pred (by omega) (by omega)))) ?_
    refine .v 0 1 [0] rfl rfl (fun _ _ => .ixo rfl (Int.natCast_nonneg _) (by omega)) ?_
    refine .v 0 1 [0] rfl rfl (fun _ _ => .ldpm rfl rfl rfl rfl (flat_at en_len ys (hjp)) (en_len _) tk38) ?_
    refine .v 0 1 [] rfl rfl (fun _ _ => .callvf0 rfl rfl cf53 rfl ⟨trivial, trivial, trivial⟩ (ename_pf ys[j] ys[j - 1])) ?_
    refine .v 0 1 [] rfl rfl (fun _ _ => .bv (.bool true) rfl (congrArg Value.bool (by rw [cmpS_dec, ya, yb, hlt]))) ?_
    refine .y 1 1 rfl (by kernel_rfl) ?_
    refine .d 1 1 rfl ?_
    refine .v 4 1 [] rfl rfl (fun _ _ => .bv (.int .i64 ((j - 1 : Nat) : Int)) rfl (congrArg _ (wrap_pred (by omega) (by omega)))) ?_
    refine .v 2 1 [] rfl rfl (fun _ _ => .bv (.int .i64 ((j - 1 : Nat) : Int)) rfl (congrArg _ (wrap_pred (by omega) (by omega)))) ?_
    refine .v 0 1 [0] rfl rfl (fun _ _ => .ixo rfl (Int.natCast_nonneg _) (by omega)) ?_
    refine .v 0 1 [0] rfl rfl (fun _ _ => .ldpm rfl rfl rfl rfl (flat_at en_len ys (hjp)) (en_len _) tk38) ?_
    refine .v 2 1 [0] rfl rfl (fun _ _ => .ixo rfl (Int.natCast_nonneg _) (by omega)) ?_
    refine .v 0 1 [0] rfl rfl (fun _ _ => .ldpm rfl rfl rfl rfl (flat_at en_len ys (hjl)) (en_len _) tk38) ?_
    refine .v 0 1 [0] rfl rfl (fun _ _ => .ixo rfl (Int.natCast_nonneg _) (by omega)) ?_
    refine .t 0 1 (E := ⟨none, [(0, _)]⟩) [0] rfl rfl (fun _ _ => .storerm (xs := ys) (enc := En.dv) (ys[j - 1]) rfl rfl rfl rfl rfl rfl (fun _ => rfl) sz38 rfl (hjl)) ?_
    refine .v 0 1 [0] rfl rfl (fun _ _ => .ixo rfl (Int.natCast_nonneg _) (by omega)) ?_
    refine .t 0 1 (E := ⟨none, [(0, _)]⟩) [0] rfl rfl (fun _ _ => .storerm (xs := ys.set j ys[j - 1]) (enc := En.dv) (ys[j]) rfl rfl rfl rfl rfl rfl (fun _ => rfl) sz38 rfl (by rw [List.length_set]; exact hjp)) ?_
    refine .y 0 1 rfl (by kernel_rfl) ?_
    refine .t 1 1 rfl rfl (.bv (.int .i64 ((j - 1 : Nat) : Int)) rfl (congrArg _ (wrap_pred (by omega) (by omega)))) ?_
    refine .g 1 1 rfl ?_
    refine TE.obj 0 (.mrow 0 38 3 ((insJ o e r (j - 1)).flatMap En.dv)) rfl (by rw [ya, yb, hys, insJ_swap (by omega) hja hpo]) ?_
    refine TE.setv 9 (.int .i64 ((j - 1 : Nat) : Int)) rfl (congrArg _ (by first | rfl | (dsimp only; first | done | rfl | omega))) ?_
    exact .rd 0 1 id (fun _ _ e => e) rfl (j - 1) ⟨by omega, fun m hm h => (Nat.lt_or_ge m j).elim (fun q => by have q2 : m = j - 1 := (by omega); subst q2; exact leN_less hlt) (hgt m hm)⟩ (by omega) rfl rfl rfl
   ·skip
    have hd : ys = byN (xs.take (i + 1)) ++ xs.drop (i + 1) := by rw [hys, ho, he, hr]; exact insJ_done hi hji (by rw [← ho, ← he]; exact hgt) (fun _ _ => by subst ho he; exact leN_not_less ((Bool.not_eq_true _).mp hlt))
    refine .d 0 1 rfl ?_
    refine .v 2 1 [] rfl rfl (fun _ _ => .bv (.bool true) rfl (congrArg Value.bool (decide_eq_true (by omega)))) ?_
    refine .v 4 1 [0] rfl rfl (fun _ _ => .ixo rfl (Int.natCast_nonneg _) (by omega)) ?_
    refine .v 0 1 [0] rfl rfl (fun _ _ => .ldpm rfl rfl rfl rfl (flat_at en_len ys (hjl)) (en_len _) tk38) ?_
    refine .v 2 1 [] rfl rfl (fun _ _ => .bv (.int .i64 ((j - 1 : Nat) : Int)) rfl (congrArg _ (wrap_pred (by omega) (by omega)))) ?_
    refine .v 0 1 [0] rfl rfl (fun _ _ => .ixo rfl (Int.natCast_nonneg _) (by omega)) ?_
    refine .v 0 1 [0] rfl rfl (fun _ _ => .ldpm rfl rfl rfl rfl (flat_at en_len ys (hjp)) (en_len _) tk38) ?_
    refine .v 0 1 [] rfl rfl (fun _ _ => .callvf0 rfl rfl cf53 rfl ⟨trivial, trivial, trivial⟩ (ename_pf ys[j] ys[j - 1])) ?_
    refine .v 0 1 [] rfl rfl (fun _ _ => .bv (.bool false) rfl (congrArg Value.bool (by rw [cmpS_dec, ya, yb]; exact (Bool.not_eq_true _).mp hlt))) ?_
    refine .y 1 1 rfl (by kernel_rfl) ?_
    refine .g 1 1 rfl ?_
    refine TE.obj 0 (.mrow 0 38 3 ((byN (xs.take (i + 1)) ++ xs.drop (i + 1)).flatMap En.dv)) rfl (by rw [hd]) ?_
    refine .t 1 1 rfl rfl (.bv (.int .i64 ((i + 1 : Nat) : Int)) rfl (congrArg _ (by (try dsimp only); rw [IntKind.wrap_i64]; omega))) ?_
    refine .g 1 1 rfl ?_
    refine TE.setv 8 (.int .i64 ((i + 1 : Nat) : Int)) rfl (congrArg _ (by first | rfl | (dsimp only; first | done | rfl | omega))) ?_
    exact .rd 0 1 id (fun _ _ e => e) rfl (i + 1) (by omega) (by omega) rfl rfl rfl
  ·skip
   have hd : ys = byN (xs.take (i + 1)) ++ xs.drop (i + 1) := by rw [hys, ho, he, hr]; exact insJ_done hi hji (by rw [← ho, ← he]; exact hgt) (fun _ h => absurd h hja)
   refine .d 0 1 rfl ?_
   refine .v 2 1 [] rfl rfl (fun _ _ => .bv (.bool false) rfl (congrArg Value.bool (decide_eq_false (by omega)))) ?_
   refine .y 14 1 rfl (by kernel_rfl) ?_
   refine .g 1 1 rfl ?_
   refine TE.obj 0 (.mrow 0 38 3 ((byN (xs.take (i + 1)) ++ xs.drop (i + 1)).flatMap En.dv)) rfl (by rw [hd]) ?_
   refine .t 1 1 rfl rfl (.bv (.int .i64 ((i + 1 : Nat) : Int)) rfl (congrArg _ (by (try dsimp only); rw [IntKind.wrap_i64]; omega))) ?_
   refine .g 1 1 rfl ?_
   refine TE.setv 8 (.int .i64 ((i + 1 : Nat) : Int)) rfl (congrArg _ (by first | rfl | (dsimp only; first | done | rfl | omega))) ?_
   exact .rd 0 1 id (fun _ _ e => e) rfl (i + 1) (by omega) (by omega) rfl rfl rfl
 ·skip
  have hi : ¬ (i < xs.length) := by have q := of_decide_eq_false h1; (try dsimp only at q); omega
  have e : byN (xs.take (i)) ++ xs.drop (i) = byN xs := by rw [List.take_of_length_le (by omega), List.drop_eq_nil_of_le (by omega), List.append_nil]
  refine TE.obj 0 (.mrow 0 38 3 ((byN xs).flatMap En.dv)) rfl (by rw [e]) ?_
  exact .z 0 1 rfl (TE.retm0 0 rfl rfl rfl)
theorem pdqe_pm (xs : List En) (lim : Int) (hx : xs.length ≤ 12) : PM Tryz.prog 86 [.ow 0 xs.length 3, .d (.v (.int .i64 0)), .d (.v (.int .i64 ((xs.length : Nat) : Int))), .d (.v (.int .i64 lim)), .d (.fn (.func 53) [] [])] (.mrow 0 38 3 ((xs).flatMap En.dv)) (.mrow 0 38 3 ((byN xs).flatMap En.dv)) (.d (.tp [])) := by
 refine PM.enter (fn := Tryz.f86) Tryz.func86 rfl Tryz.ntmps86 rfl rfl rfl (fun w0 K0 ob => .w ?_)
 refine .lo (T := Nat) 2 1 rfl (fun i => True) (fun i => 0) [0, 1, 2, 3, 4] [] (fun i => []) (fun i => [(0, .mrow 0 38 3 ((xs).flatMap En.dv))]) (0) rfl rfl (by trivial) rfl rfl rfl (fun i hI => ?_)
 refine .t 2 1 rfl rfl (.bv (.int .i64 ((xs.length : Nat) : Int)) rfl (congrArg _ (by (try dsimp only); rw [IntKind.wrap_i64]; omega))) ?_
 refine .q 3 1 rfl rfl (fun h1 => ?_) (fun h1 => absurd (of_decide_eq_false h1) (by omega))
 refine .t 4 1 rfl rfl (.cm 0 (.mrow 0 38 3 ((byN xs).flatMap En.dv)) rfl (inse_pm xs (by omega)) rfl) ?_
 exact .z 0 1 rfl (TE.retm0 0 rfl rfl rfl)
theorem sorte_pm (xs : List En) (hx : xs.length ≤ 12) : PM Tryz.prog 52 [.ow 0 xs.length 3, .d (.fn (.func 53) [] [])] (.mrow 0 38 3 ((xs).flatMap En.dv)) (.mrow 0 38 3 ((byN xs).flatMap En.dv)) (.d (.tp [])) := by
 refine PM.enter (fn := Tryz.f52) Tryz.func52 rfl Tryz.ntmps52 rfl rfl rfl (fun w0 K0 ob => .w ?_)
 refine .t 6 1 rfl rfl (.cv (((xs.length : Nat) : Int)) rfl (by rw [IntKind.wrap_u64]; omega)) ?_
 refine .t 0 1 rfl rfl (.cf (blen_pf xs.length (by omega)) rfl) ?_
 refine .t 1 1 rfl rfl (.cm 0 (.mrow 0 38 3 ((byN xs).flatMap En.dv)) rfl (pdqe_pm xs _ hx) rfl) ?_
 exact .z 0 1 rfl (TE.retm0 0 rfl rfl rfl)
theorem cle_po (l : List En) (hl : l.length ≤ 1048576) : PO Tryz.prog 51 [slT En.dv 3 (l)] 38 3 l.length (l.flatMap En.dv) := by
 refine PO.enter (fn := Tryz.f51) Tryz.func51 rfl Tryz.ntmps51 rfl (fun w0 => .w ?_)
 refine .g 2 1 rfl ?_
 refine .eqnil rfl rfl rfl et23 (fun hn0 hc0 => ?_) ?_
 ·skip
  have e : l = [] := List.eq_nil_of_length_eq_zero hn0
  subst e
  refine .g 2 1 rfl ?_
  refine TE.own0 2 1 38 3 rfl rfl ?_
  exact .z 0 2 rfl (TE.retof rfl rfl rfl rfl (by decide) pl_nil)
 ·skip
  refine .t 1 2 rfl rfl (.buildsl0 2 rfl rfl ap23) ?_
  refine .t 1 3 rfl rfl (.ap 3 rfl rfl (flat_one (fun _ => rfl) l) (by omega) (by omega)) ?_
  refine .g 1 4 rfl ?_
  refine TE.set 2 (.ow 3 l.length 3) rfl (by rw [Nat.zero_add]) ?_
  refine TE.obj 3 (.row 38 3 (l.flatMap En.dv)) rfl rfl ?_
  exact .z 0 4 rfl (TE.retof rfl rfl rfl (flat_length (sz := 3) (enc := En.dv) (fun _ => rfl) _) (by decide) (pl_flat (fun x => pl_en x) _))
theorem join_po (ls : List (List UInt8)) (hl : totalLen ls ≤ 1099511627776) (hn : ls.length ≤ 1099511627776) : PO Tryz.prog 65 [slT ldv 1 ls] 5 1 ls.flatten.length (ls.flatten.flatMap bdv) := po_own1 fun w v hv => join_any v ls w (rdl_of_rep hv) hl hn
theorem msg_po (h : Hd) : PO Tryz.prog 37 [.ag h.dv] 5 1 (msgB h).length ((msgB h).flatMap bdv) := by
 refine PO.enter (fn := Tryz.f37) Tryz.func37 rfl Tryz.ntmps37 rfl (fun w0 => .w ?_)
 refine .g 2 1 rfl ?_
 refine TE.frzb 1 rfl rfl rfl rfl ?_
 refine .d 0 2 rfl ?_
 refine .t 0 2 (E := ⟨some (3, _), [(2, .dead)]⟩) [2] rfl rfl (fun _ _ => .letgo (.buildsl (ds := bdv 72) 2 rfl rfl rfl ap22 zc5 rfl rfl rfl) rfl rfl) ?_
 refine .v 2 3 [] rfl rfl (fun _ _ => .cv (u64w h.ep) rfl (rfl)) ?_
 refine .v 0 3 [] rfl rfl (fun _ _ => .cf (num_pf (u64w h.ep) (u64w_bd _).1 (u64w_bd _).2) rfl) ?_
 refine .v 2 3 [] rfl rfl (fun _ _ => .cv (u64w h.tk) rfl (rfl)) ?_
 refine .v 0 3 [] rfl rfl (fun _ _ => .cf (num_pf (u64w h.tk) (u64w_bd _).1 (u64w_bd _).2) rfl) ?_
 refine .v 2 3 [] rfl rfl (fun _ _ => .cv (u64w h.ct) rfl (rfl)) ?_
 refine .v 0 3 [] rfl rfl (fun _ _ => .cf (num_pf (u64w h.ct) (u64w_bd _).1 (u64w_bd _).2) rfl) ?_
 refine .t 4 3 (E := ⟨some (20, _), [(3, _)]⟩) [3] rfl rfl (fun _ _ => .ba 3 rfl) ?_
 refine .t 0 4 (E := ⟨some (21, _), [(4, _)]⟩) [3, 4] rfl rfl (fun _ _ => .co 4 (join_po (msgL h) (msgL_len h) (Nat.le_of_ble_eq_true rfl)) rfl) ?_
 refine .y 1 5 rfl (by kernel_rfl) ?_
 refine TE.obj 4 (.row 5 1 ((msgB h).flatMap bdv)) rfl rfl ?_
 refine TE.set 2 (.ow 4 (msgB h).length 1) rfl rfl ?_
 exact .z 0 5 rfl (TE.retof rfl rfl rfl (by rw [flat_length (sz := 1) (fun _ => rfl)]) (by decide) (pl_flat (fun b Y hY => by simp [bdv] at hY; subst hY; exact pl_v _) _))
end Go.Proofs.YtmjokdhhniblgaaGreat

