import Derived.Test.YtmjokdhhniblgaaGreatYQ3
import Derived.Test.YtmjokdhhniblgaaGreatYEv
/-
  Items compared. The library's insertion sort. The library's rotation. The library's merging of neighbours. The library's stable sort. Turned round; clipped. Leaves, nodes, nothing: both sides.
-/
namespace Go.Proofs.YtmjokdhhniblgaaGreat
set_option linter.unusedVariables false
set_option linter.unusedSimpArgs false
open Go.RowKit Pl
set_option maxRecDepth 100000
set_option maxHeartbeats 3200000
theorem ar26 : arr Tryz.prog 26 = some (32, 1) := by kernel_rfl
theorem bcmp_pf (l m : List UInt8) : PF Tryz.prog 168 [slT bdv 1 l, slT bdv 1 m] (.v (.int .i64 (Lib.compareBytes l m))) := by
 refine PF.enter (fn := Tryz.f168) Tryz.func168 rfl Tryz.ntmps168 rfl (fun w0 => .w ?_)
 refine .t 3 1 rfl rfl (.cmpb rfl Tryz.func179 (by kernel_rfl) (by kernel_rfl) (by kernel_rfl) (by kernel_rfl) rfl ⟨trivial, trivial, trivial⟩) ?_
 exact .z 1 1 rfl (TE.retf rfl rfl rfl trivial)
theorem before_pf (x y : It) : PF Tryz.prog 135 [.ag x.dv, .ag y.dv] (.v (.int .i64 (cmpIt x y))) := by
 refine PF.enter (fn := Tryz.f135) Tryz.func135 rfl Tryz.ntmps135 rfl (fun w0 => .w ?_)
 refine .d 3 1 rfl ?_
 refine .v 1 3 [1] rfl rfl (fun _ _ => .slicep rfl rfl rfl rfl ar26 rfl rfl (by decide) (by decide) (by decide) (by decide) (Nat.le_of_ble_eq_true rfl) (by decide)) ?_
 refine .v 1 3 [2] rfl rfl (fun _ _ => .slicep rfl rfl rfl rfl ar26 rfl rfl (by decide) (by decide) (by decide) (by decide) (Nat.le_of_ble_eq_true rfl) (by decide)) ?_
 refine .v 0 3 [1, 2] rfl rfl (fun _ _ => .cf (bcmp_pf (H.l x.ix) (H.l y.ix)) rfl) ?_
 refine .y 1 3 rfl (by kernel_rfl) ?_
 exact .z 0 3 rfl (TE.retf rfl rfl rfl trivial)
theorem cf135 : cfn Tryz.prog 135 = true := by kernel_rfl
theorem sz86 : szt Tryz.prog 86 = some 64 := by kernel_rfl
theorem tk86 : tyk Tryz.prog 86 = some (some 64) := by kernel_rfl
theorem ins_pm (xs : List It) (a b : Nat) (hb : b ≤ xs.length) (hab : a ≤ b) (hx : xs.length ≤ 140737488355328) : PM Tryz.prog 177 [.ow 0 xs.length 64, .d (.v (.int .i64 a)), .d (.v (.int .i64 b)), .d (.fn (.func 135) [] [])] (.mrow 0 86 64 ((xs).flatMap It.dv)) (.mrow 0 86 64 ((insS xs a b).flatMap It.dv)) (.d (.tp [])) := by
 refine PM.enter (fn := Tryz.f177) Tryz.func177 rfl Tryz.ntmps177 rfl rfl rfl (fun w0 K0 ob => .w ?_)
 refine .t 1 1 rfl rfl (.bv (.int .i64 ((a + 1 : Nat) : Int)) rfl (congrArg _ (by rw [IntKind.wrap_i64]; omega))) ?_
 refine .lo (T := Nat × List It) 1 1 rfl (fun s => s.2.length = xs.length ∧ a + 1 ≤ s.1 ∧ insN (b - s.1) s.2 a s.1 = insS xs a b) (fun s => b - s.1) [0, 1, 2, 3] [] (fun s => [(8, .f (.v (.int .i64 s.1)))]) (fun s => [(0, .mrow 0 86 64 ((s.2).flatMap It.dv))]) ((a + 1, xs)) rfl rfl ⟨rfl, Nat.le_refl _, rfl⟩ rfl rfl rfl (fun s hI => ?_)
 obtain ⟨i, zs⟩ := s
 obtain ⟨i1, i2, i3⟩ := hI
 have i1 : zs.length = xs.length := i1
 have i2 : a + 1 ≤ i := i2
 have i3 : insN (b - i) zs a i = insS xs a b := i3
 refine .q 3 1 rfl rfl (fun h1 => ?_) (fun h1 => ?_)
 ·skip
  have hib : i < b := by have q : (i : Int) < (b : Int) := of_decide_eq_true h1; omega
  refine .lo (T := Nat × List It) 2 1 rfl (fun s => s.2.length = xs.length ∧ s.1 ≤ i ∧ insDown s.1 s.2 a = insDown i zs a) (fun s => s.1) [0, 1, 2, 3] [] (fun s => [(8, .f (.v (.int .i64 i))), (9, .f (.v (.int .i64 s.1)))]) (fun s => [(0, .mrow 0 86 64 ((s.2).flatMap It.dv))]) ((i, zs)) rfl rfl ⟨i1, Nat.le_refl _, rfl⟩ rfl rfl rfl (fun s hI => ?_)
  obtain ⟨j, ys⟩ := s
  obtain ⟨j1, j2, j3⟩ := hI
  have j1 : ys.length = xs.length := j1
  have j2 : j ≤ i := j2
  have j3 : insDown j ys a = insDown i zs a := j3
  by_cases hja : a < j
  ·skip
   have hjl : j < ys.length := by omega
   have hjp : j - 1 < ys.length := by omega
   by_cases hlt : ltI ys[j] ys[j - 1] = true
   ·skip
    have hlt2 : ltI (at_ ys j) (at_ ys (j - 1)) = true := by rw [at_eq hjl, at_eq hjp]; exact hlt
    refine .d 0 1 rfl ?_
    refine .v 2 1 [] rfl rfl (fun _ _ => .bv (.bool true) rfl (congrArg Value.bool (decide_eq_true (by omega)))) ?_
    refine .v 4 1 [0] rfl rfl (fun _ _ => .ixo rfl (Int.natCast_nonneg _) (by omega)) ?_
    refine .v 0 1 [0] rfl rfl (fun _ _ => .ldpm rfl rfl rfl rfl (flat_at it_len ys (hjl)) (it_len _) tk86) ?_
    refine .v 2 1 [] rfl rfl (fun _ _ => .bv (.int .i64 ((j - 1 : Nat) : Int)) rfl (congrArg _ (wrap_pred (by omega) (by omega)))) ?_
    refine .v 0 1 [0] rfl rfl (fun _ _ => .ixo rfl (Int.natCast_nonneg _) (by omega)) ?_
    refine .v 0 1 [0] rfl rfl (fun _ _ => .ldpm rfl rfl rfl rfl (flat_at it_len ys (hjp)) (it_len _) tk86) ?_
    refine .v 0 1 [] rfl rfl (fun _ _ => .callvf0 rfl rfl cf135 rfl ⟨trivial, trivial, trivial⟩ (before_pf ys[j] ys[j - 1])) ?_
    refine .v 0 1 [] rfl rfl (fun _ _ => .bv (.bool true) rfl (by rw [cmpIt_dec, hlt])) ?_
    refine .y 1 1 rfl (by kernel_rfl) ?_
    refine .d 1 1 rfl ?_
    refine .v 4 1 [] rfl rfl (fun _ _ => .bv (.int .i64 ((j - 1 : Nat) : Int)) rfl (congrArg _ (wrap_pred (by omega) (by omega)))) ?_
    refine .v 2 1 [] rfl rfl (fun _ _ => .bv (.int .i64 ((j - 1 : Nat) : Int)) rfl (congrArg _ (wrap_pred (by omega) (by omega)))) ?_
    refine .v 0 1 [0] rfl rfl (fun _ _ => .ixo rfl (Int.natCast_nonneg _) (by omega)) ?_
    refine .v 0 1 [0] rfl rfl (fun _ _ => .ldpm rfl rfl rfl rfl (flat_at it_len ys (hjp)) (it_len _) tk86) ?_
    refine .v 2 1 [0] rfl rfl (fun _ _ => .ixo rfl (Int.natCast_nonneg _) (by omega)) ?_
    refine .v 0 1 [0] rfl rfl (fun _ _ => .ldpm rfl rfl rfl rfl (flat_at it_len ys (hjl)) (it_len _) tk86) ?_
    refine .v 0 1 [0] rfl rfl (fun _ _ => .ixo rfl (Int.natCast_nonneg _) (by omega)) ?_
    refine .t 0 1 (E := ⟨none, [(0, _)]⟩) [0] rfl rfl (fun _ _ => .storerm (xs := ys) (enc := It.dv) (ys[j - 1]) rfl rfl rfl rfl rfl rfl (fun _ => rfl) sz86 rfl (hjl)) ?_
    refine .v 0 1 [0] rfl rfl (fun _ _ => .ixo rfl (Int.natCast_nonneg _) (by omega)) ?_
    refine .t 0 1 (E := ⟨none, [(0, _)]⟩) [0] rfl rfl (fun _ _ => .storerm (xs := ys.set j ys[j - 1]) (enc := It.dv) (ys[j]) rfl rfl rfl rfl rfl rfl (fun _ => rfl) sz86 rfl (by rw [List.length_set]; exact hjp)) ?_
    refine .y 0 1 rfl (by kernel_rfl) ?_
    refine .t 1 1 rfl rfl (.bv (.int .i64 ((j - 1 : Nat) : Int)) rfl (congrArg _ (wrap_pred (by omega) (by omega)))) ?_
    refine .g 1 1 rfl ?_
    refine TE.obj 0 (.mrow 0 86 64 ((swI ys j (j - 1)).flatMap It.dv)) rfl (by unfold swI; rw [at_eq hjl, at_eq hjp]) ?_
    exact .rd 0 1 id (fun _ _ e => e) rfl ((j - 1, swI ys j (j - 1))) ⟨by show (swI ys j (j - 1)).length = _; rw [swI_len]; exact j1, by show j - 1 ≤ i; omega, by show insDown (j - 1) (swI ys j (j - 1)) a = _; rw [← j3, insDown_step hja hlt2]⟩ (by show j - 1 < j; omega) rfl rfl rfl
   ·skip
    have hltf : ltI ys[j] ys[j - 1] = false := by simpa using hlt
    have hd : insDown i zs a = ys := by rw [← j3]; exact insDown_stop (fun q => hlt (by rw [at_eq hjl, at_eq hjp] at q; exact q.2))
    refine .d 0 1 rfl ?_
    refine .v 2 1 [] rfl rfl (fun _ _ => .bv (.bool true) rfl (congrArg Value.bool (decide_eq_true (by omega)))) ?_
    refine .v 4 1 [0] rfl rfl (fun _ _ => .ixo rfl (Int.natCast_nonneg _) (by omega)) ?_
    refine .v 0 1 [0] rfl rfl (fun _ _ => .ldpm rfl rfl rfl rfl (flat_at it_len ys (hjl)) (it_len _) tk86) ?_
    refine .v 2 1 [] rfl rfl (fun _ _ => .bv (.int .i64 ((j - 1 : Nat) : Int)) rfl (congrArg _ (wrap_pred (by omega) (by omega)))) ?_
    refine .v 0 1 [0] rfl rfl (fun _ _ => .ixo rfl (Int.natCast_nonneg _) (by omega)) ?_
    refine .v 0 1 [0] rfl rfl (fun _ _ => .ldpm rfl rfl rfl rfl (flat_at it_len ys (hjp)) (it_len _) tk86) ?_
    refine .v 0 1 [] rfl rfl (fun _ _ => .callvf0 rfl rfl cf135 rfl ⟨trivial, trivial, trivial⟩ (before_pf ys[j] ys[j - 1])) ?_
    refine .v 0 1 [] rfl rfl (fun _ _ => .bv (.bool false) rfl (by rw [cmpIt_dec, hltf])) ?_
    refine .y 1 1 rfl (by kernel_rfl) ?_
    refine .t 2 1 rfl rfl (.bv (.int .i64 ((i + 1 : Nat) : Int)) rfl (congrArg _ (wrap_succ hib (by omega)))) ?_
    exact .rd 1 1 id (fun _ _ e => e) rfl ((i + 1, ys)) ⟨j1, by show a + 1 ≤ i + 1; omega, by show insN (b - (i + 1)) ys a (i + 1) = _; rw [← i3, show b - i = (b - (i + 1)) + 1 by omega, insN, hd]⟩ (by show b - (i + 1) < b - i; omega) rfl rfl rfl
  ·skip
   have hd : insDown i zs a = ys := by rw [← j3]; exact insDown_stop (fun q => hja q.1)
   refine .d 0 1 rfl ?_
   refine .v 2 1 [] rfl rfl (fun _ _ => .bv (.bool false) rfl (congrArg Value.bool (decide_eq_false (by omega)))) ?_
   refine .y 14 1 rfl (by kernel_rfl) ?_
   refine .t 2 1 rfl rfl (.bv (.int .i64 ((i + 1 : Nat) : Int)) rfl (congrArg _ (wrap_succ hib (by omega)))) ?_
   exact .rd 1 1 id (fun _ _ e => e) rfl ((i + 1, ys)) ⟨j1, by show a + 1 ≤ i + 1; omega, by show insN (b - (i + 1)) ys a (i + 1) = _; rw [← i3, show b - i = (b - (i + 1)) + 1 by omega, insN, hd]⟩ (by show b - (i + 1) < b - i; omega) rfl rfl rfl
 ·skip
  have hib : ¬ i < b := by have q : ¬ ((i : Int) < (b : Int)) := of_decide_eq_false h1; omega
  rw [show b - i = 0 by omega] at i3
  have e : zs = insS xs a b := i3
  subst e
  exact .z 0 1 rfl (TE.retm0 0 rfl rfl rfl)
theorem swap_pm (xs : List It) (a b n : Nat) (ha : a + n ≤ xs.length) (hb : b + n ≤ xs.length) (hx : xs.length ≤ 1048576) : PM Tryz.prog 185 [.ow 0 xs.length 64, .d (.v (.int .i64 a)), .d (.v (.int .i64 b)), .d (.v (.int .i64 n)), .d (.fn (.func 135) [] [])] (.mrow 0 86 64 ((xs).flatMap It.dv)) (.mrow 0 86 64 ((swR n xs a b 0).flatMap It.dv)) (.d (.tp [])) := by
 refine PM.enter (fn := Tryz.f185) Tryz.func185 rfl Tryz.ntmps185 rfl rfl rfl (fun w0 K0 ob => .w ?_)
 refine .lo (T := Nat × List It) 1 1 rfl (fun s => s.2.length = xs.length ∧ s.1 ≤ n ∧ swR (n - s.1) s.2 a b s.1 = swR n xs a b 0) (fun s => n - s.1) [0, 1, 2, 3, 4] [] (fun s => [(10, .f (.v (.int .i64 s.1)))]) (fun s => [(0, .mrow 0 86 64 ((s.2).flatMap It.dv))]) ((0, xs)) rfl rfl ⟨rfl, Nat.zero_le _, rfl⟩ rfl rfl rfl (fun s hI => ?_)
 obtain ⟨i, ys⟩ := s
 obtain ⟨i1, i2, i3⟩ := hI
 have i1 : ys.length = xs.length := i1
 have i2 : i ≤ n := i2
 have i3 : swR (n - i) ys a b i = swR n xs a b 0 := i3
 refine .q 3 1 rfl rfl (fun h1 => ?_) (fun h1 => ?_)
 ·skip
  have hin : i < n := by have q : (i : Int) < (n : Int) := of_decide_eq_true h1; omega
  have hai : a + i < ys.length := by omega
  have hbi : b + i < ys.length := by omega
  refine .d 0 1 rfl ?_
  refine .v 3 1 [] rfl rfl (fun _ _ => .bv (.int .i64 ((a + i : Nat) : Int)) rfl (congrArg _ (by (try dsimp only); rw [IntKind.wrap_i64]; omega))) ?_
  refine .v 3 1 [] rfl rfl (fun _ _ => .bv (.int .i64 ((b + i : Nat) : Int)) rfl (congrArg _ (by (try dsimp only); rw [IntKind.wrap_i64]; omega))) ?_
  refine .v 3 1 [] rfl rfl (fun _ _ => .bv (.int .i64 ((b + i : Nat) : Int)) rfl (congrArg _ (by (try dsimp only); rw [IntKind.wrap_i64]; omega))) ?_
  refine .v 0 1 [0] rfl rfl (fun _ _ => .ixo rfl (Int.natCast_nonneg _) (by omega)) ?_
  refine .v 0 1 [0] rfl rfl (fun _ _ => .ldpm rfl rfl rfl rfl (flat_at it_len ys (hbi)) (it_len _) tk86) ?_
  refine .v 3 1 [] rfl rfl (fun _ _ => .bv (.int .i64 ((a + i : Nat) : Int)) rfl (congrArg _ (by (try dsimp only); rw [IntKind.wrap_i64]; omega))) ?_
  refine .v 0 1 [0] rfl rfl (fun _ _ => .ixo rfl (Int.natCast_nonneg _) (by omega)) ?_
  refine .v 0 1 [0] rfl rfl (fun _ _ => .ldpm rfl rfl rfl rfl (flat_at it_len ys (hai)) (it_len _) tk86) ?_
  refine .v 0 1 [0] rfl rfl (fun _ _ => .ixo rfl (Int.natCast_nonneg _) (by omega)) ?_
  refine .t 0 1 (E := ⟨none, [(0, _)]⟩) [0] rfl rfl (fun _ _ => .storerm (xs := ys) (enc := It.dv) (ys[b + i]) rfl rfl rfl rfl rfl rfl (fun _ => rfl) sz86 rfl (hai)) ?_
  refine .v 0 1 [0] rfl rfl (fun _ _ => .ixo rfl (Int.natCast_nonneg _) (by omega)) ?_
  refine .t 0 1 (E := ⟨none, [(0, _)]⟩) [0] rfl rfl (fun _ _ => .storerm (xs := ys.set (a + i) ys[b + i]) (enc := It.dv) (ys[a + i]) rfl rfl rfl rfl rfl rfl (fun _ => rfl) sz86 rfl (by rw [List.length_set]; exact hbi)) ?_
  refine .y 0 1 rfl (by kernel_rfl) ?_
  refine .t 1 1 rfl rfl (.bv (.int .i64 ((i + 1 : Nat) : Int)) rfl (congrArg _ (by (try dsimp only); rw [IntKind.wrap_i64]; omega))) ?_
  refine .g 1 1 rfl ?_
  refine TE.obj 0 (.mrow 0 86 64 ((swI ys (a + i) (b + i)).flatMap It.dv)) rfl (by unfold swI; rw [at_eq hai, at_eq hbi]) ?_
  exact .rd 0 1 id (fun _ _ e => e) rfl ((i + 1, swI ys (a + i) (b + i))) ⟨by show (swI ys (a + i) (b + i)).length = _; rw [swI_len]; exact i1, by show i + 1 ≤ n; omega, by show swR (n - (i + 1)) (swI ys (a + i) (b + i)) a b (i + 1) = _; rw [← i3, show n - i = (n - (i + 1)) + 1 by omega]; rfl⟩ (by show n - (i + 1) < n - i; omega) rfl rfl rfl
 ·skip
  have hin : ¬ i < n := by have q : ¬ ((i : Int) < (n : Int)) := of_decide_eq_false h1; omega
  rw [show n - i = 0 by omega] at i3
  have e : ys = swR n xs a b 0 := i3
  subst e
  exact .z 0 1 rfl (TE.retm0 0 rfl rfl rfl)
theorem rot_pm (xs : List It) (a m b : Nat) (ham : a < m) (hmb : m < b) (hb : b ≤ xs.length) (hx : xs.length ≤ 1048576) : PM Tryz.prog 183 [.ow 0 xs.length 64, .d (.v (.int .i64 a)), .d (.v (.int .i64 m)), .d (.v (.int .i64 b)), .d (.fn (.func 135) [] [])] (.mrow 0 86 64 ((xs).flatMap It.dv)) (.mrow 0 86 64 ((rotI xs a m b).flatMap It.dv)) (.d (.tp [])) := by
 refine PM.enter (fn := Tryz.f183) Tryz.func183 rfl Tryz.ntmps183 rfl rfl rfl (fun w0 K0 ob => .w ?_)
 refine .t 2 1 rfl rfl (.bv (.int .i64 ((m - a : Nat) : Int)) rfl (congrArg _ (by (try dsimp only); rw [IntKind.wrap_i64]; omega))) ?_
 refine .t 3 1 rfl rfl (.bv (.int .i64 ((b - m : Nat) : Int)) rfl (congrArg _ (by (try dsimp only); rw [IntKind.wrap_i64]; omega))) ?_
 refine .lo (T := Nat × Nat × Nat × List It) 1 1 rfl (fun s => s.2.2.2.length = xs.length ∧ 0 < s.2.1 ∧ 0 < s.2.2.1 ∧ s.2.1 + s.2.2.1 ≤ s.1 ∧ a + s.2.1 ≤ m ∧ m + s.2.2.1 ≤ b ∧ rotG s.1 s.2.2.2 m s.2.1 s.2.2.1 = rotI xs a m b) (fun s => s.2.1 + s.2.2.1) [0, 1, 2, 3, 4] [] (fun s => [(10, .f (.v (.int .i64 s.2.1))), (11, .f (.v (.int .i64 s.2.2.1)))]) (fun s => [(0, .mrow 0 86 64 ((s.2.2.2).flatMap It.dv))]) ((b - a, m - a, b - m, xs)) rfl rfl ⟨rfl, by show 0 < m - a; omega, by show 0 < b - m; omega, by show m - a + (b - m) ≤ b - a; omega, by show a + (m - a) ≤ m; omega, by show m + (b - m) ≤ b; omega, rfl⟩ rfl rfl rfl (fun s hI => ?_)
 obtain ⟨f, i, j, ys⟩ := s
 obtain ⟨i1, i2, i3, i4, i5, i6, i7⟩ := hI
 have i1 : ys.length = xs.length := i1
 have i2 : 0 < i := i2
 have i3 : 0 < j := i3
 have i4 : i + j ≤ f := i4
 have i5 : a + i ≤ m := i5
 have i6 : m + j ≤ b := i6
 have i7 : rotG f ys m i j = rotI xs a m b := i7
 refine .q 3 1 rfl rfl (fun h1 => ?_) (fun h1 => ?_)
 ·skip
  have hne : ¬ i = j := by have q : (!decide ((i : Int) = (j : Int))) = true := h1; simp at q; omega
  refine .q 3 1 rfl rfl (fun h2 => ?_) (fun h2 => ?_)
  ·skip
   have hgt : j < i := by have q : (j : Int) < (i : Int) := of_decide_eq_true h2; omega
   refine .t 3 1 rfl rfl (.bv (.int .i64 ((m - i : Nat) : Int)) rfl (congrArg _ (by (try dsimp only); rw [IntKind.wrap_i64]; omega))) ?_
   refine .t 3 1 rfl rfl (.cm 0 (.mrow 0 86 64 ((swR (j) ys (m - i) (m) 0).flatMap It.dv)) rfl (i1 ▸ swap_pm ys (m - i) (m) (j) (by omega) (by omega) (by omega)) rfl) ?_
   refine .t 2 1 rfl rfl (.bv (.int .i64 ((i - j : Nat) : Int)) rfl (congrArg _ (by (try dsimp only); rw [IntKind.wrap_i64]; omega))) ?_
   exact .rd 1 1 id (fun _ _ e => e) rfl ((f - 1, i - j, j, swR j ys (m - i) m 0)) ⟨by show (swR j ys (m - i) m 0).length = _; rw [swR_len]; exact i1, by show 0 < i - j; omega, i3, by show i - j + j ≤ f - 1; omega, by show a + (i - j) ≤ m; omega, i6, by show rotG (f - 1) (swR j ys (m - i) m 0) m (i - j) j = _; rw [← i7, rotG_gt (by omega) hne hgt]⟩ (by show i - j + j < i + j; omega) rfl rfl rfl
  ·skip
   have hgt : ¬ j < i := by have q : ¬ ((j : Int) < (i : Int)) := of_decide_eq_false h2; omega
   refine .t 3 1 rfl rfl (.bv (.int .i64 ((m - i : Nat) : Int)) rfl (congrArg _ (by (try dsimp only); rw [IntKind.wrap_i64]; omega))) ?_
   refine .t 2 1 rfl rfl (.bv (.int .i64 ((m + j : Nat) : Int)) rfl (congrArg _ (by (try dsimp only); rw [IntKind.wrap_i64]; omega))) ?_
   refine .t 1 1 rfl rfl (.bv (.int .i64 ((m + j - i : Nat) : Int)) rfl (congrArg _ (by (try dsimp only); rw [IntKind.wrap_i64]; omega))) ?_
   refine .t 2 1 rfl rfl (.cm 0 (.mrow 0 86 64 ((swR (i) ys (m - i) (m + j - i) 0).flatMap It.dv)) rfl (i1 ▸ swap_pm ys (m - i) (m + j - i) (i) (by omega) (by omega) (by omega)) rfl) ?_
   refine .t 2 1 rfl rfl (.bv (.int .i64 ((j - i : Nat) : Int)) rfl (congrArg _ (by (try dsimp only); rw [IntKind.wrap_i64]; omega))) ?_
   exact .rd 1 1 id (fun _ _ e => e) rfl ((f - 1, i, j - i, swR i ys (m - i) (m + j - i) 0)) ⟨by show (swR i ys (m - i) (m + j - i) 0).length = _; rw [swR_len]; exact i1, i2, by show 0 < j - i; omega, by show i + (j - i) ≤ f - 1; omega, i5, by show m + (j - i) ≤ b; omega, by show rotG (f - 1) (swR i ys (m - i) (m + j - i) 0) m i (j - i) = _; rw [← i7, rotG_lt (by omega) hne hgt]⟩ (by show i + (j - i) < i + j; omega) rfl rfl rfl
 ·skip
  have heq : i = j := by have q : (!decide ((i : Int) = (j : Int))) = false := h1; simp at q; omega
  have e : rotI xs a m b = swR i ys (m - i) m 0 := by rw [← i7, rotG_eq (by omega) heq]
  rw [e]
  refine .t 3 1 rfl rfl (.bv (.int .i64 ((m - i : Nat) : Int)) rfl (congrArg _ (by (try dsimp only); rw [IntKind.wrap_i64]; omega))) ?_
  refine .t 3 1 rfl rfl (.cm 0 (.mrow 0 86 64 ((swR (i) ys (m - i) (m) 0).flatMap It.dv)) rfl (i1 ▸ swap_pm ys (m - i) (m) (i) (by omega) (by omega) (by omega)) rfl) ?_
  exact .z 0 1 rfl (TE.retm0 0 rfl rfl rfl)
theorem cf178 : cfn Tryz.prog 178 = true := by kernel_rfl
theorem cf183 : cfn Tryz.prog 183 = true := by kernel_rfl
theorem et66 : elt Tryz.prog 66 = some (86, 64) := by kernel_rfl
theorem mixed : Tryz.prog.follows .mixedOrders = true := by kernel_rfl
theorem uk3 : ukd Tryz.prog 3 = some .i64 := by kernel_rfl
theorem uk97 : ukd Tryz.prog 97 = some .u64 := by kernel_rfl
set_option maxRecDepth 100000 in
set_option maxHeartbeats 32000000 in
theorem sym_step (n : Nat) (ih : ∀ (xs : List It) (a m b : Nat), a < m → m < b → b ≤ xs.length → xs.length ≤ 1048576 → b - a ≤ n → PM Tryz.prog 178 [.ow 0 xs.length 64, .d (.v (.int .i64 a)), .d (.v (.int .i64 m)), .d (.v (.int .i64 b)), .d (.fn (.func 135) [] [])] (.mrow 0 86 64 ((xs).flatMap It.dv)) (.mrow 0 86 64 ((symM n xs a m b).flatMap It.dv)) (.d (.tp []))) (xs : List It) (a m b : Nat) (ham : a < m) (hmb : m < b) (hb : b ≤ xs.length) (hx : xs.length ≤ 1048576) (hn : b - a ≤ n + 1) : PM Tryz.prog 178 [.ow 0 xs.length 64, .d (.v (.int .i64 a)), .d (.v (.int .i64 m)), .d (.v (.int .i64 b)), .d (.fn (.func 135) [] [])] (.mrow 0 86 64 ((xs).flatMap It.dv)) (.mrow 0 86 64 ((symM (n + 1) xs a m b).flatMap It.dv)) (.d (.tp [])) := by
  refine PM.enter (fn := Tryz.f178) Tryz.func178 rfl Tryz.ntmps178 rfl rfl rfl (fun w0 K0 ob => ?_)
  refine .seq ?_
  refine .seq ?_
  refine .region ?_
  refine .step rfl (.move rfl rfl) ?_
  refine .step rfl (.move rfl rfl) ?_
  refine .step rfl (.binv (.int .i64 ((m - a : Nat) : Int)) rfl rfl rfl rfl (congrArg _ (by (try dsimp only); rw [IntKind.wrap_i64]; omega))) ?_
  refine .step rfl (.bin rfl rfl rfl rfl) ?_
  refine .nil ?_
  refine .next ?_
  refine .cond rfl (fun h1 => ?_) (fun h1 => ?_)
  ·skip
   have hm1 : m - a = 1 := by have q := of_decide_eq_true h1; omega
   have e : symM (n + 1) xs a m b = symA xs a m b := by unfold symM; rw [if_pos hm1]
   rw [e]
   refine .seq ?_
   refine .region ?_
   refine .step rfl (.move rfl rfl) ?_
   refine .step rfl (.assign rfl rfl) ?_
   refine .nil ?_
   refine .next ?_
   refine .seq ?_
   refine .region ?_
   refine .step rfl (.move rfl rfl) ?_
   refine .step rfl (.assign rfl rfl) ?_
   refine .nil ?_
   refine .next ?_
   refine .seq ?_
   refine .block ?_
   refine TC.loop (S := Nat × Nat × Nat) (fun s => m ≤ s.2.1 ∧ s.2.1 ≤ s.2.2 ∧ s.2.2 ≤ b ∧ s.2.2 - s.2.1 ≤ s.1 ∧ bsP (fun h => ltI (at_ xs h) (at_ xs a)) s.1 s.2.1 s.2.2 = bsP (fun h => ltI (at_ xs h) (at_ xs a)) (b - m) m b) (fun s => s.2.2 - s.2.1) (fun s => [(0, .ow 0 xs.length 64), (1, .d (.v (.int .i64 a))), (2, .d (.v (.int .i64 m))), (3, .d (.v (.int .i64 b))), (4, .d (.fn (.func 135) [] [])), (10, .d (.v (.int .i64 ((s.2.1 : Nat) : Int)))), (11, .d (.v (.int .i64 ((s.2.2 : Nat) : Int))))]) (fun s => [(0, .mrow 0 86 64 ((xs).flatMap It.dv))]) ((b - m, m, b)) ⟨Nat.le_refl _, by show m ≤ b; omega, Nat.le_refl _, Nat.le_refl _, rfl⟩ ⟨⟨rfl, rfl⟩, ⟨rfl, rfl⟩, ⟨rfl, rfl⟩, ⟨rfl, rfl⟩, ⟨rfl, rfl⟩, ⟨rfl, rfl⟩, ⟨rfl, rfl⟩, trivial⟩ ⟨.inr rfl, trivial⟩ (fun s hI => ?_)
   obtain ⟨f, i, j⟩ := s
   obtain ⟨i1, i2, i3, i4, i5⟩ := hI
   have i1 : m ≤ i := i1
   have i2 : i ≤ j := i2
   have i3 : j ≤ b := i3
   have i4 : j - i ≤ f := i4
   have i5 : bsP (fun h => ltI (at_ xs h) (at_ xs a)) f i j = bsP (fun h => ltI (at_ xs h) (at_ xs a)) (b - m) m b := i5
   refine .seq ?_
   refine .seq ?_
   refine .region ?_
   refine .step rfl (.move rfl rfl) ?_
   refine .step rfl (.move rfl rfl) ?_
   refine .step rfl (.bin rfl rfl rfl rfl) ?_
   refine .nil ?_
   refine .next ?_
   refine .cond rfl (fun h2 => ?_) (fun h2 => ?_)
   ·skip
    have hij : i < j := by have q := of_decide_eq_true h2; (try dsimp only at q); omega
    have hh : (i + j) / 2 < xs.length := by omega
    refine .skip ?_
    refine .next ?_
    refine .block ?_
    refine .seq ?_
    refine .region ?_
    refine .step rfl (.move rfl rfl) ?_
    refine .step rfl (.move rfl rfl) ?_
    refine .step rfl (.binv (.int .i64 ((i + j : Nat) : Int)) rfl rfl rfl rfl (congrArg _ (by (try dsimp only); rw [IntKind.wrap_i64]; omega))) ?_
    refine .step rfl (.conviv (((i + j : Nat) : Int)) rfl rfl uk3 uk97 (wrap_natu _ (by omega))) ?_
    refine .step rfl (.shr (((((i + j) / 2 : Nat)) : Int)) rfl rfl rfl (by decide) (half_eq _)) ?_
    refine .step rfl (.conviv (((((i + j) / 2 : Nat)) : Int)) rfl rfl uk97 uk3 (wrap_nat _ (by omega))) ?_
    refine .step rfl (.assign rfl rfl) ?_
    refine .nil ?_
    refine .next ?_
    refine .seq ?_
    by_cases hq : ltI xs[(i + j) / 2] xs[a] = true
    ·skip
     have hp :  (fun h => ltI (at_ xs h) (at_ xs a)) ((i + j) / 2) = true := by simp only []; rw [at_eq hh, at_eq (show a < xs.length by omega), hq] <;> simp
     refine .draw mixed [Ro.mk _ (Eff.mk (some (40, _)) []) [], Ro.mk _ (Eff.mk (some (41, _)) []) [], Ro.mk _ (Eff.mk (some (42, _)) []) [], Ro.mk _ (Eff.mk (some (43, _)) []) [0], Ro.mk _ (Eff.mk (some (44, _)) []) [0], Ro.mk _ (Eff.mk (some (45, _)) []) [], Ro.mk _ (Eff.mk (some (46, _)) []) [], Ro.mk _ (Eff.mk (some (47, _)) []) [0], Ro.mk _ (Eff.mk (some (48, _)) []) [0], Ro.mk _ (Eff.mk (some (49, _)) []) [], Ro.mk _ (Eff.mk (some (50, _)) []) []] rfl ⟨(fun _ _ => .move rfl rfl), (fun _ _ => .move rfl rfl), (fun _ _ => .move rfl rfl), (fun _ _ => .idxo rfl rfl rfl rfl rfl et66 (Int.natCast_nonneg _) (by omega)), (fun _ _ => .ldpm rfl rfl rfl rfl (flat_at it_len xs (hh)) (it_len _) tk86), (fun _ _ => .move rfl rfl), (fun _ _ => .move rfl rfl), (fun _ _ => .idxo rfl rfl rfl rfl rfl et66 (Int.natCast_nonneg _) (by omega)), (fun _ _ => .ldpm rfl rfl rfl rfl (flat_at it_len xs ((show a < xs.length by omega))) (it_len _) tk86), (fun _ _ => .callvf0 rfl rfl cf135 rfl ⟨trivial, trivial, trivial⟩ (before_pf xs[(i + j) / 2] xs[a])), (fun _ _ => .binv (.bool true) rfl rfl rfl rfl (by rw [cmpIt_dec, hq])), trivial⟩ (by kernel_rfl) ?_
     refine .next ?_
     refine .cond rfl (fun h4 => ?_) (fun h4 => absurd h4 (by decide))
     refine .region ?_
     refine .step rfl (.move rfl rfl) ?_
     refine .step rfl (.binv (.int .i64 (((i + j) / 2 + 1 : Nat) : Int)) rfl rfl rfl rfl (congrArg _ (by (try dsimp only); rw [IntKind.wrap_i64]; omega))) ?_
     refine .step rfl (.assign rfl rfl) ?_
     refine .nil ?_
     refine TE.blk ?_
     refine TE.setv 10 (.int .i64 (((i + j) / 2 + 1 : Nat) : Int)) rfl rfl ?_
     exact TE.round id (fun _ _ e => e) ((f - 1, (i + j) / 2 + 1, j)) ⟨by show m ≤ (i + j) / 2 + 1; omega, by show (i + j) / 2 + 1 ≤ j; omega, i3, by show j - ((i + j) / 2 + 1) ≤ f - 1; omega, by show bsP (fun h => ltI (at_ xs h) (at_ xs a)) (f - 1) ((i + j) / 2 + 1) j = _; rw [← i5, bsP_step hij i4, if_pos hp]⟩ (by show j - ((i + j) / 2 + 1) < j - i; omega) ⟨⟨rfl, rfl⟩, ⟨rfl, rfl⟩, ⟨rfl, rfl⟩, ⟨rfl, rfl⟩, ⟨rfl, rfl⟩, ⟨rfl, rfl⟩, ⟨rfl, rfl⟩, trivial⟩ ⟨.inr rfl, trivial⟩
    ·skip
     have hqf : ltI xs[(i + j) / 2] xs[a] = false := by simpa using hq
     have hp : ¬ ( (fun h => ltI (at_ xs h) (at_ xs a)) ((i + j) / 2) = true) := by simp only []; rw [at_eq hh, at_eq (show a < xs.length by omega), hqf] <;> simp
     refine .draw mixed [Ro.mk _ (Eff.mk (some (40, _)) []) [], Ro.mk _ (Eff.mk (some (41, _)) []) [], Ro.mk _ (Eff.mk (some (42, _)) []) [], Ro.mk _ (Eff.mk (some (43, _)) []) [0], Ro.mk _ (Eff.mk (some (44, _)) []) [0], Ro.mk _ (Eff.mk (some (45, _)) []) [], Ro.mk _ (Eff.mk (some (46, _)) []) [], Ro.mk _ (Eff.mk (some (47, _)) []) [0], Ro.mk _ (Eff.mk (some (48, _)) []) [0], Ro.mk _ (Eff.mk (some (49, _)) []) [], Ro.mk _ (Eff.mk (some (50, _)) []) []] rfl ⟨(fun _ _ => .move rfl rfl), (fun _ _ => .move rfl rfl), (fun _ _ => .move rfl rfl), (fun _ _ => .idxo rfl rfl rfl rfl rfl et66 (Int.natCast_nonneg _) (by omega)), (fun _ _ => .ldpm rfl rfl rfl rfl (flat_at it_len xs (hh)) (it_len _) tk86), (fun _ _ => .move rfl rfl), (fun _ _ => .move rfl rfl), (fun _ _ => .idxo rfl rfl rfl rfl rfl et66 (Int.natCast_nonneg _) (by omega)), (fun _ _ => .ldpm rfl rfl rfl rfl (flat_at it_len xs ((show a < xs.length by omega))) (it_len _) tk86), (fun _ _ => .callvf0 rfl rfl cf135 rfl ⟨trivial, trivial, trivial⟩ (before_pf xs[(i + j) / 2] xs[a])), (fun _ _ => .binv (.bool false) rfl rfl rfl rfl (by rw [cmpIt_dec, hqf])), trivial⟩ (by kernel_rfl) ?_
     refine .next ?_
     refine .cond rfl (fun h5 => absurd h5 (by decide)) (fun h5 => ?_)
     refine .region ?_
     refine .step rfl (.move rfl rfl) ?_
     refine .step rfl (.assign rfl rfl) ?_
     refine .nil ?_
     refine TE.blk ?_
     refine TE.setv 11 (.int .i64 (((i + j) / 2 : Nat) : Int)) rfl rfl ?_
     exact TE.round id (fun _ _ e => e) ((f - 1, i, (i + j) / 2)) ⟨i1, by show i ≤ (i + j) / 2; omega, by show (i + j) / 2 ≤ b; omega, by show (i + j) / 2 - i ≤ f - 1; omega, by show bsP (fun h => ltI (at_ xs h) (at_ xs a)) (f - 1) i ((i + j) / 2) = _; rw [← i5, bsP_step hij i4, if_neg hp]⟩ (by show (i + j) / 2 - i < j - i; omega) ⟨⟨rfl, rfl⟩, ⟨rfl, rfl⟩, ⟨rfl, rfl⟩, ⟨rfl, rfl⟩, ⟨rfl, rfl⟩, ⟨rfl, rfl⟩, ⟨rfl, rfl⟩, trivial⟩ ⟨.inr rfl, trivial⟩
   ·skip
    have hij : ¬ i < j := by have q := of_decide_eq_false h2; (try dsimp only at q); omega
    have hr : bsP (fun h => ltI (at_ xs h) (at_ xs a)) (b - m) m b = i := by rw [← i5, bsP_end hij]
    have hA : symA xs a m b = bubF (i - 1 - a) xs a := by unfold symA; rw [hr]
    refine .exit ?_
    refine TE.pass ?_
    refine TE.pass ?_
    refine TE.here ?_
    refine .next ?_
    refine .seq ?_
    refine .seq ?_
    refine .region ?_
    refine .step rfl (.move rfl rfl) ?_
    refine .step rfl (.assign rfl rfl) ?_
    refine .nil ?_
    refine .next ?_
    refine .block ?_
    refine TC.loop (S := Nat × List It) (fun s => s.2.length = xs.length ∧ a ≤ s.1 ∧ bubF (i - 1 - s.1) s.2 s.1 = symA xs a m b) (fun s => i - 1 - s.1) (fun s => [(0, .ow 0 xs.length 64), (1, .d (.v (.int .i64 a))), (2, .d (.v (.int .i64 m))), (3, .d (.v (.int .i64 b))), (4, .d (.fn (.func 135) [] [])), (10, .d (.v (.int .i64 ((i : Nat) : Int)))), (13, .d (.v (.int .i64 ((s.1 : Nat) : Int))))]) (fun s => [(0, .mrow 0 86 64 ((s.2).flatMap It.dv))]) ((a, xs)) ⟨rfl, Nat.le_refl _, hA.symm⟩ ⟨⟨rfl, rfl⟩, ⟨rfl, rfl⟩, ⟨rfl, rfl⟩, ⟨rfl, rfl⟩, ⟨rfl, rfl⟩, ⟨rfl, rfl⟩, ⟨rfl, rfl⟩, trivial⟩ ⟨.inr rfl, trivial⟩ (fun s hI => ?_)
    obtain ⟨k, ys⟩ := s
    obtain ⟨k1, k2, k3⟩ := hI
    have k1 : ys.length = xs.length := k1
    have k2 : a ≤ k := k2
    have k3 : bubF (i - 1 - k) ys k = symA xs a m b := k3
    refine .seq ?_
    refine .seq ?_
    refine .region ?_
    refine .step rfl (.move rfl rfl) ?_
    refine .step rfl (.move rfl rfl) ?_
    refine .step rfl (.binv (.int .i64 ((i - 1 : Nat) : Int)) rfl rfl rfl rfl (congrArg _ (by (try dsimp only); rw [IntKind.wrap_i64]; omega))) ?_
    refine .step rfl (.bin rfl rfl rfl rfl) ?_
    refine .nil ?_
    refine .next ?_
    refine .cond rfl (fun h6 => ?_) (fun h6 => ?_)
    ·skip
     have hij : k < i - 1 := by have q := of_decide_eq_true h6; (try dsimp only at q); omega
     have k4 : k + 1 < ys.length := by omega
     have k5 : k < ys.length := by omega
     refine .skip ?_
     refine .next ?_
     refine .seq ?_
     refine .block ?_
     refine .draw mixed [Ro.mk _ (Eff.mk (some (61, _)) []) [], Ro.mk _ (Eff.mk (some (62, _)) []) [], Ro.mk _ (Eff.mk (some (63, _)) []) [], Ro.mk _ (Eff.mk (some (64, _)) []) [], Ro.mk _ (Eff.mk (some (65, _)) []) [], Ro.mk _ (Eff.mk (some (66, _)) []) [], Ro.mk _ (Eff.mk (some (67, _)) []) [], Ro.mk _ (Eff.mk (some (68, _)) []) [], Ro.mk _ (Eff.mk (some (69, _)) []) [0], Ro.mk _ (Eff.mk (some (70, _)) []) [0], Ro.mk _ (Eff.mk (some (71, _)) []) [], Ro.mk _ (Eff.mk (some (72, _)) []) [], Ro.mk _ (Eff.mk (some (73, _)) []) [0], Ro.mk _ (Eff.mk (some (74, _)) []) [0], Ro.mk _ (Eff.mk (some (75, _)) []) [0], Ro.mk _ (Eff.mk none [(0, _)]) [0], Ro.mk _ (Eff.mk (some (76, _)) []) [0], Ro.mk _ (Eff.mk none [(0, _)]) [0]] rfl ⟨(fun _ _ => .move rfl rfl), (fun _ _ => .move rfl rfl), (fun _ _ => .move rfl rfl), (fun _ _ => .move rfl rfl), (fun _ _ => .binv (.int .i64 ((k + 1 : Nat) : Int)) rfl rfl rfl rfl (congrArg _ (by (try dsimp only); rw [IntKind.wrap_i64]; omega))), (fun _ _ => .move rfl rfl), (fun _ _ => .move rfl rfl), (fun _ _ => .binv (.int .i64 ((k + 1 : Nat) : Int)) rfl rfl rfl rfl (congrArg _ (by (try dsimp only); rw [IntKind.wrap_i64]; omega))), (fun _ _ => .idxo rfl rfl rfl rfl rfl et66 (Int.natCast_nonneg _) (by omega)), (fun _ _ => .ldpm rfl rfl rfl rfl (flat_at it_len ys (k4)) (it_len _) tk86), (fun _ _ => .move rfl rfl), (fun _ _ => .move rfl rfl), (fun _ _ => .idxo rfl rfl rfl rfl rfl et66 (Int.natCast_nonneg _) (by omega)), (fun _ _ => .ldpm rfl rfl rfl rfl (flat_at it_len ys (k5)) (it_len _) tk86), (fun _ _ => .idxo rfl rfl rfl rfl rfl et66 (Int.natCast_nonneg _) (by omega)), (fun _ _ => .storerm (xs := ys) (enc := It.dv) (ys[k + 1]) rfl rfl rfl rfl rfl rfl (fun _ => rfl) sz86 rfl (k5)), (fun _ _ => .idxo rfl rfl rfl rfl rfl et66 (Int.natCast_nonneg _) (by omega)), (fun _ _ => .storerm (xs := ys.set k ys[k + 1]) (enc := It.dv) (ys[k]) rfl rfl rfl rfl rfl rfl (fun _ => rfl) sz86 rfl (by rw [List.length_set]; exact k4)), trivial⟩ (by kernel_rfl) ?_
     refine TE.blk ?_
     refine .next ?_
     refine .region ?_
     refine .step rfl (.move rfl rfl) ?_
     refine .step rfl (.binv (.int .i64 ((k + 1 : Nat) : Int)) rfl rfl rfl rfl (congrArg _ (by (try dsimp only); rw [IntKind.wrap_i64]; omega))) ?_
     refine .step rfl (.assign rfl rfl) ?_
     refine .nil ?_
     refine TE.obj 0 (.mrow 0 86 64 ((swI ys k (k + 1)).flatMap It.dv)) rfl (by unfold swI; rw [at_eq k4, at_eq k5]) ?_
     refine TE.setv 13 (.int .i64 ((k + 1 : Nat) : Int)) rfl rfl ?_
     exact TE.round id (fun _ _ e => e) ((k + 1, swI ys k (k + 1))) ⟨by show (swI ys k (k + 1)).length = _; rw [swI_len]; exact k1, by show a ≤ k + 1; omega, by show bubF (i - 1 - (k + 1)) (swI ys k (k + 1)) (k + 1) = _; rw [← k3, show i - 1 - k = (i - 1 - (k + 1)) + 1 by omega]; rfl⟩ (by show i - 1 - (k + 1) < i - 1 - k; omega) ⟨⟨rfl, rfl⟩, ⟨rfl, rfl⟩, ⟨rfl, rfl⟩, ⟨rfl, rfl⟩, ⟨rfl, rfl⟩, ⟨rfl, rfl⟩, ⟨rfl, rfl⟩, trivial⟩ ⟨.inr rfl, trivial⟩
    ·skip
     have hij : ¬ k < i - 1 := by have q := of_decide_eq_false h6; (try dsimp only at q); omega
     rw [show i - 1 - k = 0 by omega] at k3
     have e3 : ys = symA xs a m b := k3
     subst e3
     refine .exit ?_
     refine TE.pass ?_
     refine TE.pass ?_
     refine TE.here ?_
     refine .next ?_
     refine .ret ?_
     exact TE.retm0 0 rfl rfl rfl
  ·skip
   have hm1 : ¬ m - a = 1 := by have q := of_decide_eq_false h1; omega
   refine .skip ?_
   refine .next ?_
   refine .seq ?_
   refine .seq ?_
   refine .region ?_
   refine .step rfl (.move rfl rfl) ?_
   refine .step rfl (.move rfl rfl) ?_
   refine .step rfl (.binv (.int .i64 ((b - m : Nat) : Int)) rfl rfl rfl rfl (congrArg _ (by (try dsimp only); rw [IntKind.wrap_i64]; omega))) ?_
   refine .step rfl (.bin rfl rfl rfl rfl) ?_
   refine .nil ?_
   refine .next ?_
   refine .cond rfl (fun h7 => ?_) (fun h7 => ?_)
   ·skip
    have hb1 : b - m = 1 := by have q := of_decide_eq_true h7; omega
    have e : symM (n + 1) xs a m b = symB xs a m b := by unfold symM; rw [if_neg hm1, if_pos hb1]
    rw [e]
    refine .seq ?_
    refine .region ?_
    refine .step rfl (.move rfl rfl) ?_
    refine .step rfl (.assign rfl rfl) ?_
    refine .nil ?_
    refine .next ?_
    refine .seq ?_
    refine .region ?_
    refine .step rfl (.move rfl rfl) ?_
    refine .step rfl (.assign rfl rfl) ?_
    refine .nil ?_
    refine .next ?_
    refine .seq ?_
    refine .block ?_
    refine TC.loop (S := Nat × Nat × Nat) (fun s => a ≤ s.2.1 ∧ s.2.1 ≤ s.2.2 ∧ s.2.2 ≤ m ∧ s.2.2 - s.2.1 ≤ s.1 ∧ bsP (fun h => !ltI (at_ xs m) (at_ xs h)) s.1 s.2.1 s.2.2 = bsP (fun h => !ltI (at_ xs m) (at_ xs h)) (m - a) a m) (fun s => s.2.2 - s.2.1) (fun s => [(0, .ow 0 xs.length 64), (1, .d (.v (.int .i64 a))), (2, .d (.v (.int .i64 m))), (3, .d (.v (.int .i64 b))), (4, .d (.fn (.func 135) [] [])), (14, .d (.v (.int .i64 ((s.2.1 : Nat) : Int)))), (15, .d (.v (.int .i64 ((s.2.2 : Nat) : Int))))]) (fun s => [(0, .mrow 0 86 64 ((xs).flatMap It.dv))]) ((m - a, a, m)) ⟨Nat.le_refl _, by show a ≤ m; omega, Nat.le_refl _, Nat.le_refl _, rfl⟩ ⟨⟨rfl, rfl⟩, ⟨rfl, rfl⟩, ⟨rfl, rfl⟩, ⟨rfl, rfl⟩, ⟨rfl, rfl⟩, ⟨rfl, rfl⟩, ⟨rfl, rfl⟩, trivial⟩ ⟨.inr rfl, trivial⟩ (fun s hI => ?_)
    obtain ⟨f, i, j⟩ := s
    obtain ⟨i1, i2, i3, i4, i5⟩ := hI
    have i1 : a ≤ i := i1
    have i2 : i ≤ j := i2
    have i3 : j ≤ m := i3
    have i4 : j - i ≤ f := i4
    have i5 : bsP (fun h => !ltI (at_ xs m) (at_ xs h)) f i j = bsP (fun h => !ltI (at_ xs m) (at_ xs h)) (m - a) a m := i5
    refine .seq ?_
    refine .seq ?_
    refine .region ?_
    refine .step rfl (.move rfl rfl) ?_
    refine .step rfl (.move rfl rfl) ?_
    refine .step rfl (.bin rfl rfl rfl rfl) ?_
    refine .nil ?_
    refine .next ?_
    refine .cond rfl (fun h8 => ?_) (fun h8 => ?_)
    ·skip
     have hij : i < j := by have q := of_decide_eq_true h8; (try dsimp only at q); omega
     have hh : (i + j) / 2 < xs.length := by omega
     refine .skip ?_
     refine .next ?_
     refine .block ?_
     refine .seq ?_
     refine .region ?_
     refine .step rfl (.move rfl rfl) ?_
     refine .step rfl (.move rfl rfl) ?_
     refine .step rfl (.binv (.int .i64 ((i + j : Nat) : Int)) rfl rfl rfl rfl (congrArg _ (by (try dsimp only); rw [IntKind.wrap_i64]; omega))) ?_
     refine .step rfl (.conviv (((i + j : Nat) : Int)) rfl rfl uk3 uk97 (wrap_natu _ (by omega))) ?_
     refine .step rfl (.shr (((((i + j) / 2 : Nat)) : Int)) rfl rfl rfl (by decide) (half_eq _)) ?_
     refine .step rfl (.conviv (((((i + j) / 2 : Nat)) : Int)) rfl rfl uk97 uk3 (wrap_nat _ (by omega))) ?_
     refine .step rfl (.assign rfl rfl) ?_
     refine .nil ?_
     refine .next ?_
     refine .seq ?_
     by_cases hq : ltI xs[m] xs[(i + j) / 2] = true
     ·skip
      have hp : ¬ ( (fun h => !ltI (at_ xs m) (at_ xs h)) ((i + j) / 2) = true) := by simp only []; rw [at_eq (show m < xs.length by omega), at_eq hh, hq] <;> simp
      refine .draw mixed [Ro.mk _ (Eff.mk (some (92, _)) []) [], Ro.mk _ (Eff.mk (some (93, _)) []) [], Ro.mk _ (Eff.mk (some (94, _)) []) [], Ro.mk _ (Eff.mk (some (95, _)) []) [0], Ro.mk _ (Eff.mk (some (96, _)) []) [0], Ro.mk _ (Eff.mk (some (97, _)) []) [], Ro.mk _ (Eff.mk (some (98, _)) []) [], Ro.mk _ (Eff.mk (some (99, _)) []) [0], Ro.mk _ (Eff.mk (some (100, _)) []) [0], Ro.mk _ (Eff.mk (some (101, _)) []) [], Ro.mk _ (Eff.mk (some (102, _)) []) [], Ro.mk _ (Eff.mk (some (103, _)) []) []] rfl ⟨(fun _ _ => .move rfl rfl), (fun _ _ => .move rfl rfl), (fun _ _ => .move rfl rfl), (fun _ _ => .idxo rfl rfl rfl rfl rfl et66 (Int.natCast_nonneg _) (by omega)), (fun _ _ => .ldpm rfl rfl rfl rfl (flat_at it_len xs ((show m < xs.length by omega))) (it_len _) tk86), (fun _ _ => .move rfl rfl), (fun _ _ => .move rfl rfl), (fun _ _ => .idxo rfl rfl rfl rfl rfl et66 (Int.natCast_nonneg _) (by omega)), (fun _ _ => .ldpm rfl rfl rfl rfl (flat_at it_len xs (hh)) (it_len _) tk86), (fun _ _ => .callvf0 rfl rfl cf135 rfl ⟨trivial, trivial, trivial⟩ (before_pf xs[m] xs[(i + j) / 2])), (fun _ _ => .binv (.bool true) rfl rfl rfl rfl (by rw [cmpIt_dec, hq])), (fun _ _ => .un rfl rfl rfl), trivial⟩ (by kernel_rfl) ?_
      refine .next ?_
      refine .cond rfl (fun h10 => absurd h10 (by decide)) (fun h10 => ?_)
      refine .region ?_
      refine .step rfl (.move rfl rfl) ?_
      refine .step rfl (.assign rfl rfl) ?_
      refine .nil ?_
      refine TE.blk ?_
      refine TE.setv 15 (.int .i64 (((i + j) / 2 : Nat) : Int)) rfl rfl ?_
      exact TE.round id (fun _ _ e => e) ((f - 1, i, (i + j) / 2)) ⟨i1, by show i ≤ (i + j) / 2; omega, by show (i + j) / 2 ≤ m; omega, by show (i + j) / 2 - i ≤ f - 1; omega, by show bsP (fun h => !ltI (at_ xs m) (at_ xs h)) (f - 1) i ((i + j) / 2) = _; rw [← i5, bsP_step hij i4, if_neg hp]⟩ (by show (i + j) / 2 - i < j - i; omega) ⟨⟨rfl, rfl⟩, ⟨rfl, rfl⟩, ⟨rfl, rfl⟩, ⟨rfl, rfl⟩, ⟨rfl, rfl⟩, ⟨rfl, rfl⟩, ⟨rfl, rfl⟩, trivial⟩ ⟨.inr rfl, trivial⟩
     ·skip
      have hqf : ltI xs[m] xs[(i + j) / 2] = false := by simpa using hq
      have hp :  (fun h => !ltI (at_ xs m) (at_ xs h)) ((i + j) / 2) = true := by simp only []; rw [at_eq (show m < xs.length by omega), at_eq hh, hqf] <;> simp
      refine .draw mixed [Ro.mk _ (Eff.mk (some (92, _)) []) [], Ro.mk _ (Eff.mk (some (93, _)) []) [], Ro.mk _ (Eff.mk (some (94, _)) []) [], Ro.mk _ (Eff.mk (some (95, _)) []) [0], Ro.mk _ (Eff.mk (some (96, _)) []) [0], Ro.mk _ (Eff.mk (some (97, _)) []) [], Ro.mk _ (Eff.mk (some (98, _)) []) [], Ro.mk _ (Eff.mk (some (99, _)) []) [0], Ro.mk _ (Eff.mk (some (100, _)) []) [0], Ro.mk _ (Eff.mk (some (101, _)) []) [], Ro.mk _ (Eff.mk (some (102, _)) []) [], Ro.mk _ (Eff.mk (some (103, _)) []) []] rfl ⟨(fun _ _ => .move rfl rfl), (fun _ _ => .move rfl rfl), (fun _ _ => .move rfl rfl), (fun _ _ => .idxo rfl rfl rfl rfl rfl et66 (Int.natCast_nonneg _) (by omega)), (fun _ _ => .ldpm rfl rfl rfl rfl (flat_at it_len xs ((show m < xs.length by omega))) (it_len _) tk86), (fun _ _ => .move rfl rfl), (fun _ _ => .move rfl rfl), (fun _ _ => .idxo rfl rfl rfl rfl rfl et66 (Int.natCast_nonneg _) (by omega)), (fun _ _ => .ldpm rfl rfl rfl rfl (flat_at it_len xs (hh)) (it_len _) tk86), (fun _ _ => .callvf0 rfl rfl cf135 rfl ⟨trivial, trivial, trivial⟩ (before_pf xs[m] xs[(i + j) / 2])), (fun _ _ => .binv (.bool false) rfl rfl rfl rfl (by rw [cmpIt_dec, hqf])), (fun _ _ => .un rfl rfl rfl), trivial⟩ (by kernel_rfl) ?_
      refine .next ?_
      refine .cond rfl (fun h11 => ?_) (fun h11 => absurd h11 (by decide))
      refine .region ?_
      refine .step rfl (.move rfl rfl) ?_
      refine .step rfl (.binv (.int .i64 (((i + j) / 2 + 1 : Nat) : Int)) rfl rfl rfl rfl (congrArg _ (by (try dsimp only); rw [IntKind.wrap_i64]; omega))) ?_
      refine .step rfl (.assign rfl rfl) ?_
      refine .nil ?_
      refine TE.blk ?_
      refine TE.setv 14 (.int .i64 (((i + j) / 2 + 1 : Nat) : Int)) rfl rfl ?_
      exact TE.round id (fun _ _ e => e) ((f - 1, (i + j) / 2 + 1, j)) ⟨by show a ≤ (i + j) / 2 + 1; omega, by show (i + j) / 2 + 1 ≤ j; omega, i3, by show j - ((i + j) / 2 + 1) ≤ f - 1; omega, by show bsP (fun h => !ltI (at_ xs m) (at_ xs h)) (f - 1) ((i + j) / 2 + 1) j = _; rw [← i5, bsP_step hij i4, if_pos hp]⟩ (by show j - ((i + j) / 2 + 1) < j - i; omega) ⟨⟨rfl, rfl⟩, ⟨rfl, rfl⟩, ⟨rfl, rfl⟩, ⟨rfl, rfl⟩, ⟨rfl, rfl⟩, ⟨rfl, rfl⟩, ⟨rfl, rfl⟩, trivial⟩ ⟨.inr rfl, trivial⟩
    ·skip
     have hij : ¬ i < j := by have q := of_decide_eq_false h8; (try dsimp only at q); omega
     have hr : bsP (fun h => !ltI (at_ xs m) (at_ xs h)) (m - a) a m = i := by rw [← i5, bsP_end hij]
     have hB : symB xs a m b = bubB (m - i) xs m := by unfold symB; rw [hr]
     refine .exit ?_
     refine TE.pass ?_
     refine TE.pass ?_
     refine TE.here ?_
     refine .next ?_
     refine .seq ?_
     refine .seq ?_
     refine .region ?_
     refine .step rfl (.move rfl rfl) ?_
     refine .step rfl (.assign rfl rfl) ?_
     refine .nil ?_
     refine .next ?_
     refine .block ?_
     refine TC.loop (S := Nat × List It) (fun s => s.2.length = xs.length ∧ s.1 ≤ m ∧ bubB (s.1 - i) s.2 s.1 = symB xs a m b) (fun s => s.1 - i) (fun s => [(0, .ow 0 xs.length 64), (1, .d (.v (.int .i64 a))), (2, .d (.v (.int .i64 m))), (3, .d (.v (.int .i64 b))), (4, .d (.fn (.func 135) [] [])), (14, .d (.v (.int .i64 ((i : Nat) : Int)))), (17, .d (.v (.int .i64 ((s.1 : Nat) : Int))))]) (fun s => [(0, .mrow 0 86 64 ((s.2).flatMap It.dv))]) ((m, xs)) ⟨rfl, Nat.le_refl _, hB.symm⟩ ⟨⟨rfl, rfl⟩, ⟨rfl, rfl⟩, ⟨rfl, rfl⟩, ⟨rfl, rfl⟩, ⟨rfl, rfl⟩, ⟨rfl, rfl⟩, ⟨rfl, rfl⟩, trivial⟩ ⟨.inr rfl, trivial⟩ (fun s hI => ?_)
     obtain ⟨k, ys⟩ := s
     obtain ⟨k1, k2, k3⟩ := hI
     have k1 : ys.length = xs.length := k1
     have k2 : k ≤ m := k2
     have k3 : bubB (k - i) ys k = symB xs a m b := k3
     refine .seq ?_
     refine .seq ?_
     refine .region ?_
     refine .step rfl (.move rfl rfl) ?_
     refine .step rfl (.move rfl rfl) ?_
     refine .step rfl (.bin rfl rfl rfl rfl) ?_
     refine .nil ?_
     refine .next ?_
     refine .cond rfl (fun h12 => ?_) (fun h12 => ?_)
     ·skip
      have hij : i < k := by have q := of_decide_eq_true h12; (try dsimp only at q); omega
      have k4 : k - 1 < ys.length := by omega
      have k5 : k < ys.length := by omega
      refine .skip ?_
      refine .next ?_
      refine .seq ?_
      refine .block ?_
      refine .draw mixed [Ro.mk _ (Eff.mk (some (113, _)) []) [], Ro.mk _ (Eff.mk (some (114, _)) []) [], Ro.mk _ (Eff.mk (some (115, _)) []) [], Ro.mk _ (Eff.mk (some (116, _)) []) [], Ro.mk _ (Eff.mk (some (117, _)) []) [], Ro.mk _ (Eff.mk (some (118, _)) []) [], Ro.mk _ (Eff.mk (some (119, _)) []) [], Ro.mk _ (Eff.mk (some (120, _)) []) [], Ro.mk _ (Eff.mk (some (121, _)) []) [0], Ro.mk _ (Eff.mk (some (122, _)) []) [0], Ro.mk _ (Eff.mk (some (123, _)) []) [], Ro.mk _ (Eff.mk (some (124, _)) []) [], Ro.mk _ (Eff.mk (some (125, _)) []) [0], Ro.mk _ (Eff.mk (some (126, _)) []) [0], Ro.mk _ (Eff.mk (some (127, _)) []) [0], Ro.mk _ (Eff.mk none [(0, _)]) [0], Ro.mk _ (Eff.mk (some (128, _)) []) [0], Ro.mk _ (Eff.mk none [(0, _)]) [0]] rfl ⟨(fun _ _ => .move rfl rfl), (fun _ _ => .move rfl rfl), (fun _ _ => .move rfl rfl), (fun _ _ => .move rfl rfl), (fun _ _ => .binv (.int .i64 ((k - 1 : Nat) : Int)) rfl rfl rfl rfl (congrArg _ (by (try dsimp only); rw [IntKind.wrap_i64]; omega))), (fun _ _ => .move rfl rfl), (fun _ _ => .move rfl rfl), (fun _ _ => .binv (.int .i64 ((k - 1 : Nat) : Int)) rfl rfl rfl rfl (congrArg _ (by (try dsimp only); rw [IntKind.wrap_i64]; omega))), (fun _ _ => .idxo rfl rfl rfl rfl rfl et66 (Int.natCast_nonneg _) (by omega)), (fun _ _ => .ldpm rfl rfl rfl rfl (flat_at it_len ys (k4)) (it_len _) tk86), (fun _ _ => .move rfl rfl), (fun _ _ => .move rfl rfl), (fun _ _ => .idxo rfl rfl rfl rfl rfl et66 (Int.natCast_nonneg _) (by omega)), (fun _ _ => .ldpm rfl rfl rfl rfl (flat_at it_len ys (k5)) (it_len _) tk86), (fun _ _ => .idxo rfl rfl rfl rfl rfl et66 (Int.natCast_nonneg _) (by omega)), (fun _ _ => .storerm (xs := ys) (enc := It.dv) (ys[k - 1]) rfl rfl rfl rfl rfl rfl (fun _ => rfl) sz86 rfl (k5)), (fun _ _ => .idxo rfl rfl rfl rfl rfl et66 (Int.natCast_nonneg _) (by omega)), (fun _ _ => .storerm (xs := ys.set k ys[k - 1]) (enc := It.dv) (ys[k]) rfl rfl rfl rfl rfl rfl (fun _ => rfl) sz86 rfl (by rw [List.length_set]; exact k4)), trivial⟩ (by kernel_rfl) ?_
      refine TE.blk ?_
      refine .next ?_
      refine .region ?_
      refine .step rfl (.move rfl rfl) ?_
      refine .step rfl (.binv (.int .i64 ((k - 1 : Nat) : Int)) rfl rfl rfl rfl (congrArg _ (by (try dsimp only); rw [IntKind.wrap_i64]; omega))) ?_
      refine .step rfl (.assign rfl rfl) ?_
      refine .nil ?_
      refine TE.obj 0 (.mrow 0 86 64 ((swI ys k (k - 1)).flatMap It.dv)) rfl (by unfold swI; rw [at_eq k4, at_eq k5]) ?_
      refine TE.setv 17 (.int .i64 ((k - 1 : Nat) : Int)) rfl rfl ?_
      exact TE.round id (fun _ _ e => e) ((k - 1, swI ys k (k - 1))) ⟨by show (swI ys k (k - 1)).length = _; rw [swI_len]; exact k1, by show k - 1 ≤ m; omega, by show bubB (k - 1 - i) (swI ys k (k - 1)) (k - 1) = _; rw [← k3, show k - i = (k - 1 - i) + 1 by omega]; rfl⟩ (by show k - 1 - i < k - i; omega) ⟨⟨rfl, rfl⟩, ⟨rfl, rfl⟩, ⟨rfl, rfl⟩, ⟨rfl, rfl⟩, ⟨rfl, rfl⟩, ⟨rfl, rfl⟩, ⟨rfl, rfl⟩, trivial⟩ ⟨.inr rfl, trivial⟩
     ·skip
      have hij : ¬ i < k := by have q := of_decide_eq_false h12; (try dsimp only at q); omega
      rw [show k - i = 0 by omega] at k3
      have e3 : ys = symB xs a m b := k3
      subst e3
      refine .exit ?_
      refine TE.pass ?_
      refine TE.pass ?_
      refine TE.here ?_
      refine .next ?_
      refine .ret ?_
      exact TE.retm0 0 rfl rfl rfl
   ·skip
    have hb1 : ¬ b - m = 1 := by have q := of_decide_eq_false h7; omega
    refine .skip ?_
    refine .next ?_
    refine .seq ?_
    refine .region ?_
    refine .step rfl (.move rfl rfl) ?_
    refine .step rfl (.move rfl rfl) ?_
    refine .step rfl (.binv (.int .i64 ((a + b : Nat) : Int)) rfl rfl rfl rfl (congrArg _ (by (try dsimp only); rw [IntKind.wrap_i64]; omega))) ?_
    refine .step rfl (.conviv (((a + b : Nat) : Int)) rfl rfl uk3 uk97 (wrap_natu _ (by omega))) ?_
    refine .step rfl (.shr (((((a + b) / 2 : Nat)) : Int)) rfl rfl rfl (by decide) (half_eq _)) ?_
    refine .step rfl (.conviv (((((a + b) / 2 : Nat)) : Int)) rfl rfl uk97 uk3 (wrap_nat _ (by omega))) ?_
    refine .step rfl (.assign rfl rfl) ?_
    refine .nil ?_
    refine .next ?_
    refine .seq ?_
    refine .region ?_
    refine .step rfl (.move rfl rfl) ?_
    refine .step rfl (.move rfl rfl) ?_
    refine .step rfl (.binv (.int .i64 (((a + b) / 2 + m : Nat) : Int)) rfl rfl rfl rfl (congrArg _ (by (try dsimp only); rw [IntKind.wrap_i64]; omega))) ?_
    refine .step rfl (.assign rfl rfl) ?_
    refine .nil ?_
    refine .next ?_
    refine .seq ?_
    refine .region ?_
    refine .step rfl (.assign rfl rfl) ?_
    refine .step rfl (.assign rfl rfl) ?_
    refine .nil ?_
    refine .next ?_
    refine .seq ?_
    refine .joinf [(0, .ow 0 xs.length 64), (1, .d (.v (.int .i64 a))), (2, .d (.v (.int .i64 m))), (3, .d (.v (.int .i64 b))), (4, .d (.fn (.func 135) [] [])), (18, .f (.v (.int .i64 ((((a + b) / 2) : Nat) : Int)))), (19, .f (.v (.int .i64 (((a + b) / 2 + m : Nat) : Int)))), (20, .d (.v (.int .i64 ((symS a m b : Nat) : Int)))), (21, .d (.v (.int .i64 ((symR a m b : Nat) : Int))))] [(0, .mrow 0 86 64 ((xs).flatMap It.dv))] (¬ m - a = 1 ∧ ¬ b - m = 1) (fun hphi => ?_) ?_
    ·skip
     obtain ⟨hm1, hb1⟩ := hphi
     have hSR := symSR a m b
     have hCB := symC_bd xs ham hmb
     have hxl := symX_len xs a m b
     refine .seq ?_
     refine .region ?_
     refine .step rfl (.move rfl rfl) ?_
     refine .step rfl (.binv (.int .i64 (((a + b) / 2 + m - 1 : Nat) : Int)) rfl rfl rfl rfl (congrArg _ (by (try dsimp only); rw [IntKind.wrap_i64]; omega))) ?_
     refine .step rfl (.assign rfl rfl) ?_
     refine .nil ?_
     refine .next ?_
     refine .seq ?_
     refine .block ?_
     refine TC.loop (S := Nat × Nat × Nat) (fun s => (symS a m b) ≤ s.2.1 ∧ s.2.1 ≤ s.2.2 ∧ s.2.2 ≤ (symR a m b) ∧ s.2.2 - s.2.1 ≤ s.1 ∧ bsP (fun c => !ltI (at_ xs ((a + b) / 2 + m - 1 - c)) (at_ xs c)) s.1 s.2.1 s.2.2 = bsP (fun c => !ltI (at_ xs ((a + b) / 2 + m - 1 - c)) (at_ xs c)) ((symR a m b) - (symS a m b)) (symS a m b) (symR a m b)) (fun s => s.2.2 - s.2.1) (fun s => [(0, .ow 0 xs.length 64), (1, .d (.v (.int .i64 a))), (2, .d (.v (.int .i64 m))), (3, .d (.v (.int .i64 b))), (4, .d (.fn (.func 135) [] [])), (20, .d (.v (.int .i64 ((s.2.1 : Nat) : Int)))), (21, .d (.v (.int .i64 ((s.2.2 : Nat) : Int)))), (18, .f (.v (.int .i64 ((((a + b) / 2) : Nat) : Int)))), (19, .f (.v (.int .i64 (((a + b) / 2 + m : Nat) : Int)))), (22, .f (.v (.int .i64 (((a + b) / 2 + m - 1 : Nat) : Int))))]) (fun s => [(0, .mrow 0 86 64 ((xs).flatMap It.dv))]) (((symR a m b) - (symS a m b), (symS a m b), (symR a m b))) ⟨Nat.le_refl _, by show (symS a m b) ≤ (symR a m b); omega, Nat.le_refl _, Nat.le_refl _, rfl⟩ ⟨⟨rfl, rfl⟩, ⟨rfl, rfl⟩, ⟨rfl, rfl⟩, ⟨rfl, rfl⟩, ⟨rfl, rfl⟩, ⟨rfl, rfl⟩, ⟨rfl, rfl⟩, ⟨rfl, rfl⟩, ⟨rfl, rfl⟩, ⟨rfl, rfl⟩, trivial⟩ ⟨.inr rfl, trivial⟩ (fun s hI => ?_)
     obtain ⟨f, i, j⟩ := s
     obtain ⟨i1, i2, i3, i4, i5⟩ := hI
     have i1 : (symS a m b) ≤ i := i1
     have i2 : i ≤ j := i2
     have i3 : j ≤ (symR a m b) := i3
     have i4 : j - i ≤ f := i4
     have i5 : bsP (fun c => !ltI (at_ xs ((a + b) / 2 + m - 1 - c)) (at_ xs c)) f i j = bsP (fun c => !ltI (at_ xs ((a + b) / 2 + m - 1 - c)) (at_ xs c)) ((symR a m b) - (symS a m b)) (symS a m b) (symR a m b) := i5
     refine .seq ?_
     refine .seq ?_
     refine .region ?_
     refine .step rfl (.move rfl rfl) ?_
     refine .step rfl (.move rfl rfl) ?_
     refine .step rfl (.bin rfl rfl rfl rfl) ?_
     refine .nil ?_
     refine .next ?_
     refine .cond rfl (fun h13 => ?_) (fun h13 => ?_)
     ·skip
      have hij : i < j := by have q := of_decide_eq_true h13; (try dsimp only at q); omega
      have hh : (i + j) / 2 < xs.length := by omega
      have hp2 : ((a + b) / 2 + m - 1 - (i + j) / 2) < xs.length := by omega
      refine .skip ?_
      refine .next ?_
      refine .block ?_
      refine .seq ?_
      refine .region ?_
      refine .step rfl (.move rfl rfl) ?_
      refine .step rfl (.move rfl rfl) ?_
      refine .step rfl (.binv (.int .i64 ((i + j : Nat) : Int)) rfl rfl rfl rfl (congrArg _ (by (try dsimp only); rw [IntKind.wrap_i64]; omega))) ?_
      refine .step rfl (.conviv (((i + j : Nat) : Int)) rfl rfl uk3 uk97 (wrap_natu _ (by omega))) ?_
      refine .step rfl (.shr (((((i + j) / 2 : Nat)) : Int)) rfl rfl rfl (by decide) (half_eq _)) ?_
      refine .step rfl (.conviv (((((i + j) / 2 : Nat)) : Int)) rfl rfl uk97 uk3 (wrap_nat _ (by omega))) ?_
      refine .step rfl (.assign rfl rfl) ?_
      refine .nil ?_
      refine .next ?_
      refine .seq ?_
      by_cases hq : ltI xs[((a + b) / 2 + m - 1 - (i + j) / 2)] xs[(i + j) / 2] = true
      ·skip
       have hp : ¬ ( (fun c => !ltI (at_ xs ((a + b) / 2 + m - 1 - c)) (at_ xs c)) ((i + j) / 2) = true) := by simp only []; rw [at_eq hp2, at_eq hh, hq] <;> simp
       refine .draw mixed [Ro.mk _ (Eff.mk (some (158, _)) []) [], Ro.mk _ (Eff.mk (some (159, _)) []) [], Ro.mk _ (Eff.mk (some (160, _)) []) [], Ro.mk _ (Eff.mk (some (161, _)) []) [], Ro.mk _ (Eff.mk (some (162, _)) []) [], Ro.mk _ (Eff.mk (some (163, _)) []) [0], Ro.mk _ (Eff.mk (some (164, _)) []) [0], Ro.mk _ (Eff.mk (some (165, _)) []) [], Ro.mk _ (Eff.mk (some (166, _)) []) [], Ro.mk _ (Eff.mk (some (167, _)) []) [0], Ro.mk _ (Eff.mk (some (168, _)) []) [0], Ro.mk _ (Eff.mk (some (169, _)) []) [], Ro.mk _ (Eff.mk (some (170, _)) []) [], Ro.mk _ (Eff.mk (some (171, _)) []) []] rfl ⟨(fun _ _ => .move rfl rfl), (fun _ _ => .move rfl rfl), (fun _ _ => .move rfl rfl), (fun _ _ => .move rfl rfl), (fun _ _ => .binv (.int .i64 (((a + b) / 2 + m - 1 - (i + j) / 2 : Nat) : Int)) rfl rfl rfl rfl (congrArg _ (by (try dsimp only); rw [IntKind.wrap_i64]; omega))), (fun _ _ => .idxo rfl rfl rfl rfl rfl et66 (Int.natCast_nonneg _) (by omega)), (fun _ _ => .ldpm rfl rfl rfl rfl (flat_at it_len xs (hp2)) (it_len _) tk86), (fun _ _ => .move rfl rfl), (fun _ _ => .move rfl rfl), (fun _ _ => .idxo rfl rfl rfl rfl rfl et66 (Int.natCast_nonneg _) (by omega)), (fun _ _ => .ldpm rfl rfl rfl rfl (flat_at it_len xs (hh)) (it_len _) tk86), (fun _ _ => .callvf0 rfl rfl cf135 rfl ⟨trivial, trivial, trivial⟩ (before_pf xs[((a + b) / 2 + m - 1 - (i + j) / 2)] xs[(i + j) / 2])), (fun _ _ => .binv (.bool true) rfl rfl rfl rfl (by rw [cmpIt_dec, hq])), (fun _ _ => .un rfl rfl rfl), trivial⟩ (by kernel_rfl) ?_
       refine .next ?_
       refine .cond rfl (fun h15 => absurd h15 (by decide)) (fun h15 => ?_)
       refine .region ?_
       refine .step rfl (.move rfl rfl) ?_
       refine .step rfl (.assign rfl rfl) ?_
       refine .nil ?_
       refine TE.blk ?_
       refine TE.setv 21 (.int .i64 (((i + j) / 2 : Nat) : Int)) rfl rfl ?_
       exact TE.round id (fun _ _ e => e) ((f - 1, i, (i + j) / 2)) ⟨i1, by show i ≤ (i + j) / 2; omega, by show (i + j) / 2 ≤ (symR a m b); omega, by show (i + j) / 2 - i ≤ f - 1; omega, by show bsP (fun c => !ltI (at_ xs ((a + b) / 2 + m - 1 - c)) (at_ xs c)) (f - 1) i ((i + j) / 2) = _; rw [← i5, bsP_step hij i4, if_neg hp]⟩ (by show (i + j) / 2 - i < j - i; omega) ⟨⟨rfl, rfl⟩, ⟨rfl, rfl⟩, ⟨rfl, rfl⟩, ⟨rfl, rfl⟩, ⟨rfl, rfl⟩, ⟨rfl, rfl⟩, ⟨rfl, rfl⟩, ⟨rfl, rfl⟩, ⟨rfl, rfl⟩, ⟨rfl, rfl⟩, trivial⟩ ⟨.inr rfl, trivial⟩
      ·skip
       have hqf : ltI xs[((a + b) / 2 + m - 1 - (i + j) / 2)] xs[(i + j) / 2] = false := by simpa using hq
       have hp :  (fun c => !ltI (at_ xs ((a + b) / 2 + m - 1 - c)) (at_ xs c)) ((i + j) / 2) = true := by simp only []; rw [at_eq hp2, at_eq hh, hqf] <;> simp
       refine .draw mixed [Ro.mk _ (Eff.mk (some (158, _)) []) [], Ro.mk _ (Eff.mk (some (159, _)) []) [], Ro.mk _ (Eff.mk (some (160, _)) []) [], Ro.mk _ (Eff.mk (some (161, _)) []) [], Ro.mk _ (Eff.mk (some (162, _)) []) [], Ro.mk _ (Eff.mk (some (163, _)) []) [0], Ro.mk _ (Eff.mk (some (164, _)) []) [0], Ro.mk _ (Eff.mk (some (165, _)) []) [], Ro.mk _ (Eff.mk (some (166, _)) []) [], Ro.mk _ (Eff.mk (some (167, _)) []) [0], Ro.mk _ (Eff.mk (some (168, _)) []) [0], Ro.mk _ (Eff.mk (some (169, _)) []) [], Ro.mk _ (Eff.mk (some (170, _)) []) [], Ro.mk _ (Eff.mk (some (171, _)) []) []] rfl ⟨(fun _ _ => .move rfl rfl), (fun _ _ => .move rfl rfl), (fun _ _ => .move rfl rfl), (fun _ _ => .move rfl rfl), (fun _ _ => .binv (.int .i64 (((a + b) / 2 + m - 1 - (i + j) / 2 : Nat) : Int)) rfl rfl rfl rfl (congrArg _ (by (try dsimp only); rw [IntKind.wrap_i64]; omega))), (fun _ _ => .idxo rfl rfl rfl rfl rfl et66 (Int.natCast_nonneg _) (by omega)), (fun _ _ => .ldpm rfl rfl rfl rfl (flat_at it_len xs (hp2)) (it_len _) tk86), (fun _ _ => .move rfl rfl), (fun _ _ => .move rfl rfl), (fun _ _ => .idxo rfl rfl rfl rfl rfl et66 (Int.natCast_nonneg _) (by omega)), (fun _ _ => .ldpm rfl rfl rfl rfl (flat_at it_len xs (hh)) (it_len _) tk86), (fun _ _ => .callvf0 rfl rfl cf135 rfl ⟨trivial, trivial, trivial⟩ (before_pf xs[((a + b) / 2 + m - 1 - (i + j) / 2)] xs[(i + j) / 2])), (fun _ _ => .binv (.bool false) rfl rfl rfl rfl (by rw [cmpIt_dec, hqf])), (fun _ _ => .un rfl rfl rfl), trivial⟩ (by kernel_rfl) ?_
       refine .next ?_
       refine .cond rfl (fun h16 => ?_) (fun h16 => absurd h16 (by decide))
       refine .region ?_
       refine .step rfl (.move rfl rfl) ?_
       refine .step rfl (.binv (.int .i64 (((i + j) / 2 + 1 : Nat) : Int)) rfl rfl rfl rfl (congrArg _ (by (try dsimp only); rw [IntKind.wrap_i64]; omega))) ?_
       refine .step rfl (.assign rfl rfl) ?_
       refine .nil ?_
       refine TE.blk ?_
       refine TE.setv 20 (.int .i64 (((i + j) / 2 + 1 : Nat) : Int)) rfl rfl ?_
       exact TE.round id (fun _ _ e => e) ((f - 1, (i + j) / 2 + 1, j)) ⟨by show (symS a m b) ≤ (i + j) / 2 + 1; omega, by show (i + j) / 2 + 1 ≤ j; omega, i3, by show j - ((i + j) / 2 + 1) ≤ f - 1; omega, by show bsP (fun c => !ltI (at_ xs ((a + b) / 2 + m - 1 - c)) (at_ xs c)) (f - 1) ((i + j) / 2 + 1) j = _; rw [← i5, bsP_step hij i4, if_pos hp]⟩ (by show j - ((i + j) / 2 + 1) < j - i; omega) ⟨⟨rfl, rfl⟩, ⟨rfl, rfl⟩, ⟨rfl, rfl⟩, ⟨rfl, rfl⟩, ⟨rfl, rfl⟩, ⟨rfl, rfl⟩, ⟨rfl, rfl⟩, ⟨rfl, rfl⟩, ⟨rfl, rfl⟩, ⟨rfl, rfl⟩, trivial⟩ ⟨.inr rfl, trivial⟩
     ·skip
      have hij : ¬ i < j := by have q := of_decide_eq_false h13; (try dsimp only at q); omega
      have hC : symC xs a m b = i := by unfold symC; rw [← i5, bsP_end hij]
      subst hC
      refine .exit ?_
      refine TE.pass ?_
      refine TE.pass ?_
      refine TE.here ?_
      refine .next ?_
      refine .seq ?_
      refine .region ?_
      refine .step rfl (.move rfl rfl) ?_
      refine .step rfl (.move rfl rfl) ?_
      refine .step rfl (.binv (.int .i64 ((((a + b) / 2 + m - symC xs a m b) : Nat) : Int)) rfl rfl rfl rfl (congrArg _ (by (try dsimp only); rw [IntKind.wrap_i64]; omega))) ?_
      refine .step rfl (.assign rfl rfl) ?_
      refine .nil ?_
      refine .next ?_
      refine .seq ?_
      refine .joinf [(0, .ow 0 xs.length 64), (1, .d (.v (.int .i64 a))), (2, .d (.v (.int .i64 m))), (3, .d (.v (.int .i64 b))), (4, .d (.fn (.func 135) [] [])), (18, .f (.v (.int .i64 ((((a + b) / 2) : Nat) : Int)))), (20, .d (.v (.int .i64 (((symC xs a m b) : Nat) : Int)))), (24, .f (.v (.int .i64 ((((a + b) / 2 + m - symC xs a m b) : Nat) : Int))))] [(0, .mrow 0 86 64 (((symX xs a m b)).flatMap It.dv))] (¬ m - a = 1 ∧ ¬ b - m = 1) (fun hphi => ?_) ?_
      ·skip
       obtain ⟨hm1, hb1⟩ := hphi
       have hSR := symSR a m b
       have hCB := symC_bd xs ham hmb
       have hxl := symX_len xs a m b
       refine .seq ?_
       refine .joinf [(0, .ow 0 xs.length 64), (1, .d (.v (.int .i64 a))), (2, .d (.v (.int .i64 m))), (3, .d (.v (.int .i64 b))), (4, .d (.fn (.func 135) [] [])), (18, .f (.v (.int .i64 ((((a + b) / 2) : Nat) : Int)))), (24, .f (.v (.int .i64 ((((a + b) / 2 + m - symC xs a m b) : Nat) : Int))))] [(0, .mrow 0 86 64 (((if a < symC xs a m b ∧ symC xs a m b < (a + b) / 2 then symM n (symX xs a m b) a (symC xs a m b) ((a + b) / 2) else symX xs a m b)).flatMap It.dv))] (¬ m - a = 1 ∧ ¬ b - m = 1) (fun hphi => ?_) ?_
       ·skip
        obtain ⟨hm1, hb1⟩ := hphi
        have hSR := symSR a m b
        have hCB := symC_bd xs ham hmb
        have hxl := symX_len xs a m b
        have e : symM (n + 1) xs a m b = if ((a + b) / 2) < ((a + b) / 2 + m - symC xs a m b) ∧ ((a + b) / 2 + m - symC xs a m b) < b then symM n (if a < symC xs a m b ∧ symC xs a m b < (a + b) / 2 then symM n (symX xs a m b) a (symC xs a m b) ((a + b) / 2) else symX xs a m b) ((a + b) / 2) ((a + b) / 2 + m - symC xs a m b) b else (if a < symC xs a m b ∧ symC xs a m b < (a + b) / 2 then symM n (symX xs a m b) a (symC xs a m b) ((a + b) / 2) else symX xs a m b) := by conv => lhs; unfold symM; rw [if_neg hm1, if_neg hb1]
        have hzl0 : ((if a < symC xs a m b ∧ symC xs a m b < (a + b) / 2 then symM n (symX xs a m b) a (symC xs a m b) ((a + b) / 2) else symX xs a m b)).length = xs.length := by by_cases q : a < symC xs a m b ∧ symC xs a m b < (a + b) / 2; all_goals simp only [q, if_true, if_false, and_self, symM_len, hxl]
        rw [e]
        generalize (if a < symC xs a m b ∧ symC xs a m b < (a + b) / 2 then symM n (symX xs a m b) a (symC xs a m b) ((a + b) / 2) else symX xs a m b) = zs at hzl0 ⊢
        refine .seq ?_
        by_cases hc1 : ((a + b) / 2) < ((a + b) / 2 + m - symC xs a m b)
        ·skip
         by_cases hc2 : ((a + b) / 2 + m - symC xs a m b) < b
         ·skip
          rw [if_pos ⟨hc1, hc2⟩]
          refine .region ?_
          refine .step rfl (.move rfl rfl) ?_
          refine .step rfl (.move rfl rfl) ?_
          refine .step rfl (.binv (.bool true) rfl rfl rfl rfl (congrArg Value.bool (decide_eq_true (by (try dsimp only); omega)))) ?_
          refine .step rfl (.move rfl rfl) ?_
          refine .go 209 rfl rfl rfl rfl (.move rfl rfl) ?_
          refine .go 209 rfl rfl rfl rfl (.move rfl rfl) ?_
          refine .go 209 rfl rfl rfl rfl (.binv (.bool true) rfl rfl rfl rfl (congrArg Value.bool (decide_eq_true (by (try dsimp only); omega)))) ?_
          refine .step rfl (.pick rfl rfl rfl) ?_
          refine .nil ?_
          refine .next ?_
          refine .cond rfl (fun h19 => ?_) (fun h19 => absurd h19 (by decide))
          refine .region ?_
          refine .step rfl (.move rfl rfl) ?_
          refine .step rfl (.move rfl rfl) ?_
          refine .step rfl (.move rfl rfl) ?_
          refine .step rfl (.move rfl rfl) ?_
          refine .step rfl (.move rfl rfl) ?_
          refine .step rfl (.callm (o' := .mrow 0 86 64 ((symM n zs ((a + b) / 2) ((a + b) / 2 + m - symC xs a m b) b).flatMap It.dv)) 0 rfl cf178 rfl rfl rfl rfl (by simp) rfl rfl ((hzl0) ▸ ih (zs) (((a + b) / 2)) (((a + b) / 2 + m - symC xs a m b)) (b) (by omega) (by omega) (by rw [hzl0]; omega) (by rw [hzl0]; omega) (by omega))) ?_
          refine .nil ?_
          exact TE.retm0 0 rfl rfl rfl
         ·skip
          rw [if_neg (fun q => hc2 q.2)]
          refine .region ?_
          refine .step rfl (.move rfl rfl) ?_
          refine .step rfl (.move rfl rfl) ?_
          refine .step rfl (.binv (.bool true) rfl rfl rfl rfl (congrArg Value.bool (decide_eq_true (by (try dsimp only); omega)))) ?_
          refine .step rfl (.move rfl rfl) ?_
          refine .go 209 rfl rfl rfl rfl (.move rfl rfl) ?_
          refine .go 209 rfl rfl rfl rfl (.move rfl rfl) ?_
          refine .go 209 rfl rfl rfl rfl (.binv (.bool false) rfl rfl rfl rfl (congrArg Value.bool (decide_eq_false (by (try dsimp only); omega)))) ?_
          refine .step rfl (.pick rfl rfl rfl) ?_
          refine .nil ?_
          refine .next ?_
          refine .cond rfl (fun h20 => absurd h20 (by decide)) (fun h20 => ?_)
          refine .skip ?_
          exact TE.retm0 0 rfl rfl rfl
        ·skip
         rw [if_neg (fun q => hc1 q.1)]
         refine .region ?_
         refine .step rfl (.move rfl rfl) ?_
         refine .step rfl (.move rfl rfl) ?_
         refine .step rfl (.binv (.bool false) rfl rfl rfl rfl (congrArg Value.bool (decide_eq_false (by (try dsimp only); omega)))) ?_
         refine .step rfl (.move rfl rfl) ?_
         refine .no 209 rfl rfl rfl rfl rfl rfl rfl ?_
         refine .no 209 rfl rfl rfl rfl rfl rfl rfl ?_
         refine .no 209 rfl rfl rfl rfl rfl rfl rfl ?_
         refine .step rfl (.pick rfl rfl rfl) ?_
         refine .nil ?_
         refine .next ?_
         refine .cond rfl (fun h21 => absurd h21 (by decide)) (fun h21 => ?_)
         refine .skip ?_
         exact TE.retm0 0 rfl rfl rfl
       ·skip
        refine .seq ?_
        by_cases hc1 : a < (symC xs a m b)
        ·skip
         by_cases hc2 : (symC xs a m b) < ((a + b) / 2)
         ·skip
          refine .region ?_
          refine .step rfl (.move rfl rfl) ?_
          refine .step rfl (.move rfl rfl) ?_
          refine .step rfl (.binv (.bool true) rfl rfl rfl rfl (congrArg Value.bool (decide_eq_true (by (try dsimp only); omega)))) ?_
          refine .step rfl (.move rfl rfl) ?_
          refine .go 195 rfl rfl rfl rfl (.move rfl rfl) ?_
          refine .go 195 rfl rfl rfl rfl (.move rfl rfl) ?_
          refine .go 195 rfl rfl rfl rfl (.binv (.bool true) rfl rfl rfl rfl (congrArg Value.bool (decide_eq_true (by (try dsimp only); omega)))) ?_
          refine .step rfl (.pick rfl rfl rfl) ?_
          refine .nil ?_
          refine .next ?_
          refine .cond rfl (fun h24 => ?_) (fun h24 => absurd h24 (by decide))
          refine .region ?_
          refine .step rfl (.move rfl rfl) ?_
          refine .step rfl (.move rfl rfl) ?_
          refine .step rfl (.move rfl rfl) ?_
          refine .step rfl (.move rfl rfl) ?_
          refine .step rfl (.move rfl rfl) ?_
          refine .step rfl (.callm (o' := .mrow 0 86 64 ((symM n (symX xs a m b) a (symC xs a m b) ((a + b) / 2)).flatMap It.dv)) 0 rfl cf178 rfl rfl rfl rfl (by simp) rfl rfl ((symX_len xs a m b) ▸ ih ((symX xs a m b)) (a) ((symC xs a m b)) (((a + b) / 2)) (by omega) (by omega) (by rw [symX_len xs a m b]; omega) (by rw [symX_len xs a m b]; omega) (by omega))) ?_
          refine .nil ?_
          refine TE.obj 0 (.mrow 0 86 64 (((if a < symC xs a m b ∧ symC xs a m b < (a + b) / 2 then symM n (symX xs a m b) a (symC xs a m b) ((a + b) / 2) else symX xs a m b)).flatMap It.dv)) rfl (by rw [if_pos ⟨hc1, hc2⟩]) ?_
          exact TE.joinf (⟨hm1, hb1⟩) ⟨⟨rfl, rfl⟩, ⟨rfl, rfl⟩, ⟨rfl, rfl⟩, ⟨rfl, rfl⟩, ⟨rfl, rfl⟩, ⟨rfl, rfl⟩, ⟨rfl, rfl⟩, trivial⟩ ⟨.inr rfl, trivial⟩
         ·skip
          refine .region ?_
          refine .step rfl (.move rfl rfl) ?_
          refine .step rfl (.move rfl rfl) ?_
          refine .step rfl (.binv (.bool true) rfl rfl rfl rfl (congrArg Value.bool (decide_eq_true (by (try dsimp only); omega)))) ?_
          refine .step rfl (.move rfl rfl) ?_
          refine .go 195 rfl rfl rfl rfl (.move rfl rfl) ?_
          refine .go 195 rfl rfl rfl rfl (.move rfl rfl) ?_
          refine .go 195 rfl rfl rfl rfl (.binv (.bool false) rfl rfl rfl rfl (congrArg Value.bool (decide_eq_false (by (try dsimp only); omega)))) ?_
          refine .step rfl (.pick rfl rfl rfl) ?_
          refine .nil ?_
          refine .next ?_
          refine .cond rfl (fun h25 => absurd h25 (by decide)) (fun h25 => ?_)
          refine .skip ?_
          refine TE.obj 0 (.mrow 0 86 64 (((if a < symC xs a m b ∧ symC xs a m b < (a + b) / 2 then symM n (symX xs a m b) a (symC xs a m b) ((a + b) / 2) else symX xs a m b)).flatMap It.dv)) rfl (by rw [if_neg (fun q => hc2 q.2)]) ?_
          exact TE.joinf (⟨hm1, hb1⟩) ⟨⟨rfl, rfl⟩, ⟨rfl, rfl⟩, ⟨rfl, rfl⟩, ⟨rfl, rfl⟩, ⟨rfl, rfl⟩, ⟨rfl, rfl⟩, ⟨rfl, rfl⟩, trivial⟩ ⟨.inr rfl, trivial⟩
        ·skip
         refine .region ?_
         refine .step rfl (.move rfl rfl) ?_
         refine .step rfl (.move rfl rfl) ?_
         refine .step rfl (.binv (.bool false) rfl rfl rfl rfl (congrArg Value.bool (decide_eq_false (by (try dsimp only); omega)))) ?_
         refine .step rfl (.move rfl rfl) ?_
         refine .no 195 rfl rfl rfl rfl rfl rfl rfl ?_
         refine .no 195 rfl rfl rfl rfl rfl rfl rfl ?_
         refine .no 195 rfl rfl rfl rfl rfl rfl rfl ?_
         refine .step rfl (.pick rfl rfl rfl) ?_
         refine .nil ?_
         refine .next ?_
         refine .cond rfl (fun h26 => absurd h26 (by decide)) (fun h26 => ?_)
         refine .skip ?_
         refine TE.obj 0 (.mrow 0 86 64 (((if a < symC xs a m b ∧ symC xs a m b < (a + b) / 2 then symM n (symX xs a m b) a (symC xs a m b) ((a + b) / 2) else symX xs a m b)).flatMap It.dv)) rfl (by rw [if_neg (fun q => hc1 q.1)]) ?_
         exact TE.joinf (⟨hm1, hb1⟩) ⟨⟨rfl, rfl⟩, ⟨rfl, rfl⟩, ⟨rfl, rfl⟩, ⟨rfl, rfl⟩, ⟨rfl, rfl⟩, ⟨rfl, rfl⟩, ⟨rfl, rfl⟩, trivial⟩ ⟨.inr rfl, trivial⟩
      ·skip
       refine .seq ?_
       by_cases hc1 : (symC xs a m b) < m
       ·skip
        by_cases hc2 : m < ((a + b) / 2 + m - symC xs a m b)
        ·skip
         refine .region ?_
         refine .step rfl (.move rfl rfl) ?_
         refine .step rfl (.move rfl rfl) ?_
         refine .step rfl (.binv (.bool true) rfl rfl rfl rfl (congrArg Value.bool (decide_eq_true (by (try dsimp only); omega)))) ?_
         refine .step rfl (.move rfl rfl) ?_
         refine .go 181 rfl rfl rfl rfl (.move rfl rfl) ?_
         refine .go 181 rfl rfl rfl rfl (.move rfl rfl) ?_
         refine .go 181 rfl rfl rfl rfl (.binv (.bool true) rfl rfl rfl rfl (congrArg Value.bool (decide_eq_true (by (try dsimp only); omega)))) ?_
         refine .step rfl (.pick rfl rfl rfl) ?_
         refine .nil ?_
         refine .next ?_
         refine .cond rfl (fun h29 => ?_) (fun h29 => absurd h29 (by decide))
         refine .region ?_
         refine .step rfl (.move rfl rfl) ?_
         refine .step rfl (.move rfl rfl) ?_
         refine .step rfl (.move rfl rfl) ?_
         refine .step rfl (.move rfl rfl) ?_
         refine .step rfl (.move rfl rfl) ?_
         refine .step rfl (.callm (o' := .mrow 0 86 64 ((rotI xs (symC xs a m b) m ((a + b) / 2 + m - symC xs a m b)).flatMap It.dv)) 0 rfl cf183 rfl rfl rfl rfl (by simp) rfl rfl (rot_pm xs (symC xs a m b) m ((a + b) / 2 + m - symC xs a m b) (by omega) (by omega) (by omega) (by omega))) ?_
         refine .nil ?_
         refine TE.obj 0 (.mrow 0 86 64 (((symX xs a m b)).flatMap It.dv)) rfl (by unfold symX; rw [if_pos ⟨hc1, hc2⟩]) ?_
         exact TE.joinf (⟨hm1, hb1⟩) ⟨⟨rfl, rfl⟩, ⟨rfl, rfl⟩, ⟨rfl, rfl⟩, ⟨rfl, rfl⟩, ⟨rfl, rfl⟩, ⟨rfl, rfl⟩, ⟨rfl, rfl⟩, ⟨rfl, rfl⟩, trivial⟩ ⟨.inr rfl, trivial⟩
        ·skip
         refine .region ?_
         refine .step rfl (.move rfl rfl) ?_
         refine .step rfl (.move rfl rfl) ?_
         refine .step rfl (.binv (.bool true) rfl rfl rfl rfl (congrArg Value.bool (decide_eq_true (by (try dsimp only); omega)))) ?_
         refine .step rfl (.move rfl rfl) ?_
         refine .go 181 rfl rfl rfl rfl (.move rfl rfl) ?_
         refine .go 181 rfl rfl rfl rfl (.move rfl rfl) ?_
         refine .go 181 rfl rfl rfl rfl (.binv (.bool false) rfl rfl rfl rfl (congrArg Value.bool (decide_eq_false (by (try dsimp only); omega)))) ?_
         refine .step rfl (.pick rfl rfl rfl) ?_
         refine .nil ?_
         refine .next ?_
         refine .cond rfl (fun h30 => absurd h30 (by decide)) (fun h30 => ?_)
         refine .skip ?_
         refine TE.obj 0 (.mrow 0 86 64 (((symX xs a m b)).flatMap It.dv)) rfl (by unfold symX; rw [if_neg (fun q => hc2 q.2)]) ?_
         exact TE.joinf (⟨hm1, hb1⟩) ⟨⟨rfl, rfl⟩, ⟨rfl, rfl⟩, ⟨rfl, rfl⟩, ⟨rfl, rfl⟩, ⟨rfl, rfl⟩, ⟨rfl, rfl⟩, ⟨rfl, rfl⟩, ⟨rfl, rfl⟩, trivial⟩ ⟨.inr rfl, trivial⟩
       ·skip
        refine .region ?_
        refine .step rfl (.move rfl rfl) ?_
        refine .step rfl (.move rfl rfl) ?_
        refine .step rfl (.binv (.bool false) rfl rfl rfl rfl (congrArg Value.bool (decide_eq_false (by (try dsimp only); omega)))) ?_
        refine .step rfl (.move rfl rfl) ?_
        refine .no 181 rfl rfl rfl rfl rfl rfl rfl ?_
        refine .no 181 rfl rfl rfl rfl rfl rfl rfl ?_
        refine .no 181 rfl rfl rfl rfl rfl rfl rfl ?_
        refine .step rfl (.pick rfl rfl rfl) ?_
        refine .nil ?_
        refine .next ?_
        refine .cond rfl (fun h31 => absurd h31 (by decide)) (fun h31 => ?_)
        refine .skip ?_
        refine TE.obj 0 (.mrow 0 86 64 (((symX xs a m b)).flatMap It.dv)) rfl (by unfold symX; rw [if_neg (fun q => hc1 q.1)]) ?_
        exact TE.joinf (⟨hm1, hb1⟩) ⟨⟨rfl, rfl⟩, ⟨rfl, rfl⟩, ⟨rfl, rfl⟩, ⟨rfl, rfl⟩, ⟨rfl, rfl⟩, ⟨rfl, rfl⟩, ⟨rfl, rfl⟩, ⟨rfl, rfl⟩, trivial⟩ ⟨.inr rfl, trivial⟩
    ·skip
     refine .seq ?_
     refine .region ?_
     refine .step rfl (.move rfl rfl) ?_
     refine .step rfl (.move rfl rfl) ?_
     refine .step rfl (.bin rfl rfl rfl rfl) ?_
     refine .nil ?_
     refine .next ?_
     refine .cond rfl (fun h32 => ?_) (fun h32 => ?_)
     ·skip
      have hmm : ((a + b) / 2) < m := by have q := of_decide_eq_true h32; (try dsimp only at q); omega
      have hS : symS a m b = ((a + b) / 2) + m - b := by unfold symS; rw [if_pos hmm]
      have hR : symR a m b = ((a + b) / 2) := by unfold symR; rw [if_pos hmm]
      refine .seq ?_
      refine .region ?_
      refine .step rfl (.move rfl rfl) ?_
      refine .step rfl (.move rfl rfl) ?_
      refine .step rfl (.binv (.int .i64 (((a + b) / 2 + m - b : Nat) : Int)) rfl rfl rfl rfl (congrArg _ (by (try dsimp only); rw [IntKind.wrap_i64]; omega))) ?_
      refine .step rfl (.assign rfl rfl) ?_
      refine .nil ?_
      refine .next ?_
      refine .region ?_
      refine .step rfl (.move rfl rfl) ?_
      refine .step rfl (.assign rfl rfl) ?_
      refine .nil ?_
      refine TE.setv 20 (.int .i64 ((symS a m b : Nat) : Int)) rfl (by rw [hS]) ?_
      refine TE.setv 21 (.int .i64 ((symR a m b : Nat) : Int)) rfl (by rw [hR]) ?_
      exact TE.joinf (⟨hm1, hb1⟩) ⟨⟨rfl, rfl⟩, ⟨rfl, rfl⟩, ⟨rfl, rfl⟩, ⟨rfl, rfl⟩, ⟨rfl, rfl⟩, ⟨rfl, rfl⟩, ⟨rfl, rfl⟩, ⟨rfl, rfl⟩, ⟨rfl, rfl⟩, trivial⟩ ⟨.inr rfl, trivial⟩
     ·skip
      have hmm : ¬ ((a + b) / 2) < m := by have q := of_decide_eq_false h32; (try dsimp only at q); omega
      have hS : symS a m b = a := by unfold symS; rw [if_neg hmm]
      have hR : symR a m b = m := by unfold symR; rw [if_neg hmm]
      refine .seq ?_
      refine .region ?_
      refine .step rfl (.move rfl rfl) ?_
      refine .step rfl (.assign rfl rfl) ?_
      refine .nil ?_
      refine .next ?_
      refine .region ?_
      refine .step rfl (.move rfl rfl) ?_
      refine .step rfl (.assign rfl rfl) ?_
      refine .nil ?_
      refine TE.setv 20 (.int .i64 ((symS a m b : Nat) : Int)) rfl (by rw [hS]) ?_
      refine TE.setv 21 (.int .i64 ((symR a m b : Nat) : Int)) rfl (by rw [hR]) ?_
      exact TE.joinf (⟨hm1, hb1⟩) ⟨⟨rfl, rfl⟩, ⟨rfl, rfl⟩, ⟨rfl, rfl⟩, ⟨rfl, rfl⟩, ⟨rfl, rfl⟩, ⟨rfl, rfl⟩, ⟨rfl, rfl⟩, ⟨rfl, rfl⟩, ⟨rfl, rfl⟩, trivial⟩ ⟨.inr rfl, trivial⟩
theorem sym_pm (n : Nat) : ∀ (xs : List It) (a m b : Nat), a < m → m < b → b ≤ xs.length → xs.length ≤ 1048576 → b - a ≤ n → PM Tryz.prog 178 [.ow 0 xs.length 64, .d (.v (.int .i64 a)), .d (.v (.int .i64 m)), .d (.v (.int .i64 b)), .d (.fn (.func 135) [] [])] (.mrow 0 86 64 ((xs).flatMap It.dv)) (.mrow 0 86 64 ((symM n xs a m b).flatMap It.dv)) (.d (.tp [])) := by
  induction n with
  | zero => intro xs a m b h1 h2 h3 h4 h5; exfalso; omega
  | succ n ih => intro xs a m b h1 h2 h3 h4 h5; exact sym_step n ih xs a m b h1 h2 h3 h4 h5
theorem stable_pm (xs : List It) (hx : xs.length ≤ 1048576) : PM Tryz.prog 167 [.ow 0 xs.length 64, .d (.v (.int .i64 xs.length)), .d (.fn (.func 135) [] [])] (.mrow 0 86 64 ((xs).flatMap It.dv)) (.mrow 0 86 64 ((stI xs).flatMap It.dv)) (.d (.tp [])) := by
 refine PM.enter (fn := Tryz.f167) Tryz.func167 rfl Tryz.ntmps167 rfl rfl rfl (fun w0 K0 ob => .w ?_)
 refine .g 4 1 rfl ?_
 refine TE.setv 7 (.int .i64 ((0 : Nat) : Int)) rfl rfl ?_
 refine TE.setv 8 (.int .i64 ((0 + 20 : Nat) : Int)) rfl rfl ?_
 refine .lo (T := Nat × List It) 0 1 rfl (fun s => s.2.length = xs.length ∧ s.1 ≤ xs.length ∧ stB (xs.length - s.1) s.2 s.1 = stB xs.length xs 0) (fun s => xs.length - s.1) [0, 1, 2] [] (fun s => [(6, .f (.v (.int .i64 ((20 : Nat) : Int)))), (7, .d (.v (.int .i64 ((s.1 : Nat) : Int)))), (8, .d (.v (.int .i64 ((s.1 + 20 : Nat) : Int))))]) (fun s => [(0, .mrow 0 86 64 ((s.2).flatMap It.dv))]) ((0, xs)) rfl rfl ⟨rfl, Nat.zero_le _, rfl⟩ rfl rfl rfl (fun s hI => ?_)
 obtain ⟨a, ys⟩ := s
 obtain ⟨i1, i2, i3⟩ := hI
 have i1 : ys.length = xs.length := i1
 have i2 : a ≤ xs.length := i2
 have i3 : stB (xs.length - a) ys a = stB xs.length xs 0 := i3
 refine .q 3 1 rfl rfl (fun h1 => ?_) (fun h1 => ?_)
 ·skip
  have ha : a + 20 ≤ xs.length := by have q := of_decide_eq_true h1; (try dsimp only at q); omega
  refine .t 4 1 rfl rfl (.cm 0 (.mrow 0 86 64 ((insS ys a (a + 20)).flatMap It.dv)) rfl (i1 ▸ ins_pm ys a (a + 20) (by omega) (by omega) (by omega)) rfl) ?_
  refine .g 2 1 rfl ?_
  refine TE.setv 7 (.int .i64 ((a + 20 : Nat) : Int)) rfl rfl ?_
  refine .t 2 1 rfl rfl (.bv (.int .i64 ((a + 20 + 20 : Nat) : Int)) rfl (congrArg _ (by (try dsimp only); rw [IntKind.wrap_i64]; omega))) ?_
  refine .g 1 1 rfl ?_
  refine TE.setv 8 (.int .i64 ((a + 20 + 20 : Nat) : Int)) rfl rfl ?_
  exact .rd 0 1 id (fun _ _ e => e) rfl ((a + 20, insS ys a (a + 20))) ⟨by show (insS ys a (a + 20)).length = _; rw [insS_len]; exact i1, by show a + 20 ≤ xs.length; omega, by show stB (xs.length - (a + 20)) (insS ys a (a + 20)) (a + 20) = _; rw [← i3, stB_step (f := xs.length - a) (by omega) (by omega)]; exact stB_fuel (by rw [insS_len]; omega) (by rw [insS_len]; omega)⟩ (by show xs.length - (a + 20) < xs.length - a; omega) rfl rfl rfl
 ·skip
  have ha : ¬ (a + 20 ≤ xs.length) := by have q := of_decide_eq_false h1; (try dsimp only at q); omega
  have e1 : stB xs.length xs 0 = insS ys a xs.length := by rw [← i3, stB_end (by omega), i1]
  refine .t 4 1 rfl rfl (.cm 0 (.mrow 0 86 64 ((insS ys a xs.length).flatMap It.dv)) rfl (i1 ▸ ins_pm ys a xs.length (by omega) (by omega) (by omega)) rfl) ?_
  refine TE.obj 0 (.mrow 0 86 64 ((stB xs.length xs 0).flatMap It.dv)) rfl (by rw [e1]) ?_
  refine TE.setv 6 (.int .i64 ((20 : Nat) : Int)) rfl rfl ?_
  refine .lo (T := Nat × Nat × List It) 0 1 rfl (fun s => s.2.2.length = xs.length ∧ 0 < s.2.1 ∧ stM s.1 s.2.1 s.2.2 = stI xs ∧ xs.length ≤ s.2.1 + s.1) (fun s => xs.length - s.2.1) [0, 1, 2] [] (fun s => [(6, .d (.v (.int .i64 ((s.2.1 : Nat) : Int))))]) (fun s => [(0, .mrow 0 86 64 ((s.2.2).flatMap It.dv))]) ((xs.length, 20, stB xs.length xs 0)) rfl rfl ⟨stB_len _ _ _, by show 0 < 20; decide, rfl, by show xs.length ≤ 20 + xs.length; omega⟩ rfl rfl rfl (fun s hI => ?_)
  obtain ⟨f, z, ys⟩ := s
  obtain ⟨j1, j2, j3, j4⟩ := hI
  have j1 : ys.length = xs.length := j1
  have j2 : 0 < z := j2
  have j3 : stM f z ys = stI xs := j3
  have j4 : xs.length ≤ z + f := j4
  refine .q 3 1 rfl rfl (fun h2 => ?_) (fun h2 => ?_)
  ·skip
   have hz : z < xs.length := by have q := of_decide_eq_true h2; (try dsimp only at q); omega
   refine .t 1 1 rfl rfl (.bv (.int .i64 ((2 * z : Nat) : Int)) rfl (congrArg _ (by (try dsimp only); rw [IntKind.wrap_i64]; omega))) ?_
   refine .g 2 1 rfl ?_
   refine TE.setv 7 (.int .i64 ((0 : Nat) : Int)) rfl rfl ?_
   refine TE.setv 8 (.int .i64 ((0 + 2 * z : Nat) : Int)) rfl (by rw [Nat.zero_add]) ?_
   refine .lo (T := Nat × List It) 0 1 rfl (fun s => s.2.length = xs.length ∧ s.1 ≤ xs.length ∧ stP (xs.length - s.1) s.2 z s.1 = stP ys.length ys z 0) (fun s => xs.length - s.1) [0, 1, 2] [] (fun s => [(6, .d (.v (.int .i64 ((z : Nat) : Int)))), (7, .d (.v (.int .i64 ((s.1 : Nat) : Int)))), (8, .d (.v (.int .i64 ((s.1 + 2 * z : Nat) : Int))))]) (fun s => [(0, .mrow 0 86 64 ((s.2).flatMap It.dv))]) ((0, ys)) rfl rfl ⟨j1, Nat.zero_le _, by rw [j1]; rfl⟩ rfl rfl rfl (fun s hI => ?_)
   obtain ⟨a, zs⟩ := s
   obtain ⟨k1, k2, k3⟩ := hI
   have k1 : zs.length = xs.length := k1
   have k2 : a ≤ xs.length := k2
   have k3 : stP (xs.length - a) zs z a = stP ys.length ys z 0 := k3
   refine .q 3 1 rfl rfl (fun h3 => ?_) (fun h3 => ?_)
   ·skip
    have hb2 : a + 2 * z ≤ xs.length := by have q := of_decide_eq_true h3; (try dsimp only at q); omega
    refine .t 4 1 rfl rfl (.bv (.int .i64 ((a + z : Nat) : Int)) rfl (congrArg _ (by (try dsimp only); rw [IntKind.wrap_i64]; omega))) ?_
    refine .t 2 1 rfl rfl (.cm 0 (.mrow 0 86 64 ((symM (2 * z) zs a (a + z) (a + 2 * z)).flatMap It.dv)) rfl (k1 ▸ sym_pm (2 * z) zs a (a + z) (a + 2 * z) (by omega) (by omega) (by omega) (by omega) (by omega)) rfl) ?_
    refine .g 2 1 rfl ?_
    refine TE.setv 7 (.int .i64 ((a + 2 * z : Nat) : Int)) rfl rfl ?_
    refine .t 2 1 rfl rfl (.bv (.int .i64 ((2 * z : Nat) : Int)) rfl (congrArg _ (by (try dsimp only); rw [IntKind.wrap_i64]; omega))) ?_
    refine .t 0 1 rfl rfl (.bv (.int .i64 ((a + 2 * z + 2 * z : Nat) : Int)) rfl (congrArg _ (by (try dsimp only); rw [IntKind.wrap_i64]; omega))) ?_
    refine .g 1 1 rfl ?_
    refine TE.setv 8 (.int .i64 ((a + 2 * z + 2 * z : Nat) : Int)) rfl rfl ?_
    exact .rd 0 1 id (fun _ _ e => e) rfl ((a + 2 * z, symM (2 * z) zs a (a + z) (a + 2 * z))) ⟨by show (symM (2 * z) zs a (a + z) (a + 2 * z)).length = _; rw [symM_len]; exact k1, by show a + 2 * z ≤ xs.length; omega, by show stP (xs.length - (a + 2 * z)) (symM (2 * z) zs a (a + z) (a + 2 * z)) z (a + 2 * z) = _; rw [← k3, stP_step (f := xs.length - a) (by omega) (by omega) (by omega)]; exact stP_fuel j2 (by rw [symM_len]; omega) (by rw [symM_len]; omega)⟩ (by show xs.length - (a + 2 * z) < xs.length - a; omega) rfl rfl rfl
   ·skip
    have hb2 : ¬ (a + 2 * z ≤ xs.length) := by have q := of_decide_eq_false h3; (try dsimp only at q); omega
    have e3 : stP ys.length ys z 0 = if a + z < xs.length then symM (xs.length - a) zs a (a + z) xs.length else zs := by rw [← k3, stP_end (by omega), k1]
    refine .t 2 1 rfl rfl (.bv (.int .i64 ((a + z : Nat) : Int)) rfl (congrArg _ (by (try dsimp only); rw [IntKind.wrap_i64]; omega))) ?_
    refine .q 4 1 rfl rfl (fun h4 => ?_) (fun h4 => ?_)
    ·skip
     have hm : a + z < xs.length := by have q := of_decide_eq_true h4; (try dsimp only at q); omega
     have e4 : stP ys.length ys z 0 = symM (xs.length - a) zs a (a + z) xs.length := by rw [e3, if_pos hm]
     refine .t 5 1 rfl rfl (.cm 0 (.mrow 0 86 64 ((symM (xs.length - a) zs a (a + z) xs.length).flatMap It.dv)) rfl (k1 ▸ sym_pm (xs.length - a) zs a (a + z) xs.length (by omega) (by omega) (by omega) (by omega) (by omega)) rfl) ?_
     refine .t 1 1 rfl rfl (.bv (.int .i64 ((2 * z : Nat) : Int)) rfl (congrArg _ (by (try dsimp only); rw [IntKind.wrap_i64]; omega))) ?_
     refine .g 1 1 rfl ?_
     refine TE.obj 0 (.mrow 0 86 64 ((stP ys.length ys z 0).flatMap It.dv)) rfl (by rw [e4]) ?_
     refine TE.setv 6 (.int .i64 ((2 * z : Nat) : Int)) rfl rfl ?_
     exact .rd 0 1 id (fun _ _ e => e) rfl ((f - 1, 2 * z, stP ys.length ys z 0)) ⟨by show (stP ys.length ys z 0).length = _; rw [stP_len]; exact j1, by show 0 < 2 * z; omega, by show stM (f - 1) (2 * z) (stP ys.length ys z 0) = _; rw [← j3]; exact (stM_step (by omega) (by omega)).symm, by show xs.length ≤ 2 * z + (f - 1); omega⟩ (by show xs.length - 2 * z < xs.length - z; omega) rfl rfl rfl
    ·skip
     have hm : ¬ (a + z < xs.length) := by have q := of_decide_eq_false h4; (try dsimp only at q); omega
     have e4 : stP ys.length ys z 0 = zs := by rw [e3, if_neg hm]
     refine .t 1 1 rfl rfl (.bv (.int .i64 ((2 * z : Nat) : Int)) rfl (congrArg _ (by (try dsimp only); rw [IntKind.wrap_i64]; omega))) ?_
     refine .g 1 1 rfl ?_
     refine TE.obj 0 (.mrow 0 86 64 ((stP ys.length ys z 0).flatMap It.dv)) rfl (by rw [e4]) ?_
     refine TE.setv 6 (.int .i64 ((2 * z : Nat) : Int)) rfl rfl ?_
     exact .rd 0 1 id (fun _ _ e => e) rfl ((f - 1, 2 * z, stP ys.length ys z 0)) ⟨by show (stP ys.length ys z 0).length = _; rw [stP_len]; exact j1, by show 0 < 2 * z; omega, by show stM (f - 1) (2 * z) (stP ys.length ys z 0) = _; rw [← j3]; exact (stM_step (by omega) (by omega)).symm, by show xs.length ≤ 2 * z + (f - 1); omega⟩ (by show xs.length - 2 * z < xs.length - z; omega) rfl rfl rfl
  ·skip
   have hz : ¬ (z < xs.length) := by have q := of_decide_eq_false h2; (try dsimp only at q); omega
   have e2 : ys = stI xs := by rw [← j3, stM_end (by omega)]
   subst e2
   exact .z 0 1 rfl (TE.retm0 0 rfl rfl rfl)
theorem sort_pm (xs : List It) (hx : xs.length ≤ 1048576) : PM Tryz.prog 134 [.ow 0 xs.length 64, .d (.fn (.func 135) [] [])] (.mrow 0 86 64 ((xs).flatMap It.dv)) (.mrow 0 86 64 ((stI xs).flatMap It.dv)) (.d (.tp [])) := by
 refine PM.enter (fn := Tryz.f134) Tryz.func134 rfl Tryz.ntmps134 rfl rfl rfl (fun w0 K0 ob => .w ?_)
 refine .t 4 1 rfl rfl (.cm 0 (.mrow 0 86 64 ((stI xs).flatMap It.dv)) rfl (stable_pm xs hx) rfl) ?_
 exact .z 0 1 rfl (TE.retm0 0 rfl rfl rfl)
theorem rev_pm (xs : List It) (hx : xs.length ≤ 1048576) : PM Tryz.prog 133 [.ow 0 xs.length 64] (.mrow 0 86 64 ((xs).flatMap It.dv)) (.mrow 0 86 64 ((rvI xs).flatMap It.dv)) (.d (.tp [])) := by
 refine PM.enter (fn := Tryz.f133) Tryz.func133 rfl Tryz.ntmps133 rfl rfl rfl (fun w0 K0 ob => .w ?_)
 refine .g 5 1 rfl ?_
 refine TE.setv 2 (.int .i64 ((0 : Nat) : Int)) rfl rfl ?_
 refine TE.setv 3 (.int .i64 ((xs.length : Int) - 1 - ((0 : Nat) : Int))) rfl (congrArg _ (by rw [IntKind.wrap_i64]; omega)) ?_
 refine .lo (T := Nat × List It) 0 1 rfl (fun s => s.2.length = xs.length ∧ s.1 ≤ xs.length ∧ rvN (xs.length - s.1) s.2 s.1 = rvI xs) (fun s => xs.length - s.1) [0] [] (fun s => [(2, .d (.v (.int .i64 ((s.1 : Nat) : Int)))), (3, .d (.v (.int .i64 ((xs.length : Int) - 1 - (s.1 : Int)))))]) (fun s => [(0, .mrow 0 86 64 ((s.2).flatMap It.dv))]) ((0, xs)) rfl rfl ⟨rfl, Nat.zero_le _, rfl⟩ rfl rfl rfl (fun s hI => ?_)
 obtain ⟨i, ys⟩ := s
 obtain ⟨i1, i2, i3⟩ := hI
 have i1 : ys.length = xs.length := i1
 have i2 : i ≤ xs.length := i2
 have i3 : rvN (xs.length - i) ys i = rvI xs := i3
 refine .q 3 1 rfl rfl (fun h1 => ?_) (fun h1 => ?_)
 ·skip
  have hij : i + 1 + i < xs.length := by have q := of_decide_eq_true h1; (try dsimp only at q); omega
  have hil : i < ys.length := by omega
  have hjl : xs.length - 1 - i < ys.length := by omega
  refine TE.setv 3 (.int .i64 ((xs.length - 1 - i : Nat) : Int)) rfl (congrArg _ (by (try dsimp only); omega)) ?_
  refine .d 0 1 rfl ?_
  refine .v 6 1 [0] rfl rfl (fun _ _ => .ixo rfl (Int.natCast_nonneg _) (by omega)) ?_
  refine .v 0 1 [0] rfl rfl (fun _ _ => .ldpm rfl rfl rfl rfl (flat_at it_len ys (hjl)) (it_len _) tk86) ?_
  refine .v 2 1 [0] rfl rfl (fun _ _ => .ixo rfl (Int.natCast_nonneg _) (by omega)) ?_
  refine .v 0 1 [0] rfl rfl (fun _ _ => .ldpm rfl rfl rfl rfl (flat_at it_len ys (hil)) (it_len _) tk86) ?_
  refine .v 0 1 [0] rfl rfl (fun _ _ => .ixo rfl (Int.natCast_nonneg _) (by omega)) ?_
  refine .t 0 1 (E := ⟨none, [(0, _)]⟩) [0] rfl rfl (fun _ _ => .storerm (xs := ys) (enc := It.dv) (ys[xs.length - 1 - i]) rfl rfl rfl rfl rfl rfl (fun _ => rfl) sz86 rfl (hil)) ?_
  refine .v 0 1 [0] rfl rfl (fun _ _ => .ixo rfl (Int.natCast_nonneg _) (by omega)) ?_
  refine .t 0 1 (E := ⟨none, [(0, _)]⟩) [0] rfl rfl (fun _ _ => .storerm (xs := ys.set i ys[xs.length - 1 - i]) (enc := It.dv) (ys[i]) rfl rfl rfl rfl rfl rfl (fun _ => rfl) sz86 rfl (by rw [List.length_set]; exact hjl)) ?_
  refine .y 0 1 rfl (by kernel_rfl) ?_
  refine .t 1 1 rfl rfl (.bv (.int .i64 ((i + 1 : Nat) : Int)) rfl (congrArg _ (by (try dsimp only); rw [IntKind.wrap_i64]; omega))) ?_
  refine .t 1 1 rfl rfl (.bv (.int .i64 ((xs.length : Int) - 1 - ((i + 1 : Nat) : Int))) rfl (congrArg _ (by (try dsimp only); rw [IntKind.wrap_i64]; omega))) ?_
  refine .g 2 1 rfl ?_
  refine TE.obj 0 (.mrow 0 86 64 ((swI ys i (xs.length - 1 - i)).flatMap It.dv)) rfl (by unfold swI; rw [at_eq hil, at_eq hjl]) ?_
  refine TE.setv 2 (.int .i64 ((i + 1 : Nat) : Int)) rfl rfl ?_
  refine TE.setv 3 (.int .i64 ((xs.length : Int) - 1 - ((i + 1 : Nat) : Int))) rfl rfl ?_
  exact .rd 0 1 id (fun _ _ e => e) rfl ((i + 1, swI ys i (xs.length - 1 - i))) ⟨by show (swI ys i (xs.length - 1 - i)).length = _; rw [swI_len]; exact i1, by show i + 1 ≤ xs.length; omega, by show rvN (xs.length - (i + 1)) (swI ys i (xs.length - 1 - i)) (i + 1) = _; rw [← i3, rvN_step (f := xs.length - i) (by omega) (by omega), i1]; rfl⟩ (by show xs.length - (i + 1) < xs.length - i; omega) rfl rfl rfl
 ·skip
  have hij : ¬ i + 1 + i < xs.length := by have q := of_decide_eq_false h1; (try dsimp only at q); omega
  have e : ys = rvI xs := by rw [← i3, rvN_end (by omega)]
  subst e
  exact .z 0 1 rfl (TE.retm0 0 rfl rfl rfl)
theorem clip_pc (xs : List It) : PC Tryz.prog 136 [slT It.dv 64 xs] (slT It.dv 64 xs) := by
 refine PC.enter (fn := Tryz.f136) Tryz.func136 rfl Tryz.ntmps136 rfl (fun w0 K0 => .w ?_)
 refine .t 6 1 rfl rfl (.slice3 rfl rfl rfl et66 rfl rfl) ?_
 exact .z 1 1 rfl (TE.retc rfl rfl rfl)
theorem empty_pf : PF Tryz.prog 128 [] (.ag (hdv (tagH 122 []))) := by
 refine PF.enter (fn := Tryz.f128) Tryz.func128 rfl Tryz.ntmps128 rfl (fun w0 => .w ?_)
 refine .t 1 1 rfl rfl (.cf (.nil2 (tag_pf 122 [] (by decide) (by decide) (by simp [textLen, totalLen, H.l_len]))) rfl) ?_
 exact .z 1 2 rfl (TE.retf rfl rfl rfl (pl_ag (pl_h _)))
theorem leaf_pf (x : It) : PF Tryz.prog 129 [.ag x.dv] (.ag (hdv (tagH 108 [H.l x.ix, H.l x.vl]))) := by
 refine PF.enter (fn := Tryz.f129) Tryz.func129 rfl Tryz.ntmps129 rfl (fun w0 => .w ?_)
 refine .g 2 1 rfl ?_
 refine TE.frzb 1 rfl rfl rfl rfl ?_
 refine .d 0 3 rfl ?_
 refine .t 4 3 (E := ⟨some (7, _), [(3, _)]⟩) [3] rfl rfl (fun _ _ => .ba 3 rfl) ?_
 refine .v 0 4 [3] rfl rfl (fun _ _ => .cf (tag_pf 108 [H.l x.ix, H.l x.vl] (by decide) (by decide) (by simp [textLen, totalLen, H.l_len])) rfl) ?_
 refine .y 1 4 rfl (by kernel_rfl) ?_
 exact .z 0 4 rfl (TE.retf rfl rfl rfl (pl_ag (pl_h _)))
theorem node_pf (a b : H) : PF Tryz.prog 131 [.ag (hdv a), .ag (hdv b)] (.ag (hdv (tagH 110 [H.l a, H.l b]))) := by
 refine PF.enter (fn := Tryz.f131) Tryz.func131 rfl Tryz.ntmps131 rfl (fun w0 => .w ?_)
 refine .g 3 1 rfl ?_
 refine TE.frzb 2 rfl rfl rfl rfl ?_
 refine TE.frzb 3 rfl rfl rfl rfl ?_
 refine .d 0 4 rfl ?_
 refine .t 2 4 (E := ⟨some (7, _), [(4, _)]⟩) [4] rfl rfl (fun _ _ => .ba 4 rfl) ?_
 refine .v 0 5 [4] rfl rfl (fun _ _ => .cf (tag_pf 110 [H.l a, H.l b] (by decide) (by decide) (by simp [textLen, totalLen, H.l_len])) rfl) ?_
 refine .y 1 5 rfl (by kernel_rfl) ?_
 exact .z 0 5 rfl (TE.retf rfl rfl rfl (pl_ag (pl_h _)))
theorem rempty_pf : PF Tryz.prog 68 [] (.ag (hdv (tagH 122 []))) := by
 refine PF.enter (fn := Tryz.f68) Tryz.func68 rfl Tryz.ntmps68 rfl (fun w0 => .w ?_)
 refine .t 1 1 rfl rfl (.cf (.nil2 (rtag_pf 122 [] (by decide) (by decide) (by simp [textLen, totalLen, H.l_len]))) rfl) ?_
 exact .z 1 2 rfl (TE.retf rfl rfl rfl (pl_ag (pl_h _)))
theorem rleaf_pf (x : It) : PF Tryz.prog 69 [.ag x.dv] (.ag (hdv (tagH 108 [H.l x.ix, H.l x.vl]))) := by
 refine PF.enter (fn := Tryz.f69) Tryz.func69 rfl Tryz.ntmps69 rfl (fun w0 => .w ?_)
 refine .g 2 1 rfl ?_
 refine TE.frzb 1 rfl rfl rfl rfl ?_
 refine .d 0 3 rfl ?_
 refine .t 4 3 (E := ⟨some (7, _), [(3, _)]⟩) [3] rfl rfl (fun _ _ => .ba 3 rfl) ?_
 refine .v 0 4 [3] rfl rfl (fun _ _ => .cf (rtag_pf 108 [H.l x.ix, H.l x.vl] (by decide) (by decide) (by simp [textLen, totalLen, H.l_len])) rfl) ?_
 refine .y 1 4 rfl (by kernel_rfl) ?_
 exact .z 0 4 rfl (TE.retf rfl rfl rfl (pl_ag (pl_h _)))
theorem rnode_pf (a b : H) : PF Tryz.prog 71 [.ag (hdv a), .ag (hdv b)] (.ag (hdv (tagH 110 [H.l a, H.l b]))) := by
 refine PF.enter (fn := Tryz.f71) Tryz.func71 rfl Tryz.ntmps71 rfl (fun w0 => .w ?_)
 refine .g 3 1 rfl ?_
 refine TE.frzb 2 rfl rfl rfl rfl ?_
 refine TE.frzb 3 rfl rfl rfl rfl ?_
 refine .d 0 4 rfl ?_
 refine .t 2 4 (E := ⟨some (7, _), [(4, _)]⟩) [4] rfl rfl (fun _ _ => .ba 4 rfl) ?_
 refine .v 0 5 [4] rfl rfl (fun _ _ => .cf (rtag_pf 110 [H.l a, H.l b] (by decide) (by decide) (by simp [textLen, totalLen, H.l_len])) rfl) ?_
 refine .y 1 5 rfl (by kernel_rfl) ?_
 exact .z 0 5 rfl (TE.retf rfl rfl rfl (pl_ag (pl_h _)))
end Go.Proofs.YtmjokdhhniblgaaGreat

