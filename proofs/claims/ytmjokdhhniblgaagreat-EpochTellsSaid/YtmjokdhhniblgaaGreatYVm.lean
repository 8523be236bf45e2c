import Derived.Test.YtmjokdhhniblgaaGreatYVg
import Derived.Test.YtmjokdhhniblgaaGreatYQ3
import Derived.Test.YtmjokdhhniblgaaGreatYEv
/-
  Bits of a hash: both sides. Neighbours that are alike. Lists joined. Below a place. Set of the program. The reference's Set.
-/
namespace Go.Proofs.YtmjokdhhniblgaaGreat
set_option linter.unusedVariables false
set_option linter.unusedSimpArgs false
open Go.RowKit Pl
set_option maxRecDepth 100000
set_option maxHeartbeats 3200000
theorem tk5 : tyk Tryz.prog 5 = some none := by kernel_rfl
theorem bit_pf (h : H) (i : Int) : PF Tryz.prog 165 [.ag (hdv h), .v (.int .i64 i)] (.v (.int .i64 (bitI h i))) := by
 refine PF.enter (fn := Tryz.f165) Tryz.func165 rfl Tryz.ntmps165 rfl (fun w0 => .w ?_)
 by_cases h0 : i < 0
 ·skip
  have e : bitI h i = 0 := by unfold bitI; rw [if_pos h0]
  refine .t 3 1 rfl rfl (.bv (.bool true) rfl (congrArg Value.bool (decide_eq_true h0))) ?_
  rw [e]
  exact .z 6 2 rfl (TE.retf rfl rfl rfl trivial)
 ·skip
  by_cases h1 : i ≥ 256
  ·skip
   have e : bitI h i = 0 := by unfold bitI; rw [if_neg h0, if_pos h1]
   refine .t 3 1 rfl rfl (.bv (.bool false) rfl (congrArg Value.bool (decide_eq_false h0))) ?_
   refine .t 2 2 rfl rfl (.bv (.bool true) rfl (congrArg Value.bool (decide_eq_true h1))) ?_
   rw [e]
   exact .z 3 2 rfl (TE.retf rfl rfl rfl trivial)
  ·skip
   obtain ⟨k, rfl⟩ : ∃ k : Nat, i = k := ⟨i.toNat, by omega⟩
   have hk : k < 256 := by omega
   have e := bitI_nat h hk
   have hb := byteN_lt h (k / 8)
   have hs : byteN h (k / 8) / 2 ^ (7 - k % 8) < 256 := Nat.lt_of_le_of_lt (Nat.div_le_self _ _) hb
   refine .t 3 1 rfl rfl (.bv (.bool false) rfl (congrArg Value.bool (decide_eq_false h0))) ?_
   refine .t 2 2 rfl rfl (.bv (.bool false) rfl (congrArg Value.bool (decide_eq_false h1))) ?_
   refine .t 3 2 rfl rfl (.quo (((k / 8 : Nat) : Int)) rfl rfl rfl (by decide) (by rw [Int.tdiv_eq_ediv_of_nonneg (by omega), IntKind.wrap_i64]; omega)) ?_
   refine .t 0 2 rfl rfl (.idxp rfl rfl rfl rfl rfl ar26 (Int.natCast_nonneg _) (by omega)) ?_
   refine .t 0 2 rfl rfl (.ldp rfl rfl rfl rfl (by rw [Nat.mul_one, Nat.zero_add, Int.toNat_natCast]; exact hdv_byte h (by omega)) tk5) ?_
   refine .t 1 2 rfl rfl (.rem (((k % 8 : Nat) : Int)) rfl rfl rfl (by decide) (by rw [Int.tmod_eq_emod_of_nonneg (by omega)]; omega)) ?_
   refine .t 0 2 rfl rfl (.bv (.int .i64 ((7 - k % 8 : Nat) : Int)) rfl (congrArg _ (by (try dsimp only); rw [IntKind.wrap_i64]; omega))) ?_
   refine .t 0 2 rfl rfl (.shr (((byteN h (k / 8) / 2 ^ (7 - k % 8) : Nat) : Int)) rfl rfl rfl (by omega) (shr_bit (by omega))) ?_
   refine .t 0 2 rfl rfl (.cv (((byteN h (k / 8) / 2 ^ (7 - k % 8) : Nat) : Int)) rfl (wrap_nat _ (Nat.le_trans (Nat.le_of_lt hs) (by decide)))) ?_
   refine .t 0 2 rfl rfl (.bits (((byteN h (k / 8) / 2 ^ (7 - k % 8) % 2 : Nat) : Int)) rfl rfl rfl rfl (and1_i64 _ hs)) ?_
   rw [e]
   exact .z 1 2 rfl (TE.retf rfl rfl rfl trivial)
theorem rbit_pf (h : H) (i : Int) : PF Tryz.prog 107 [.ag (hdv h), .v (.int .i64 i)] (.v (.int .i64 (bitI h i))) := by
 refine PF.enter (fn := Tryz.f107) Tryz.func107 rfl Tryz.ntmps107 rfl (fun w0 => .w ?_)
 by_cases h0 : i < 0
 ·skip
  have e : bitI h i = 0 := by unfold bitI; rw [if_pos h0]
  refine .t 3 1 rfl rfl (.bv (.bool true) rfl (congrArg Value.bool (decide_eq_true h0))) ?_
  rw [e]
  exact .z 6 2 rfl (TE.retf rfl rfl rfl trivial)
 ·skip
  by_cases h1 : i ≥ 256
  ·skip
   have e : bitI h i = 0 := by unfold bitI; rw [if_neg h0, if_pos h1]
   refine .t 3 1 rfl rfl (.bv (.bool false) rfl (congrArg Value.bool (decide_eq_false h0))) ?_
   refine .t 2 2 rfl rfl (.bv (.bool true) rfl (congrArg Value.bool (decide_eq_true h1))) ?_
   rw [e]
   exact .z 3 2 rfl (TE.retf rfl rfl rfl trivial)
  ·skip
   obtain ⟨k, rfl⟩ : ∃ k : Nat, i = k := ⟨i.toNat, by omega⟩
   have hk : k < 256 := by omega
   have e := bitI_nat h hk
   have hb := byteN_lt h (k / 8)
   have hs : byteN h (k / 8) / 2 ^ (7 - k % 8) < 256 := Nat.lt_of_le_of_lt (Nat.div_le_self _ _) hb
   refine .t 3 1 rfl rfl (.bv (.bool false) rfl (congrArg Value.bool (decide_eq_false h0))) ?_
   refine .t 2 2 rfl rfl (.bv (.bool false) rfl (congrArg Value.bool (decide_eq_false h1))) ?_
   refine .t 3 2 rfl rfl (.quo (((k / 8 : Nat) : Int)) rfl rfl rfl (by decide) (by rw [Int.tdiv_eq_ediv_of_nonneg (by omega), IntKind.wrap_i64]; omega)) ?_
   refine .t 0 2 rfl rfl (.idxp rfl rfl rfl rfl rfl ar26 (Int.natCast_nonneg _) (by omega)) ?_
   refine .t 0 2 rfl rfl (.ldp rfl rfl rfl rfl (by rw [Nat.mul_one, Nat.zero_add, Int.toNat_natCast]; exact hdv_byte h (by omega)) tk5) ?_
   refine .t 1 2 rfl rfl (.rem (((k % 8 : Nat) : Int)) rfl rfl rfl (by decide) (by rw [Int.tmod_eq_emod_of_nonneg (by omega)]; omega)) ?_
   refine .t 0 2 rfl rfl (.bv (.int .i64 ((7 - k % 8 : Nat) : Int)) rfl (congrArg _ (by (try dsimp only); rw [IntKind.wrap_i64]; omega))) ?_
   refine .t 0 2 rfl rfl (.shr (((byteN h (k / 8) / 2 ^ (7 - k % 8) : Nat) : Int)) rfl rfl rfl (by omega) (shr_bit (by omega))) ?_
   refine .t 0 2 rfl rfl (.bits (((byteN h (k / 8) / 2 ^ (7 - k % 8) % 2 : Nat) : Int)) rfl rfl rfl rfl (and1_u8 _ hs)) ?_
   refine .t 0 2 rfl rfl (.cv (((byteN h (k / 8) / 2 ^ (7 - k % 8) % 2 : Nat) : Int)) rfl (wrap_nat _ (Nat.le_trans (Nat.le_of_lt (Nat.mod_lt _ (by decide))) (by decide)))) ?_
   rw [e]
   exact .z 1 2 rfl (TE.retf rfl rfl rfl trivial)
theorem cf138 : cfn Tryz.prog 138 = true := by kernel_rfl
theorem qh26 : eqT Tryz.prog 26 = some hks := by kernel_rfl
theorem zc86 : zc Tryz.prog 86 = some [.int .u8 0, .int .u8 0, .int .u8 0, .int .u8 0, .int .u8 0, .int .u8 0, .int .u8 0, .int .u8 0, .int .u8 0, .int .u8 0, .int .u8 0, .int .u8 0, .int .u8 0, .int .u8 0, .int .u8 0, .int .u8 0, .int .u8 0, .int .u8 0, .int .u8 0, .int .u8 0, .int .u8 0, .int .u8 0, .int .u8 0, .int .u8 0, .int .u8 0, .int .u8 0, .int .u8 0, .int .u8 0, .int .u8 0, .int .u8 0, .int .u8 0, .int .u8 0, .int .u8 0, .int .u8 0, .int .u8 0, .int .u8 0, .int .u8 0, .int .u8 0, .int .u8 0, .int .u8 0, .int .u8 0, .int .u8 0, .int .u8 0, .int .u8 0, .int .u8 0, .int .u8 0, .int .u8 0, .int .u8 0, .int .u8 0, .int .u8 0, .int .u8 0, .int .u8 0, .int .u8 0, .int .u8 0, .int .u8 0, .int .u8 0, .int .u8 0, .int .u8 0, .int .u8 0, .int .u8 0, .int .u8 0, .int .u8 0, .int .u8 0, .int .u8 0] := by kernel_rfl
theorem alike_pf (x y : It) : PF Tryz.prog 138 [.ag x.dv, .ag y.dv] (.v (.bool (alike x y))) := by
 refine PF.enter (fn := Tryz.f138) Tryz.func138 rfl Tryz.ntmps138 rfl (fun w0 => .w ?_)
 refine .g 3 1 rfl ?_
 refine TE.frzb 2 rfl rfl rfl rfl ?_
 refine TE.frzb 3 rfl rfl rfl rfl ?_
 refine .t 1 3 rfl rfl (.lm (hdv x.ix) rfl) ?_
 refine .t 1 3 rfl rfl (.lm (hdv y.ix) rfl) ?_
 refine .t 0 3 rfl rfl (.eqh (a := x.ix) (b := y.ix) rfl rfl rfl qh26) ?_
 exact .z 1 3 rfl (TE.retf rfl rfl rfl trivial)
theorem compact_pm (xs : List It) (hx : xs.length ≤ 1048576) : PM Tryz.prog 137 [.ow 0 xs.length 64, .d (.fn (.func 138) [] [])] (.mrow 0 86 64 ((xs).flatMap It.dv)) (.mrow 0 86 64 ((dd xs).flatMap It.dv)) (.ow 0 (dd xs).length 64) := by
 refine PM.enter (fn := Tryz.f137) Tryz.func137 rfl Tryz.ntmps137 rfl rfl rfl (fun w0 K0 ob => .w ?_)
 refine .q 4 1 rfl rfl (fun h1 => ?_) (fun h1 => ?_)
 ·skip
  have hn : xs.length < 2 := by have q := of_decide_eq_true h1; (try dsimp only at q); omega
  have e : dd xs = xs := dd_one hn
  rw [e]
  exact .z 2 1 rfl (TE.retm 0 rfl rfl rfl rfl rfl)
 ·skip
  have hn : ¬ (xs.length < 2) := by have q := of_decide_eq_false h1; (try dsimp only at q); omega
  refine .g 1 1 rfl ?_
  refine TE.setv 5 (.int .i64 ((1 : Nat) : Int)) rfl (congrArg _ (by first | rfl | (dsimp only; first | done | rfl | omega))) ?_
  refine .lo (T := Nat) 0 1 rfl (fun k => 1 ≤ k ∧ k ≤ xs.length ∧ dd (xs.take k) = xs.take k) (fun k => xs.length - k) [0, 1] [] (fun k => [(5, .d (.v (.int .i64 ((k : Nat) : Int))))]) (fun k => [(0, .mrow 0 86 64 ((xs).flatMap It.dv))]) (1) rfl rfl ⟨Nat.le_refl _, by omega, dd_one (by simp; omega)⟩ rfl rfl rfl (fun k hI => ?_)
  obtain ⟨k1, k2, k3⟩ := hI
  refine .q 4 1 rfl rfl (fun h2 => ?_) (fun h2 => ?_)
  ·skip
   have hk : k < xs.length := by have q := of_decide_eq_true h2; (try dsimp only at q); omega
   refine .d 0 1 rfl ?_
   refine .v 3 1 [0] rfl rfl (fun _ _ => .ixo rfl (Int.natCast_nonneg _) (by omega)) ?_
   refine .v 0 1 [0] rfl rfl (fun _ _ => .ldpm rfl rfl rfl rfl (flat_at it_len xs (hk)) (it_len _) tk86) ?_
   refine .v 2 1 [] rfl rfl (fun _ _ => .bv (.int .i64 ((k - 1 : Nat) : Int)) rfl (congrArg _ (by (try dsimp only); rw [IntKind.wrap_i64]; omega))) ?_
   refine .v 0 1 [0] rfl rfl (fun _ _ => .ixo rfl (Int.natCast_nonneg _) (by omega)) ?_
   refine .v 0 1 [0] rfl rfl (fun _ _ => .ldpm rfl rfl rfl rfl (flat_at it_len xs (show k - 1 < xs.length by omega)) (it_len _) tk86) ?_
   refine .v 0 1 [] rfl rfl (fun _ _ => .callvf0 rfl rfl cf138 rfl ⟨trivial, trivial, trivial⟩ (alike_pf (xs[k]) (xs[k - 1]))) ?_
   refine .y 0 1 rfl (by kernel_rfl) ?_
   refine .q 0 1 rfl rfl (fun h3 => ?_) (fun h3 => ?_)
   ·skip
    have hal : alike xs[k] xs[k - 1] = true := h3
    refine .t 2 1 rfl rfl (.sliceo rfl rfl rfl rfl et66 rfl rfl (by omega) (by omega) (by omega) (by omega)) ?_
    refine .g 1 1 rfl ?_
    refine TE.set 6 (.bs 0 (k * 64) (xs.length - k) 64) rfl (by simp) ?_
    refine .g 1 1 rfl ?_
    refine TE.setv 7 (.int .i64 ((1 : Nat) : Int)) rfl (congrArg _ (by first | rfl | (dsimp only; first | done | rfl | omega))) ?_
    refine .lo (T := Nat × Nat × List It) 0 1 rfl (fun s => 1 ≤ s.1 ∧ k + s.1 ≤ xs.length ∧ s.2.1 + 1 ≤ k + s.1 ∧ s.2.2.length = xs.length ∧ s.2.2.drop (k + s.1 - 1) = xs.drop (k + s.1 - 1) ∧ s.2.2.take s.2.1 = dd (xs.take (k + s.1)) ∧ s.2.1 = (dd (xs.take (k + s.1))).length) (fun s => xs.length - k - s.1) [0, 1] [] (fun s => [(5, .d (.v (.int .i64 ((s.2.1 : Nat) : Int)))), (6, .bs 0 (k * 64) (xs.length - k) 64), (7, .d (.v (.int .i64 ((s.1 : Nat) : Int))))]) (fun s => [(0, .mrow 0 86 64 ((s.2.2).flatMap It.dv))]) ((1, k, xs)) rfl rfl ⟨Nat.le_refl _, by show k + 1 ≤ _; omega, Nat.le_refl _, rfl, rfl, by show xs.take k = _; rw [dd_snoc k1 hk, if_pos hal, k3], by show k = _; rw [dd_snoc k1 hk, if_pos hal, k3]; simp; omega⟩ rfl rfl rfl (fun s hI => ?_)
    obtain ⟨j, i, ys⟩ := s
    obtain ⟨j1, j2, j3, j4, j5, j6, j7⟩ := hI
    have j1 : 1 ≤ j := j1
    have j2 : k + j ≤ xs.length := j2
    have j3 : i + 1 ≤ k + j := j3
    have j4 : ys.length = xs.length := j4
    have j5 : ys.drop (k + j - 1) = xs.drop (k + j - 1) := j5
    have j6 : ys.take i = dd (xs.take (k + j)) := j6
    have j7 : i = (dd (xs.take (k + j))).length := j7
    refine .q 4 1 rfl rfl (fun h4 => ?_) (fun h4 => ?_)
    ·skip
     have hj : k + j < xs.length := by have q := of_decide_eq_true h4; (try dsimp only at q); omega
     have hy1 : k + j < ys.length := by omega
     have hy2 : k + (j - 1) < ys.length := by omega
     have hy3 : k + j - 1 < ys.length := by omega
     have he1 : ys[k + j] = xs[k + j] := get_drop j5 (by omega) hy1 hj
     have he2 : ys[k + (j - 1)] = xs[k + j - 1] := by rw [get_same (show k + (j - 1) = k + j - 1 by omega) hy2 hy3]; exact get_drop j5 (Nat.le_refl _) hy3 (by omega)
     refine .d 0 1 rfl ?_
     refine .v 3 1 [0] rfl rfl (fun _ _ => .idxb rfl rfl rfl rfl rfl et66 (Int.natCast_nonneg _) (by omega)) ?_
     refine .v 0 1 [0] rfl rfl (fun _ _ => .ldpm rfl rfl rfl rfl (by rw [show k * 64 + (((j : Nat) : Int)).toNat * 64 = (k + (j)) * 64 by (try rw [Int.toNat_natCast]); omega]; exact flat_at it_len ys (hy1)) (it_len _) tk86) ?_
     refine .v 2 1 [] rfl rfl (fun _ _ => .bv (.int .i64 ((j - 1 : Nat) : Int)) rfl (congrArg _ (by (try dsimp only); rw [IntKind.wrap_i64]; omega))) ?_
     refine .v 0 1 [0] rfl rfl (fun _ _ => .idxb rfl rfl rfl rfl rfl et66 (Int.natCast_nonneg _) (by omega)) ?_
     refine .v 0 1 [0] rfl rfl (fun _ _ => .ldpm rfl rfl rfl rfl (by rw [show k * 64 + (((j - 1 : Nat) : Int)).toNat * 64 = (k + (j - 1)) * 64 by (try rw [Int.toNat_natCast]); omega]; exact flat_at it_len ys (hy2)) (it_len _) tk86) ?_
     refine .v 0 1 [] rfl rfl (fun _ _ => .callvf0 rfl rfl cf138 rfl ⟨trivial, trivial, trivial⟩ (alike_pf (ys[k + j]) (ys[k + (j - 1)]))) ?_
     refine .y 1 1 rfl (by kernel_rfl) ?_
     refine .q 0 1 rfl rfl (fun h5 => ?_) (fun h5 => ?_)
     ·skip
      have hna : ¬ alike ys[k + j] ys[k + (j - 1)] = true := by simpa using h5
      refine .t 4 1 rfl rfl (.idxb rfl rfl rfl rfl rfl et66 (Int.natCast_nonneg _) (by omega)) ?_
      refine .t 0 1 rfl rfl (.ldpm rfl rfl rfl rfl (by rw [show k * 64 + (((j : Nat) : Int)).toNat * 64 = (k + (j)) * 64 by (try rw [Int.toNat_natCast]); omega]; exact flat_at it_len ys (hy1)) (it_len _) tk86) ?_
      refine .t 0 1 rfl rfl (.ixo rfl (Int.natCast_nonneg _) (by omega)) ?_
      refine .t 0 1 rfl rfl (.storerm (xs := ys) (enc := It.dv) (ys[k + j]) rfl rfl rfl rfl rfl rfl (fun _ => rfl) sz86 rfl (by omega)) ?_
      refine TE.obj 0 (.mrow 0 86 64 ((ys.set i ys[k + j]).flatMap It.dv)) rfl rfl ?_
      refine .t 1 1 rfl rfl (.bv (.int .i64 ((i + 1 : Nat) : Int)) rfl (congrArg _ (by (try dsimp only); rw [IntKind.wrap_i64]; omega))) ?_
      refine .t 2 1 rfl rfl (.bv (.int .i64 ((j + 1 : Nat) : Int)) rfl (congrArg _ (by (try dsimp only); rw [IntKind.wrap_i64]; omega))) ?_
      refine .g 1 1 rfl ?_
      refine TE.setv 7 (.int .i64 ((j + 1 : Nat) : Int)) rfl (congrArg _ (by first | rfl | (dsimp only; first | done | rfl | omega))) ?_
      refine TE.setv 5 (.int .i64 ((i + 1 : Nat) : Int)) rfl (congrArg _ (by first | rfl | (dsimp only; first | done | rfl | omega))) ?_
      exact .rd 0 1 id (fun _ _ e => e) rfl ((j + 1, i + 1, ys.set i ys[k + j])) ⟨by show 1 ≤ j + 1; omega, by show k + (j + 1) ≤ _; omega, by show i + 1 + 1 ≤ k + (j + 1); omega, by show (ys.set i ys[k + j]).length = _; rw [List.length_set]; exact j4, by show (ys.set i ys[k + j]).drop (k + (j + 1) - 1) = _; rw [List.drop_set_of_lt (by omega)]; exact drop_more j5, by show (ys.set i ys[k + j]).take (i + 1) = dd (xs.take (k + j + 1)); rw [dd_snoc (by omega) hj, if_neg (by rw [← he1, ← he2]; exact hna), ← j6, ← he1]; exact take_set_snoc (by omega), by show i + 1 = (dd (xs.take (k + j + 1))).length; rw [dd_snoc (by omega) hj, if_neg (by rw [← he1, ← he2]; exact hna), List.length_append, ← j7]; rfl⟩ (by show _ - k - (j + 1) < _ - k - j; omega) rfl rfl rfl
     ·skip
      have hna : alike ys[k + j] ys[k + (j - 1)] = true := by simpa using h5
      refine .t 1 1 rfl rfl (.bv (.int .i64 ((j + 1 : Nat) : Int)) rfl (congrArg _ (by (try dsimp only); rw [IntKind.wrap_i64]; omega))) ?_
      refine .g 1 1 rfl ?_
      refine TE.setv 7 (.int .i64 ((j + 1 : Nat) : Int)) rfl (congrArg _ (by first | rfl | (dsimp only; first | done | rfl | omega))) ?_
      exact .rd 0 1 id (fun _ _ e => e) rfl ((j + 1, i, ys)) ⟨by show 1 ≤ j + 1; omega, by show k + (j + 1) ≤ _; omega, by show i + 1 ≤ k + (j + 1); omega, j4, drop_more j5, by show ys.take i = dd (xs.take (k + j + 1)); rw [dd_snoc (by omega) hj, if_pos (by rw [← he1, ← he2]; exact hna)]; exact j6, by show i = (dd (xs.take (k + j + 1))).length; rw [dd_snoc (by omega) hj, if_pos (by rw [← he1, ← he2]; exact hna)]; exact j7⟩ (by show _ - k - (j + 1) < _ - k - j; omega) rfl rfl rfl
    ·skip
     have hj : ¬ (k + j < xs.length) := by have q := of_decide_eq_false h4; (try dsimp only at q); omega
     have hkj : k + j = xs.length := by omega
     have e : ys.take i = dd xs := by rw [j6, hkj, List.take_length]
     have e2 : i = (dd xs).length := by rw [j7, hkj, List.take_length]
     refine .t 2 1 rfl rfl (.sliceo rfl rfl rfl rfl et66 rfl rfl (by omega) (by omega) (by omega) (by omega)) ?_
     refine .t 0 1 rfl rfl (.clear rfl rfl rfl rfl et66 zc86 rfl (by omega) rfl (by rw [flat_length it_len, Int.toNat_natCast]; exact Nat.mul_le_mul_right _ (by omega))) ?_
     refine TE.obj 0 (.mrow 0 86 64 ((dd xs).flatMap It.dv)) rfl (by rw [Int.toNat_natCast]; show AO.mrow 0 _ 64 ((ys.flatMap It.dv).take (i * 64)) = _; rw [Pl.flat_take it_len, e]) ?_
     refine .t 2 1 rfl rfl (.slicef rfl rfl rfl rfl et66 rfl rfl (by omega) (by omega)) ?_
     refine .g 1 1 rfl ?_
     refine TE.set 4 (.ow 0 (dd xs).length 64) rfl (by rw [Int.toNat_natCast]; first | done | rw [← e2]) ?_
     exact .z 0 1 rfl (TE.retm 0 rfl rfl rfl rfl rfl)
   ·skip
    have hal : ¬ alike xs[k] xs[k - 1] = true := by rw [Bool.not_eq_true]; exact h3
    refine .t 1 1 rfl rfl (.bv (.int .i64 ((k + 1 : Nat) : Int)) rfl (congrArg _ (by (try dsimp only); rw [IntKind.wrap_i64]; omega))) ?_
    refine .g 1 1 rfl ?_
    refine TE.setv 5 (.int .i64 ((k + 1 : Nat) : Int)) rfl (congrArg _ (by first | rfl | (dsimp only; first | done | rfl | omega))) ?_
    exact .rd 0 1 id (fun _ _ e => e) rfl (k + 1) ⟨by omega, by omega, by rw [dd_snoc k1 hk, if_neg hal, k3, take_snoc' hk]⟩ (by omega) rfl rfl rfl
  ·skip
   have hk : ¬ (k < xs.length) := by have q := of_decide_eq_false h2; (try dsimp only at q); omega
   have hkk : k = xs.length := by omega
   have e : dd xs = xs := by rw [hkk, List.take_length] at k3; exact k3
   rw [e]
   exact .z 2 1 rfl (TE.retm 0 rfl rfl rfl rfl rfl)
theorem ap66 : apt Tryz.prog 66 = some (86, 64, 64) := by kernel_rfl
theorem et171 : elt Tryz.prog 171 = some (66, 1) := by kernel_rfl
theorem grow_po (n : Nat) (hn : n ≤ 1048576) : PO Tryz.prog 166 [.v (.slice none 0 0), .v (.int .i64 n)] 86 64 0 [] := by
 refine PO.enter (fn := Tryz.f166) Tryz.func166 rfl Tryz.ntmps166 rfl (fun w0 => .w ?_)
 refine .q 3 1 rfl rfl (fun h1 => absurd (of_decide_eq_true h1) (by (try dsimp only); omega)) (fun h1 => ?_)
 refine .t 2 1 rfl rfl (.cap0 rfl rfl et66) ?_
 refine .t 2 1 rfl rfl (.bv (.int .i64 0) rfl (rfl)) ?_
 refine .t 0 1 rfl rfl (.bv (.int .i64 ((n : Nat) : Int)) rfl (congrArg _ (by (try dsimp only); rw [IntKind.wrap_i64]; omega))) ?_
 refine .q 3 1 rfl rfl (fun h2 => ?_) (fun h2 => ?_)
 ·skip
  have h0 : 0 < n := by have q := of_decide_eq_true h2; (try dsimp only at q); omega
  refine .t 2 1 rfl rfl (.cap0 rfl rfl et66) ?_
  refine .t 0 1 rfl rfl (.slice0 rfl rfl et66 rfl rfl) ?_
  refine .t 1 1 rfl rfl (.grow0 1 rfl rfl rfl rfl ap66 uk3 zc86 rfl h0 (by omega) (by unfold maxLen; omega)) ?_
  refine .t 2 2 rfl rfl (.slicef rfl rfl rfl rfl et66 rfl rfl (by omega) (by omega)) ?_
  exact .z 3 2 rfl (TE.retof rfl rfl rfl rfl (by decide) pl_nil)
 ·skip
  have h0 : ¬ (0 < n) := by have q := of_decide_eq_false h2; (try dsimp only at q); omega
  refine .g 2 2 rfl ?_
  refine TE.own0 4 2 86 64 rfl rfl ?_
  exact .z 0 3 rfl (TE.retof rfl rfl rfl rfl (by decide) pl_nil)
theorem concat_po (xss : List (List It)) (hl : xss.length ≤ 1048576) (hx : xss.flatten.length ≤ 1048576) : PO Tryz.prog 132 [slT ildv 1 xss] 86 64 xss.flatten.length (xss.flatten.flatMap It.dv) := by
 refine PO.enter (fn := Tryz.f132) Tryz.func132 rfl Tryz.ntmps132 rfl (fun w0 => .w ?_)
 refine .g 2 1 rfl ?_
 refine TE.setv 3 (.int .i64 ((((xss.take (0)).flatten.length : Nat) : Nat) : Int)) rfl (congrArg _ (by first | rfl | (dsimp only; first | done | rfl | omega))) ?_
 refine .g 3 1 rfl ?_
 refine TE.setv 11 (.int .i64 ((0 : Nat) : Int)) rfl (congrArg _ (by first | rfl | (dsimp only; first | done | rfl | omega))) ?_
 refine .lo (T := Nat) 0 1 rfl (fun i => i ≤ xss.length) (fun i => xss.length - i) [0] [] (fun i => [(3, .d (.v (.int .i64 ((((xss.take (i)).flatten.length : Nat) : Nat) : Int)))), (9, .d (slT ildv 1 xss)), (10, .f (.v (.int .i64 ((xss.length : Nat) : Int)))), (11, .d (.v (.int .i64 ((i : Nat) : Int))))]) (fun i => []) (0) rfl rfl (Nat.zero_le _) rfl rfl rfl (fun i hI => ?_)
 refine .q 1 1 rfl rfl (fun h1 => ?_) (fun h1 => ?_)
 ·skip
  have h : i < xss.length := by have q := of_decide_eq_true h1; (try dsimp only at q); omega
  have h2 := flat_take_len h
  have h3 := flat_take_le xss (i + 1)
  refine .t 0 1 rfl rfl (.idx (xss[i]) rfl rfl rfl rfl et171 (fun _ => rfl) (Int.natCast_nonneg _) (get_nat h)) ?_
  refine .t 5 1 rfl rfl (.bv (.int .i64 ((((xss.take (i + 1)).flatten.length : Nat) : Nat) : Int)) rfl (congrArg _ (by (try dsimp only); rw [IntKind.wrap_i64]; omega))) ?_
  refine .q 3 1 rfl rfl (fun h2 => absurd (of_decide_eq_true h2) (by (try dsimp only); omega)) (fun h2 => ?_)
  refine .t 0 1 rfl rfl (.bv (.int .i64 ((i + 1 : Nat) : Int)) rfl (congrArg _ (by (try dsimp only); rw [IntKind.wrap_i64]; omega))) ?_
  refine .g 1 1 rfl ?_
  refine TE.setv 3 (.int .i64 ((((xss.take (i + 1)).flatten.length : Nat) : Nat) : Int)) rfl (congrArg _ (by first | rfl | (dsimp only; first | done | rfl | omega))) ?_
  refine TE.setv 11 (.int .i64 ((i + 1 : Nat) : Int)) rfl (congrArg _ (by first | rfl | (dsimp only; first | done | rfl | omega))) ?_
  exact .rd 0 1 id (fun _ _ e => e) rfl (i + 1) (by omega) (by omega) rfl rfl rfl
 ·skip
  have h : ¬ (i < xss.length) := by have q := of_decide_eq_false h1; (try dsimp only at q); omega
  have hi : i = xss.length := by have : i ≤ xss.length := hI; omega
  refine .t 1 1 rfl rfl (.co 1 (grow_po ((xss.take (i)).flatten.length : Nat) (Nat.le_trans (flat_take_le xss i) hx)) rfl) ?_
  refine .g 1 2 rfl ?_
  refine TE.set 6 (.ow 1 ((xss.take (0)).flatten.length : Nat) 64) rfl rfl ?_
  refine .g 3 2 rfl ?_
  refine TE.setv 27 (.int .i64 ((0 : Nat) : Int)) rfl (congrArg _ (by first | rfl | (dsimp only; first | done | rfl | omega))) ?_
  refine TE.obj 1 (.row 86 64 ((xss.take 0).flatten.flatMap It.dv)) rfl rfl ?_
  refine .lo (T := Nat) 0 2 rfl (fun i => i ≤ xss.length) (fun i => xss.length - i) [0] [] (fun i => [(6, .ow 1 ((xss.take (i)).flatten.length : Nat) 64), (25, .d (slT ildv 1 xss)), (26, .f (.v (.int .i64 ((xss.length : Nat) : Int)))), (27, .d (.v (.int .i64 ((i : Nat) : Int))))]) (fun i => [(1, .row 86 64 ((xss.take i).flatten.flatMap It.dv))]) (0) rfl rfl (Nat.zero_le _) rfl rfl rfl (fun i hI => ?_)
  refine .q 1 2 rfl rfl (fun h3 => ?_) (fun h3 => ?_)
  ·skip
   have h : i < xss.length := by have q := of_decide_eq_true h3; (try dsimp only at q); omega
   have h2 := flat_take_len h
   have h3 := flat_take_le xss (i + 1)
   refine .t 0 2 rfl rfl (.idx (xss[i]) rfl rfl rfl rfl et171 (fun _ => rfl) (Int.natCast_nonneg _) (get_nat h)) ?_
   refine .t 4 2 rfl rfl (.ap 2 rfl (it_flat _) (it_all _) (by omega) (by omega)) ?_
   refine .t 1 3 rfl rfl (.bv (.int .i64 ((i + 1 : Nat) : Int)) rfl (congrArg _ (by (try dsimp only); rw [IntKind.wrap_i64]; omega))) ?_
   refine .g 1 3 rfl ?_
   refine TE.set 6 (.ow 2 ((xss.take (i + 1)).flatten.length : Nat) 64) rfl (by rw [flat_take_len h]) ?_
   refine TE.obj 2 (.row 86 64 ((xss.take (i + 1)).flatten.flatMap It.dv)) rfl (by rw [flat_take_succ h, List.flatMap_append]) ?_
   refine TE.setv 27 (.int .i64 ((i + 1 : Nat) : Int)) rfl (congrArg _ (by first | rfl | (dsimp only; first | done | rfl | omega))) ?_
   exact .rd 0 3 (swp 1 2) (swp_inj 1 2) rfl (i + 1) (by omega) (by omega) rfl rfl rfl
  ·skip
   have h : ¬ (i < xss.length) := by have q := of_decide_eq_false h3; (try dsimp only at q); omega
   have hi : i = xss.length := by have : i ≤ xss.length := hI; omega
   subst hi
   rw [List.take_length]
   exact .z 2 3 rfl (TE.retof rfl rfl rfl (it_flat _) (by decide) (pl_flat pl_it _))
theorem cf164 : cfn Tryz.prog 164 = true := by kernel_rfl
theorem sz5 : szt Tryz.prog 5 = some 1 := by kernel_rfl
theorem clone_po (l : List It) (hl : l.length ≤ 1048576) : PO Tryz.prog 162 [slT It.dv 64 (l)] 86 64 l.length (l.flatMap It.dv) := by
 refine PO.enter (fn := Tryz.f162) Tryz.func162 rfl Tryz.ntmps162 rfl (fun w0 => .w ?_)
 refine .g 2 1 rfl ?_
 refine .eqnil rfl rfl rfl et66 (fun hn0 hc0 => ?_) ?_
 ·skip
  have e : l = [] := List.eq_nil_of_length_eq_zero hn0
  subst e
  refine .g 2 1 rfl ?_
  refine TE.own0 2 1 86 64 rfl rfl ?_
  exact .z 0 2 rfl (TE.retof rfl rfl rfl rfl (by decide) pl_nil)
 ·skip
  refine .t 1 2 rfl rfl (.buildsl0 2 rfl rfl ap66) ?_
  refine .t 1 3 rfl rfl (.ap 3 rfl rfl (it_all _) (by omega) (by omega)) ?_
  refine .g 1 4 rfl ?_
  refine TE.set 2 (.ow 3 l.length 64) rfl (by rw [Nat.zero_add]) ?_
  refine TE.obj 3 (.row 86 64 (l.flatMap It.dv)) rfl rfl ?_
  exact .z 0 4 rfl (TE.retof rfl rfl rfl (it_flat _) (by decide) (pl_flat pl_it _))
theorem part1_pf (x : It) (a : Int) : PF Tryz.prog 164 ([.ag x.dv] ++ [.el [.v (.int .i64 a)]]) (.v (.bool (bitB a x))) := by
 refine PF.enter (fn := Tryz.f164) Tryz.func164 rfl Tryz.ntmps164 rfl (fun w0 => .w ?_)
 refine .g 2 1 rfl ?_
 refine TE.frzb 2 rfl rfl rfl rfl ?_
 refine .t 1 2 rfl rfl (.lm (hdv x.ix) rfl) ?_
 refine .t 1 2 rfl rfl (.cf (bit_pf x.ix a) rfl) ?_
 exact .z 2 2 rfl (TE.retf rfl rfl rfl trivial)
theorem idx_pf (l : List It) (a : Int) (hl : l.length ≤ 1048577) : PF Tryz.prog 161 [slT It.dv 64 (l), .fn (.func 164) [] [.el [.v (.int .i64 a)]]] (.v (.int .i64 (idxF a l))) := by
 refine PF.enter (fn := Tryz.f161) Tryz.func161 rfl Tryz.ntmps161 rfl (fun w0 => .w ?_)
 refine .g 4 1 rfl ?_
 refine TE.setv 8 (.int .i64 ((0 : Nat) : Int)) rfl (congrArg _ (by first | rfl | (dsimp only; first | done | rfl | omega))) ?_
 refine .lo (T := Nat) 0 1 rfl (fun i => i ≤ l.length ∧ ∀ j (hj : j < l.length), j < i → bitB a l[j] = false) (fun i => l.length - i) [0, 1] [] (fun i => [(6, .d (slT It.dv 64 (l))), (7, .f (.v (.int .i64 ((l.length : Nat) : Int)))), (8, .d (.v (.int .i64 ((i : Nat) : Int))))]) (fun i => []) (0) rfl rfl ⟨Nat.zero_le _, fun j _ h => absurd h (Nat.not_lt_zero j)⟩ rfl rfl rfl (fun i hI => ?_)
 obtain ⟨i1, i2⟩ := hI
 refine .q 1 1 rfl rfl (fun h1 => ?_) (fun h1 => ?_)
 ·skip
  have hi : i < l.length := by have q := of_decide_eq_true h1; (try dsimp only at q); omega
  refine .t 5 1 rfl rfl (.idx (l[i]) rfl rfl rfl rfl et66 it_len (Int.natCast_nonneg _) (get_nat (hi))) ?_
  refine .t 0 1 rfl rfl (.lm (l[i].dv) rfl) ?_
  refine .t 0 1 rfl rfl (.callvf rfl rfl cf164 rfl ⟨trivial, trivial⟩ (part1_pf l[i] a)) ?_
  refine .q 0 1 rfl rfl (fun h2 => ?_) (fun h2 => ?_)
  ·skip
   have hb : bitB a l[i] = true := h2
   have e : idxF a l = ((i : Nat) : Int) := by unfold idxF; rw [fst_at hi hb (fun j hj hjk => i2 j hj hjk), if_pos hi]
   rw [e]
   exact .z 2 1 rfl (TE.retf rfl rfl rfl (pl_v _))
  ·skip
   have hb : bitB a l[i] = false := h2
   refine .t 0 1 rfl rfl (.bv (.int .i64 ((i + 1 : Nat) : Int)) rfl (congrArg _ (by (try dsimp only); rw [IntKind.wrap_i64]; omega))) ?_
   refine .g 1 1 rfl ?_
   refine TE.setv 8 (.int .i64 ((i + 1 : Nat) : Int)) rfl (congrArg _ (by first | rfl | (dsimp only; first | done | rfl | omega))) ?_
   exact .rd 0 1 id (fun _ _ e => e) rfl (i + 1) ⟨hi, fun j hj hjk => (Nat.lt_or_eq_of_le (Nat.le_of_lt_succ hjk)).elim (i2 j hj) (fun e => by subst e; exact hb)⟩ (by omega) rfl rfl rfl
 ·skip
  have hi : ¬ (i < l.length) := by have q := of_decide_eq_false h1; (try dsimp only at q); omega
  have e : idxF a l = -1 := by unfold idxF; rw [fst_none (fun j hj => i2 j hj (by omega)), if_neg (Nat.lt_irrefl _)]
  rw [e]
  exact .z 1 1 rfl (TE.retf rfl rfl rfl trivial)
theorem ones_pf : PF Tryz.prog 163 [] (.ag (hdv onesH)) := by
 refine PF.enter (fn := Tryz.f163) Tryz.func163 rfl Tryz.ntmps163 rfl (fun w0 => .w ?_)
 refine .g 2 1 rfl ?_
 refine TE.obj 1 (.box 26 (hdv zeroH)) rfl rfl ?_
 refine TE.obj 2 (.box 26 (hdv (onesN 0))) rfl rfl ?_
 refine .g 1 3 rfl ?_
 refine TE.setv 3 (.int .i64 ((0 : Nat) : Int)) rfl (congrArg _ (by first | rfl | (dsimp only; first | done | rfl | omega))) ?_
 refine .lo (T := Nat) 0 3 rfl (fun i => i ≤ 32) (fun i => 32 - i) [] [] (fun i => [(0, .ptr 1 0), (1, .ptr 2 0), (3, .d (.v (.int .i64 ((i : Nat) : Int))))]) (fun i => [(1, .box 26 (hdv zeroH)), (2, .box 26 (hdv (onesN i)))]) (0) rfl rfl (Nat.zero_le _) rfl rfl rfl (fun i hI => ?_)
 refine .q 1 3 rfl rfl (fun h1 => ?_) (fun h1 => ?_)
 ·skip
  have hi : i < 32 := by have q := of_decide_eq_true h1; (try dsimp only at q); omega
  refine .t 3 3 rfl rfl (.idxp rfl rfl rfl rfl rfl ar26 (Int.natCast_nonneg _) (by omega)) ?_
  refine .t 0 3 rfl rfl (.storeg rfl rfl rfl rfl sz5 rfl (by rw [h_len, Nat.mul_one, Nat.zero_add, Int.toNat_natCast]; exact hi)) ?_
  refine TE.obj 2 (.box 26 (hdv (onesN (i + 1)))) rfl (by rw [Nat.mul_one, Nat.zero_add, Int.toNat_natCast]; exact congrArg (AO.box _) (ones_set hi)) ?_
  refine .t 0 3 rfl rfl (.bv (.int .i64 ((i + 1 : Nat) : Int)) rfl (congrArg _ (by (try dsimp only); rw [IntKind.wrap_i64]; omega))) ?_
  refine .g 1 3 rfl ?_
  refine TE.setv 3 (.int .i64 ((i + 1 : Nat) : Int)) rfl (congrArg _ (by first | rfl | (dsimp only; first | done | rfl | omega))) ?_
  exact .rd 0 3 id (fun _ _ e => e) rfl (i + 1) (by omega) (by omega) rfl rfl rfl
 ·skip
  have hi : ¬ (i < 32) := by have q := of_decide_eq_false h1; (try dsimp only at q); omega
  have e : i = 32 := by have : i ≤ 32 := hI; omega
  subst e
  exact .z 2 3 rfl (TE.retf rfl rfl rfl (pl_ag (pl_h _)))
theorem part_pf (l : List It) (a : Nat) (ha : a < 256) (hl : l.length ≤ 1048576) : PF Tryz.prog 130 [slT It.dv 64 (l), .v (.int .i64 ((a : Nat) : Int))] (.v (.int .i64 ((fst_ (fun x => !bit0 a x) l : Nat) : Int))) := by
 refine PF.enter (fn := Tryz.f130) Tryz.func130 rfl Tryz.ntmps130 rfl (fun w0 => .w ?_)
 refine .g 2 1 rfl ?_
 refine TE.frzb 3 rfl rfl rfl rfl ?_
 refine .t 1 2 rfl rfl (.co 2 (clone_po l hl) rfl) ?_
 refine .t 0 3 rfl rfl (.cf (ones_pf) rfl) ?_
 refine .t 1 3 rfl rfl (.bb (onesI.dv) 3 rfl) ?_
 refine .t 0 4 rfl rfl (.ap 4 rfl (it_flat _) (it_one _) (by omega) (by omega)) ?_
 refine .t 0 5 rfl rfl (.mkfn rfl rfl) ?_
 refine .frz 10 (slT It.dv 64 (l ++ [onesI])) rfl rfl (by rw [List.length_append, it_flat, it_len]; omega) (by show DV.sl _ _ _ = DV.sl _ _ _; rw [List.length_append, List.flatMap_append]; simp [onesI]) ?_
 refine .t 0 5 rfl rfl (.cf (idx_pf (l ++ [onesI]) ((a : Nat) : Int) (by simp; omega)) rfl) ?_
 rw [← idxF_ones ha]
 exact .z 1 5 rfl (TE.retf rfl rfl rfl trivial)
theorem below_step (f : Nat) (ih : ∀ g, f = g + 1 → ∀ k l, okT g k l → l.length ≤ 1048576 → k ≤ 256 → PF Tryz.prog 89 [slT It.dv 64 l, .v (.int .i64 ((k : Nat) : Int))] (.ag (hdv (belowH (g + 1) k l)))) (k : Nat) (l : List It) (ho : okT f k l) (hl : l.length ≤ 1048576) (hk : k ≤ 256) : PF Tryz.prog 89 [slT It.dv 64 l, .v (.int .i64 ((k : Nat) : Int))] (.ag (hdv (belowH (f + 1) k l))) := by
 refine PF.enter (fn := Tryz.f89) Tryz.func89 rfl Tryz.ntmps89 rfl (fun w0 => .w ?_)
 refine .q 5 1 rfl rfl (fun h1 => ?_) (fun h1 => ?_)
 ·skip
  have h0 : l.length = 0 := by have q := of_decide_eq_true h1; (try dsimp only at q); omega
  have el : l = [] := List.eq_nil_of_length_eq_zero h0
  subst el
  refine .t 0 2 rfl rfl (.cf (empty_pf) rfl) ?_
  have e : belowH (f + 1) k [] = tagH 122 [] := rfl
  rw [e]
  exact .z 1 2 rfl (TE.retf rfl rfl rfl (pl_ag (pl_h _)))
 ·skip
  have h0 : ¬ (l.length = 0) := by have q := of_decide_eq_false h1; (try dsimp only at q); omega
  refine .q 2 2 rfl rfl (fun h2 => ?_) (fun h2 => ?_)
  ·skip
   have h1 : l.length = 1 := by have q := of_decide_eq_true h2; (try dsimp only at q); omega
   obtain ⟨x, el⟩ := one_of h1
   subst el
   refine .t 1 2 rfl rfl (.idx (x) rfl rfl rfl rfl et66 it_len (by decide) rfl) ?_
   refine .t 0 2 rfl rfl (.lm (x.dv) rfl) ?_
   refine .t 0 2 rfl rfl (.cf (leaf_pf x) rfl) ?_
   have e : belowH (f + 1) k [x] = tagH 108 [H.l x.ix, H.l x.vl] := rfl
   rw [e]
   exact .z 1 2 rfl (TE.retf rfl rfl rfl (pl_ag (pl_h _)))
  ·skip
   have h1 : ¬ (l.length = 1) := by have q := of_decide_eq_false h2; (try dsimp only at q); omega
   have h2 : ¬ l.length < 2 := by omega
   obtain ⟨g, rfl, hk2, hs, ho1, ho2⟩ := okT_two ho h2
   refine .t 2 2 rfl rfl (.cf (part_pf l k hk2 hl) rfl) ?_
   have hN := fst_le (fun x => !bit0 k x) l
   obtain ⟨t1, t2⟩ := take_side _ hs
   rw [filter_nn] at t1
   have f1 := List.length_filter_le (bit0 k) l
   have f2 := List.length_filter_le (fun x => !bit0 k x) l
   have c1 := ih g rfl (k + 1) (l.filter (bit0 k)) ho1 (by omega) (by omega)
   have c2 := ih g rfl (k + 1) (l.filter (fun x => !bit0 k x)) ho2 (by omega) (by omega)
   rw [← t1] at c1
   rw [← t2] at c2
   have c2' : PF Tryz.prog 89 [slT It.dv 64 ((l.take ((l.length : Nat) : Int).toNat).drop (((fst_ (fun x => !bit0 k x) l : Nat) : Int)).toNat), .v (.int .i64 ((k + 1 : Nat) : Int))] (.ag (hdv (belowH (g + 1) (k + 1) (l.drop (fst_ (fun x => !bit0 k x) l))))) := by rw [Int.toNat_natCast, Int.toNat_natCast, List.take_length]; exact c2
   refine .d 1 2 rfl ?_
   refine .v 2 2 [] rfl rfl (fun _ _ => .slice rfl rfl rfl rfl rfl et66 it_len (by decide) (by omega) (by omega)) ?_
   refine .v 1 2 [] rfl rfl (fun _ _ => .bv (.int .i64 ((k + 1 : Nat) : Int)) rfl (congrArg _ (by (try dsimp only); rw [IntKind.wrap_i64]; omega))) ?_
   refine .v 0 2 [] rfl rfl (fun _ _ => .cf (c1) rfl) ?_
   refine .v 2 2 [] rfl rfl (fun _ _ => .slice rfl rfl rfl rfl rfl et66 it_len (Int.natCast_nonneg _) (by omega) (by omega)) ?_
   refine .v 1 2 [] rfl rfl (fun _ _ => .bv (.int .i64 ((k + 1 : Nat) : Int)) rfl (congrArg _ (by (try dsimp only); rw [IntKind.wrap_i64]; omega))) ?_
   refine .v 0 2 [] rfl rfl (fun _ _ => .cf (c2') rfl) ?_
   refine .v 0 2 [] rfl rfl (fun _ _ => .cf (node_pf _ _) rfl) ?_
   refine .y 1 2 rfl (by kernel_rfl) ?_
   rw [belowH_two h2]
   rw [← t1, ← t2]
   exact .z 0 2 rfl (TE.retf rfl rfl rfl (pl_ag (pl_h _)))
theorem below_pf : ∀ (f k : Nat) (l : List It), okT f k l → l.length ≤ 1048576 → k ≤ 256 → PF Tryz.prog 89 [slT It.dv 64 l, .v (.int .i64 ((k : Nat) : Int))] (.ag (hdv (belowH (f + 1) k l)))
  | 0 => below_step 0 (fun g e => by omega)
  | f + 1 => below_step (f + 1) (fun g e => (show f = g by omega) ▸ below_pf f)
theorem set_pc (l m : List It) (hx : l.length + m.length ≤ 1048576) : PC Tryz.prog 90 [slT It.dv 64 (l), slT It.dv 64 (m)] (slT It.dv 64 (setA l m)) := by
 have hX : ([l, m].flatten).length ≤ 1048576 := by simp; omega
 refine PC.enter (fn := Tryz.f90) Tryz.func90 rfl Tryz.ntmps90 rfl (fun w0 K0 => .w ?_)
 refine .t 3 1 rfl rfl (.bb ([slT It.dv 64 (l), slT It.dv 64 (m)]) 1 rfl) ?_
 refine .t 0 2 rfl rfl (.co 2 (concat_po [l, m] (by simp) hX) rfl) ?_
 refine .t 2 3 rfl rfl (.cm 2 (.row 86 64 ((rvI ([l, m].flatten)).flatMap It.dv)) rfl (rev_pm ([l, m].flatten) hX) rfl) ?_
 refine .t 1 3 rfl rfl (.cm 2 (.row 86 64 ((stI (rvI ([l, m].flatten))).flatMap It.dv)) rfl ((rvI_len ([l, m].flatten)) ▸ sort_pm (rvI ([l, m].flatten)) (by rw [rvI_len]; exact hX)) rfl) ?_
 refine .t 1 3 rfl rfl (.cm 2 (.row 86 64 ((setA l m).flatMap It.dv)) rfl (((stI_len _).trans (rvI_len ([l, m].flatten))) ▸ compact_pm (stI (rvI ([l, m].flatten))) (by rw [stI_len, rvI_len]; exact hX)) rfl) ?_
 refine .frz 15 (slT It.dv 64 (setA l m)) rfl rfl (it_flat _) rfl ?_
 refine .t 0 3 rfl rfl (.cc (clip_pc (setA l m)) rfl) ?_
 exact .z 1 3 rfl (TE.retc rfl rfl rfl)
theorem tk26 : tyk Tryz.prog 26 = some (some 32) := by kernel_rfl
theorem u822 : u8s Tryz.prog 22 = some 5 := by kernel_rfl
theorem us9 : uks Tryz.prog 9 = true := by kernel_rfl
theorem rless_pf (a b : H) : PF Tryz.prog 72 [.ag (hdv a), .ag (hdv b)] (.v (.bool (Op.bytesLess (H.l a) (H.l b)))) := by
 refine PF.enter (fn := Tryz.f72) Tryz.func72 rfl Tryz.ntmps72 rfl (fun w0 => .w ?_)
 refine .g 3 1 rfl ?_
 refine TE.frzb 2 rfl rfl rfl rfl ?_
 refine TE.frzb 3 rfl rfl rfl rfl ?_
 refine .d 0 3 rfl ?_
 refine .v 1 3 [] rfl rfl (fun _ _ => .convbs (l := H.l a) rfl rfl rfl trivial u822 us9) ?_
 refine .v 1 3 [] rfl rfl (fun _ _ => .convbs (l := H.l b) rfl rfl rfl trivial u822 us9) ?_
 refine .v 0 3 [] rfl rfl (fun _ _ => .bv (.bool (Op.bytesLess (H.l a) (H.l b))) rfl (congrArg Value.bool (by (try rw [ba_toList, ba_toList]); rfl))) ?_
 refine .y 1 3 rfl (by kernel_rfl) ?_
 exact .z 0 3 rfl (TE.retf rfl rfl rfl trivial)
theorem rset_po (l m : List It) (hx : l.length + m.length ≤ 1048576) : PO Tryz.prog 42 [slT It.dv 64 (l), slT It.dv 64 (m)] 86 64 (setR l m).length ((setR l m).flatMap It.dv) := by
 obtain ⟨A, hA⟩ : ∃ A, A = l ++ m := ⟨_, rfl⟩
 have hAl : A.length ≤ 1048576 := by rw [hA]; simp; omega
 have hS : setR l m = A.foldl insR [] := by rw [hA]; rfl
 have hA := Lib.hid hA
 rw [hS]
 have hS := Lib.hid hS
 refine PO.enter (fn := Tryz.f42) Tryz.func42 rfl Tryz.ntmps42 rfl (fun w0 => .w ?_)
 refine .g 2 1 rfl ?_
 refine TE.own0 5 1 86 64 rfl rfl ?_
 refine .t 1 2 rfl rfl (.append0 2 rfl rfl rfl ap66 rfl rfl trivial (it_all _) (by omega) (by omega)) ?_
 refine .t 1 3 rfl rfl (.ap 3 rfl (it_flat _) (it_all _) (by omega) (by omega)) ?_
 refine .g 1 4 rfl ?_
 refine TE.frz 6 (slT It.dv 64 (A)) rfl rfl (by rw [List.length_append, it_flat, it_flat]; omega) (by rw [hA.out]; show DV.sl _ _ _ = DV.sl _ _ _; rw [List.length_append, List.flatMap_append]) ?_
 refine .g 1 4 rfl ?_
 refine TE.setv 7 (.int .i64 ((0 : Nat) : Int)) rfl (congrArg _ (by first | rfl | (dsimp only; first | done | rfl | omega))) ?_
 refine .lo (T := Nat × List It) 0 4 rfl (fun s => s.1 ≤ A.length ∧ s.2.length ≤ s.1 ∧ s.2 = (A.take s.1).foldl insR []) (fun s => A.length - s.1) [0, 1] [] (fun s => [(5, .ow 1 s.2.length 64), (6, .d (slT It.dv 64 (A))), (7, .d (.v (.int .i64 ((s.1 : Nat) : Int))))]) (fun s => [(1, .row 86 64 ((s.2).flatMap It.dv))]) ((0, [])) rfl rfl ⟨Nat.zero_le _, Nat.le_refl _, rfl⟩ rfl rfl rfl (fun s hI => ?_)
 obtain ⟨i, out⟩ := s
 obtain ⟨i1, i2, i3⟩ := hI
 have i1 : i ≤ A.length := i1
 have i2 : out.length ≤ i := i2
 have i3 : out = (A.take i).foldl insR [] := i3
 refine .q 4 4 rfl rfl (fun h1 => ?_) (fun h1 => ?_)
 ·skip
  have hi : i < A.length := by have q := of_decide_eq_true h1; (try dsimp only at q); omega
  refine .g 1 4 rfl ?_
  refine TE.setv 8 (.int .i64 ((0 : Nat) : Int)) rfl (congrArg _ (by first | rfl | (dsimp only; first | done | rfl | omega))) ?_
  refine .lo (T := Nat) 0 4 rfl (fun k => k ≤ out.length ∧ ∀ j (hj : j < out.length), j < k → ltI out[j] A[i] = true) (fun k => out.length - k) [0, 1] [] (fun k => [(5, .ow 1 out.length 64), (6, .d (slT It.dv 64 (A))), (7, .d (.v (.int .i64 ((i : Nat) : Int)))), (8, .d (.v (.int .i64 ((k : Nat) : Int))))]) (fun k => [(1, .row 86 64 ((out).flatMap It.dv))]) (0) rfl rfl ⟨Nat.zero_le _, fun j _ h => absurd h (Nat.not_lt_zero j)⟩ rfl rfl rfl (fun k hI => ?_)
  obtain ⟨k1, hj⟩ := hI
  by_cases hk : k < out.length
  ·skip
   refine .d 0 4 rfl ?_
   refine .v 3 4 [] rfl rfl (fun _ _ => .bv (.bool true) rfl (congrArg Value.bool (decide_eq_true (by omega)))) ?_
   refine .v 3 4 [1] rfl rfl (fun _ _ => .ixo rfl (Int.natCast_nonneg _) (by omega)) ?_
   refine .v 1 4 [1] rfl rfl (fun _ _ => .ldpm rfl rfl rfl rfl (by rw [Nat.add_zero, Int.toNat_natCast]; exact flat_ix out hk) (h_len _) tk26) ?_
   refine .v 2 4 [] rfl rfl (fun _ _ => .idx (A[i]) rfl rfl rfl rfl et66 it_len (Int.natCast_nonneg _) (get_nat (hi))) ?_
   refine .v 1 4 [] rfl rfl (fun _ _ => .lm (hdv A[i].ix) rfl) ?_
   refine .v 0 4 [] rfl rfl (fun _ _ => .cf (rless_pf out[k].ix A[i].ix) rfl) ?_
   refine .y 1 4 rfl (by kernel_rfl) ?_
   refine .q 0 4 rfl rfl (fun h3 => ?_) (fun h3 => ?_)
   ·skip
    have hlt : ltI out[k] A[i] = true := h3
    refine .t 1 4 rfl rfl (.bv (.int .i64 ((k + 1 : Nat) : Int)) rfl (congrArg _ (by (try dsimp only); rw [IntKind.wrap_i64]; omega))) ?_
    refine .g 1 4 rfl ?_
    refine TE.setv 8 (.int .i64 ((k + 1 : Nat) : Int)) rfl (congrArg _ (by first | rfl | (dsimp only; first | done | rfl | omega))) ?_
    exact .rd 0 4 id (fun _ _ e => e) rfl (k + 1) ⟨hk, fun j h1 h2 => (Nat.lt_or_eq_of_le (Nat.le_of_lt_succ h2)).elim (hj j h1) (fun e => by subst e; exact hlt)⟩ (by omega) rfl rfl rfl
   ·skip
    have hlt : ltI out[k] A[i] = false := h3
    have hpl := plc_at hk hlt hj
    refine .d 0 4 rfl ?_
    refine .v 3 4 [] rfl rfl (fun _ _ => .bv (.bool true) rfl (congrArg Value.bool (decide_eq_true (by omega)))) ?_
    refine .v 3 4 [1] rfl rfl (fun _ _ => .ixo rfl (Int.natCast_nonneg _) (by omega)) ?_
    refine .v 1 4 [1] rfl rfl (fun _ _ => .ldpm rfl rfl rfl rfl (by rw [Nat.add_zero, Int.toNat_natCast]; exact flat_ix out hk) (h_len _) tk26) ?_
    refine .v 2 4 [] rfl rfl (fun _ _ => .idx (A[i]) rfl rfl rfl rfl et66 it_len (Int.natCast_nonneg _) (get_nat (hi))) ?_
    refine .v 1 4 [] rfl rfl (fun _ _ => .lm (hdv A[i].ix) rfl) ?_
    refine .v 0 4 [] rfl rfl (fun _ _ => .eqh (a := out[k].ix) (b := A[i].ix) rfl rfl rfl qh26) ?_
    refine .y 1 4 rfl (by kernel_rfl) ?_
    refine .q 0 4 rfl rfl (fun h4 => ?_) (fun h4 => ?_)
    ·skip
     have hal : alike out[k] A[i] = true := h4
     refine .t 4 4 rfl rfl (.idx (A[i]) rfl rfl rfl rfl et66 it_len (Int.natCast_nonneg _) (get_nat (hi))) ?_
     refine .t 0 4 rfl rfl (.lm (A[i].dv) rfl) ?_
     refine .t 0 4 rfl rfl (.ixo rfl (Int.natCast_nonneg _) (by omega)) ?_
     refine .t 0 4 rfl rfl (.storer (xs := out) (enc := It.dv) (A[i]) rfl rfl rfl rfl rfl rfl (fun _ => rfl) sz86 rfl (hk)) ?_
     refine .t 1 4 rfl rfl (.bv (.int .i64 ((i + 1 : Nat) : Int)) rfl (congrArg _ (by (try dsimp only); rw [IntKind.wrap_i64]; omega))) ?_
     refine .g 1 4 rfl ?_
     refine TE.set 5 (.ow 1 (out.set k A[i]).length 64) rfl (by rw [List.length_set]) ?_
     refine TE.setv 7 (.int .i64 ((i + 1 : Nat) : Int)) rfl (congrArg _ (by first | rfl | (dsimp only; first | done | rfl | omega))) ?_
     exact .rd 0 4 id (fun _ _ e => e) rfl ((i + 1, out.set k A[i])) ⟨by show i + 1 ≤ _; omega, by show (out.set k A[i]).length ≤ i + 1; rw [List.length_set]; omega, by show out.set k A[i] = (A.take (i + 1)).foldl insR []; rw [foldl_snoc hi, ← i3, insR_set hk (plc_at hk hlt hj) hal]⟩ (by show _ - (i + 1) < _ - i; omega) rfl rfl rfl
    ·skip
     have hno : ∀ hk : k < out.length, ¬ alike out[k] A[i] = true := fun _ => by rw [Bool.not_eq_true]; exact h4
     refine TE.frz 5 (slT It.dv 64 (out)) rfl rfl (it_flat _) rfl ?_
     refine .d 0 4 rfl ?_
     refine .v 2 4 [] rfl rfl (fun _ _ => .slice rfl rfl rfl rfl rfl et66 it_len (by decide) (by omega) (by omega)) ?_
     refine .t 0 4 (E := ⟨some (65, _), [(4, _)]⟩) [4] rfl rfl (fun _ _ => .append0 4 rfl rfl rfl ap66 rfl rfl trivial (it_all _) (by simp; omega) (by simp; omega)) ?_
     refine .v 2 5 [] rfl rfl (fun _ _ => .idx (A[i]) rfl rfl rfl rfl et66 it_len (Int.natCast_nonneg _) (get_nat (hi))) ?_
     refine .v 0 5 [] rfl rfl (fun _ _ => .lm (A[i].dv) rfl) ?_
     refine .t 0 5 (E := ⟨some (70, _), [(5, _)]⟩) [5] rfl rfl (fun _ _ => .bb (A[i].dv) 5 rfl) ?_
     refine .t 0 6 (E := ⟨some (71, _), [(4, .dead), (6, _)]⟩) [4, 5, 6] rfl rfl (fun _ _ => .ap 6 rfl (it_flat _) (it_one _) (by simp; omega) (by simp; omega)) ?_
     refine .v 2 7 [] rfl rfl (fun _ _ => .slice rfl rfl rfl rfl rfl et66 it_len (Int.natCast_nonneg _) (by omega) (by omega)) ?_
     refine .t 0 7 (E := ⟨some (75, _), [(6, .dead), (7, _)]⟩) [6, 7] rfl rfl (fun _ _ => .ap 7 rfl (by rw [List.length_append, it_flat, it_len]; omega) (it_all _) (by simp; omega) (by simp; omega)) ?_
     refine .y 1 8 rfl (by kernel_rfl) ?_
     refine .t 1 8 rfl rfl (.bv (.int .i64 ((i + 1 : Nat) : Int)) rfl (congrArg _ (by (try dsimp only); rw [IntKind.wrap_i64]; omega))) ?_
     refine .g 1 8 rfl ?_
     refine TE.set 5 (.ow 7 (out.take k ++ [A[i]] ++ out.drop k).length 64) rfl (by simp; omega) ?_
     refine TE.obj 7 (.row 86 64 (((out.take k ++ [A[i]] ++ out.drop k)).flatMap It.dv)) rfl (by simp [List.flatMap_append]) ?_
     refine TE.setv 7 (.int .i64 ((i + 1 : Nat) : Int)) rfl (congrArg _ (by first | rfl | (dsimp only; first | done | rfl | omega))) ?_
     exact .rd 0 8 (swp 1 7) (swp_inj 1 7) rfl ((i + 1, (out.take k ++ [A[i]] ++ out.drop k))) ⟨by show i + 1 ≤ _; omega, by show (out.take k ++ [A[i]] ++ out.drop k).length ≤ i + 1; rw [← insR_new hpl hno]; have := insR_len out A[i]; omega, by show (out.take k ++ [A[i]] ++ out.drop k) = (A.take (i + 1)).foldl insR []; rw [foldl_snoc hi, ← i3, insR_new hpl hno]⟩ (by show _ - (i + 1) < _ - i; omega) rfl rfl rfl
  ·skip
   have hpl := plc_none hk k1 hj
   have hno : ∀ hk : k < out.length, ¬ alike out[k] A[i] = true := fun q => absurd q hk
   refine .d 0 8 rfl ?_
   refine .v 3 8 [] rfl rfl (fun _ _ => .bv (.bool false) rfl (congrArg Value.bool (decide_eq_false (by omega)))) ?_
   refine .y 13 8 rfl (by kernel_rfl) ?_
   refine .d 1 8 rfl ?_
   refine .v 3 8 [] rfl rfl (fun _ _ => .bv (.bool false) rfl (congrArg Value.bool (decide_eq_false (by omega)))) ?_
   refine .y 13 8 rfl (by kernel_rfl) ?_
   refine .g 1 8 rfl ?_
   refine TE.frz 5 (slT It.dv 64 (out)) rfl rfl (it_flat _) rfl ?_
   refine .d 0 8 rfl ?_
   refine .v 2 8 [] rfl rfl (fun _ _ => .slice rfl rfl rfl rfl rfl et66 it_len (by decide) (by omega) (by omega)) ?_
   refine .t 0 8 (E := ⟨some (65, _), [(8, _)]⟩) [8] rfl rfl (fun _ _ => .append0 8 rfl rfl rfl ap66 rfl rfl trivial (it_all _) (by simp; omega) (by simp; omega)) ?_
   refine .v 2 9 [] rfl rfl (fun _ _ => .idx (A[i]) rfl rfl rfl rfl et66 it_len (Int.natCast_nonneg _) (get_nat (hi))) ?_
   refine .v 0 9 [] rfl rfl (fun _ _ => .lm (A[i].dv) rfl) ?_
   refine .t 0 9 (E := ⟨some (70, _), [(9, _)]⟩) [9] rfl rfl (fun _ _ => .bb (A[i].dv) 9 rfl) ?_
   refine .t 0 10 (E := ⟨some (71, _), [(8, .dead), (10, _)]⟩) [8, 9, 10] rfl rfl (fun _ _ => .ap 10 rfl (it_flat _) (it_one _) (by simp; omega) (by simp; omega)) ?_
   refine .v 2 11 [] rfl rfl (fun _ _ => .slice rfl rfl rfl rfl rfl et66 it_len (Int.natCast_nonneg _) (by omega) (by omega)) ?_
   refine .t 0 11 (E := ⟨some (75, _), [(10, .dead), (11, _)]⟩) [10, 11] rfl rfl (fun _ _ => .ap 11 rfl (by rw [List.length_append, it_flat, it_len]; omega) (it_all _) (by simp; omega) (by simp; omega)) ?_
   refine .y 1 12 rfl (by kernel_rfl) ?_
   refine .t 1 12 rfl rfl (.bv (.int .i64 ((i + 1 : Nat) : Int)) rfl (congrArg _ (by (try dsimp only); rw [IntKind.wrap_i64]; omega))) ?_
   refine .g 1 12 rfl ?_
   refine TE.set 5 (.ow 11 (out.take k ++ [A[i]] ++ out.drop k).length 64) rfl (by simp; omega) ?_
   refine TE.obj 11 (.row 86 64 (((out.take k ++ [A[i]] ++ out.drop k)).flatMap It.dv)) rfl (by simp [List.flatMap_append]) ?_
   refine TE.setv 7 (.int .i64 ((i + 1 : Nat) : Int)) rfl (congrArg _ (by first | rfl | (dsimp only; first | done | rfl | omega))) ?_
   exact .rd 0 12 (swp 1 11) (swp_inj 1 11) rfl ((i + 1, (out.take k ++ [A[i]] ++ out.drop k))) ⟨by show i + 1 ≤ _; omega, by show (out.take k ++ [A[i]] ++ out.drop k).length ≤ i + 1; rw [← insR_new hpl hno]; have := insR_len out A[i]; omega, by show (out.take k ++ [A[i]] ++ out.drop k) = (A.take (i + 1)).foldl insR []; rw [foldl_snoc hi, ← i3, insR_new hpl hno]⟩ (by show _ - (i + 1) < _ - i; omega) rfl rfl rfl
 ·skip
  have hi : ¬ (i < A.length) := by have q := of_decide_eq_false h1; (try dsimp only at q); omega
  have e : out = A.foldl insR [] := by rw [i3, show i = A.length by omega, List.take_length]
  rw [← e]
  exact .z 2 12 rfl (TE.retof rfl rfl rfl (it_flat _) (by decide) (pl_flat pl_it _))
end Go.Proofs.YtmjokdhhniblgaaGreat

