import Derived.Test.YtdjcclcejmeheaaGreatZKh
import Derived.Test.YtdjcclcejmeheaaGreatZGv
import Derived.Test.YtdjcclcejmeheaaGreatZEv
/-
  A log in a longer one, of the program.
-/
namespace Go.Proofs.YtdjcclcejmeheaaGreat
set_option linter.unusedVariables false
set_option linter.unusedSimpArgs false
open Go.RowKit Pl
set_option maxRecDepth 100000
set_option maxHeartbeats 3200000
theorem ap52 : apt Tryz.prog 52 = some (41, 32, 32) := by kernel_rfl
theorem et58 : elt Tryz.prog 58 = some (52, 1) := by kernel_rfl
theorem uk3 : ukd Tryz.prog 3 = some .i64 := by kernel_rfl
theorem zc41 : zc Tryz.prog 41 = some [.int .u8 0, .int .u8 0, .int .u8 0, .int .u8 0, .int .u8 0, .int .u8 0, .int .u8 0, .int .u8 0, .int .u8 0, .int .u8 0, .int .u8 0, .int .u8 0, .int .u8 0, .int .u8 0, .int .u8 0, .int .u8 0, .int .u8 0, .int .u8 0, .int .u8 0, .int .u8 0, .int .u8 0, .int .u8 0, .int .u8 0, .int .u8 0, .int .u8 0, .int .u8 0, .int .u8 0, .int .u8 0, .int .u8 0, .int .u8 0, .int .u8 0, .int .u8 0] := by kernel_rfl
theorem hgrow_po (n : Nat) (hn : n ≤ 1048577) : PO Tryz.prog 139 [.v (.slice none 0 0), .v (.int .i64 n)] 41 32 0 [] := by
 refine PO.enter (fn := Tryz.f139) Tryz.func139 rfl Tryz.ntmps139 rfl (fun w0 => .w ?_)
 refine .q 3 1 rfl rfl (fun h1 => absurd (of_decide_eq_true h1) (by (try dsimp only); omega)) (fun h1 => ?_)
 refine .t 2 1 rfl rfl (.cap0 rfl rfl et52) ?_
 refine .t 2 1 rfl rfl (.bv (.int .i64 0) rfl (rfl)) ?_
 refine .t 0 1 rfl rfl (.bv (.int .i64 ((n : Nat) : Int)) rfl (congrArg _ (by (try dsimp only); rw [IntKind.wrap_i64]; omega))) ?_
 refine .q 3 1 rfl rfl (fun h2 => ?_) (fun h2 => ?_)
 ·skip
  have h0 : 0 < n := by have q := of_decide_eq_true h2; (try dsimp only at q); omega
  refine .t 2 1 rfl rfl (.cap0 rfl rfl et52) ?_
  refine .t 0 1 rfl rfl (.slice0 rfl rfl et52 rfl rfl) ?_
  refine .t 1 1 rfl rfl (.grow0 1 rfl rfl rfl rfl ap52 uk3 zc41 rfl h0 (by omega) (by unfold maxLen; omega)) ?_
  refine .t 2 2 rfl rfl (.slicef rfl rfl rfl rfl et52 rfl rfl (by omega) (by omega)) ?_
  exact .z 3 2 rfl (TE.retof rfl rfl rfl rfl (by decide) pl_nil)
 ·skip
  have h0 : ¬ (0 < n) := by have q := of_decide_eq_false h2; (try dsimp only at q); omega
  refine .g 2 2 rfl ?_
  refine TE.own0 4 2 41 32 rfl rfl ?_
  exact .z 0 3 rfl (TE.retof rfl rfl rfl rfl (by decide) pl_nil)
theorem hconcat_po (xss : List (List H)) (hl : xss.length ≤ 1048576) (hx : xss.flatten.length ≤ 1048577) : PO Tryz.prog 104 [slT hldv 1 xss] 41 32 xss.flatten.length (xss.flatten.flatMap hdv) := by
 refine PO.enter (fn := Tryz.f104) Tryz.func104 rfl Tryz.ntmps104 rfl (fun w0 => .w ?_)
 refine .g 2 1 rfl ?_
 refine TE.setv 3 (.int .i64 ((((xss.take (0)).flatten.length : Nat) : Nat) : Int)) rfl (congrArg _ (by first | rfl | (dsimp only; first | done | rfl | omega))) ?_
 refine .g 3 1 rfl ?_
 refine TE.setv 11 (.int .i64 ((0 : Nat) : Int)) rfl (congrArg _ (by first | rfl | (dsimp only; first | done | rfl | omega))) ?_
 refine .lo (T := Nat) 0 1 rfl (fun i => i ≤ xss.length) (fun i => xss.length - i) [0] [] (fun i => [(3, .d (.v (.int .i64 ((((xss.take (i)).flatten.length : Nat) : Nat) : Int)))), (9, .d (slT hldv 1 xss)), (10, .f (.v (.int .i64 ((xss.length : Nat) : Int)))), (11, .d (.v (.int .i64 ((i : Nat) : Int))))]) (fun i => []) (0) rfl rfl (Nat.zero_le _) rfl rfl rfl (fun i hI => ?_)
 refine .q 1 1 rfl rfl (fun h1 => ?_) (fun h1 => ?_)
 ·skip
  have h : i < xss.length := by have q := of_decide_eq_true h1; (try dsimp only at q); omega
  have h2 := hflat_len h
  have h3 := hflat_le xss (i + 1)
  refine .t 0 1 rfl rfl (.idx (xss[i]) rfl rfl rfl rfl et58 (fun _ => rfl) (Int.natCast_nonneg _) (get_nat h)) ?_
  refine .t 5 1 rfl rfl (.bv (.int .i64 ((((xss.take (i + 1)).flatten.length : Nat) : Nat) : Int)) rfl (congrArg _ (by (try dsimp only); rw [IntKind.wrap_i64]; omega))) ?_
  refine .q 3 1 rfl rfl (fun h2 => absurd (of_decide_eq_true h2) (by (try dsimp only); omega)) (fun h2 => ?_)
  refine .t 0 1 rfl rfl (.bv (.int .i64 ((i + 1 : Nat) : Int)) rfl (congrArg _ (by (try dsimp only); rw [IntKind.wrap_i64]; omega))) ?_
  refine .g 1 1 rfl ?_
  refine TE.setv 3 (.int .i64 ((((xss.take (i + 1)).flatten.length : Nat) : Nat) : Int)) rfl (congrArg _ (by first | rfl | (dsimp only; first | done | rfl | omega))) ?_
  refine TE.setv 11 (.int .i64 ((i + 1 : Nat) : Int)) rfl (congrArg _ (by first | rfl | (dsimp only; first | done | rfl | omega))) ?_
  exact .rd 0 1 id (fun _ _ e => e) rfl (i + 1) (by omega) (by omega) rfl rfl rfl
 ·skip
  have h : ¬ (i < xss.length) := by have q := of_decide_eq_false h1; (try dsimp only at q); omega
  have hi : i = xss.length := by have : i ≤ xss.length := hI; omega
  refine .t 1 1 rfl rfl (.co 1 (hgrow_po ((xss.take (i)).flatten.length : Nat) (Nat.le_trans (hflat_le xss i) hx)) rfl) ?_
  refine .g 1 2 rfl ?_
  refine TE.set 6 (.ow 1 ((xss.take (0)).flatten.length : Nat) 32) rfl rfl ?_
  refine .g 3 2 rfl ?_
  refine TE.setv 27 (.int .i64 ((0 : Nat) : Int)) rfl (congrArg _ (by first | rfl | (dsimp only; first | done | rfl | omega))) ?_
  refine TE.obj 1 (.row 41 32 ((xss.take (0)).flatten.flatMap hdv)) rfl rfl ?_
  refine .lo (T := Nat) 0 2 rfl (fun i => i ≤ xss.length) (fun i => xss.length - i) [0] [] (fun i => [(6, .ow 1 ((xss.take (i)).flatten.length : Nat) 32), (25, .d (slT hldv 1 xss)), (26, .f (.v (.int .i64 ((xss.length : Nat) : Int)))), (27, .d (.v (.int .i64 ((i : Nat) : Int))))]) (fun i => [(1, .row 41 32 ((xss.take (i)).flatten.flatMap hdv))]) (0) rfl rfl (Nat.zero_le _) rfl rfl rfl (fun i hI => ?_)
  refine .q 1 2 rfl rfl (fun h3 => ?_) (fun h3 => ?_)
  ·skip
   have h : i < xss.length := by have q := of_decide_eq_true h3; (try dsimp only at q); omega
   have h2 := hflat_len h
   have h3 := hflat_le xss (i + 1)
   refine .t 0 2 rfl rfl (.idx (xss[i]) rfl rfl rfl rfl et58 (fun _ => rfl) (Int.natCast_nonneg _) (get_nat h)) ?_
   refine .t 4 2 rfl rfl (.ap 2 rfl (flat_length (sz := 32) (enc := hdv) (fun _ => rfl) _) (flat_one hg_one _) (by omega) (by omega)) ?_
   refine .t 1 3 rfl rfl (.bv (.int .i64 ((i + 1 : Nat) : Int)) rfl (congrArg _ (by (try dsimp only); rw [IntKind.wrap_i64]; omega))) ?_
   refine .g 1 3 rfl ?_
   refine TE.set 6 (.ow 2 ((xss.take (i + 1)).flatten.length : Nat) 32) rfl (by rw [hflat_len h]) ?_
   refine TE.obj 2 (.row 41 32 ((xss.take (i + 1)).flatten.flatMap hdv)) rfl (by rw [hflat_succ h, List.flatMap_append]) ?_
   refine TE.setv 27 (.int .i64 ((i + 1 : Nat) : Int)) rfl (congrArg _ (by first | rfl | (dsimp only; first | done | rfl | omega))) ?_
   exact .rd 0 3 (swp 1 2) (swp_inj 1 2) rfl (i + 1) (by omega) (by omega) rfl rfl rfl
  ·skip
   have h : ¬ (i < xss.length) := by have q := of_decide_eq_false h3; (try dsimp only at q); omega
   have hi : i = xss.length := by have : i ≤ xss.length := hI; omega
   subst hi
   rw [List.take_length]
   exact .z 2 3 rfl (TE.retof rfl rfl rfl (flat_length (sz := 32) (enc := hdv) (fun _ => rfl) _) (by decide) (pl_flat pl_h _))
theorem gchk_pf (old new : H) (m n : Nat) (p : List H) (h0 : 1 ≤ m) (hmn : m ≤ n) (hn : n ≤ 1073741825) (hp : p.length ≤ 1048576) : PF Tryz.prog 54 [.ag (hdv (old)), .ag (hdv (new)), .v (.int .i64 ((m : Nat) : Int)), .v (.int .i64 ((n : Nat) : Int)), slT hdv 32 (p)] (.v (.bool (growL old new m n p))) := by
 refine PF.enter (fn := Tryz.f54) Tryz.func54 rfl Tryz.ntmps54 rfl (fun w0 => .w ?_)
 refine .g 3 1 rfl ?_
 refine TE.frzb 5 rfl rfl rfl rfl ?_
 refine TE.frzb 6 rfl rfl rfl rfl ?_
 refine .t 1 3 rfl rfl (.bv (.bool false) rfl (congrArg Value.bool (decide_eq_false (by omega)))) ?_
 refine .t 3 3 rfl rfl (.bv (.bool false) rfl (congrArg Value.bool (decide_eq_false (by omega)))) ?_
 refine .q 7 3 rfl rfl (fun h2 => ?_) (fun h2 => ?_)
 ·skip
  have hq : m = n := by have q := of_decide_eq_true h2; (try dsimp only at q); omega
  by_cases hz : p.length = 0
  ·skip
   refine .t 2 3 rfl rfl (.bv (.bool true) rfl (congrArg Value.bool (decide_eq_true (by omega)))) ?_
   refine .t 1 3 rfl rfl (.lm (hdv old) rfl) ?_
   refine .t 0 3 rfl rfl (.lm (hdv new) rfl) ?_
   refine .t 0 3 rfl rfl (.eqh (a := old) (b := new) rfl rfl rfl qh41) ?_
   rw [show growL old new m n p = decide (H.l old = H.l new) by rw [hq, growL_same (by omega), decide_eq_true hz]; rfl]
   exact .z 2 3 rfl (TE.retf rfl rfl rfl (okv rfl))
  ·skip
   refine .t 2 3 rfl rfl (.bv (.bool false) rfl (congrArg Value.bool (decide_eq_false (by omega)))) ?_
   rw [show growL old new m n p = false by rw [hq, growL_same (by omega), decide_eq_false hz]; rfl]
   exact .z 6 3 rfl (TE.retf rfl rfl rfl (okv rfl))
 ·skip
  have hlt : m < n := by have q := of_decide_eq_false h2; (try dsimp only at q); omega
  refine .q 4 3 rfl rfl (fun h4 => ?_) (fun h4 => ?_)
  ·skip
   have hz : p.length = 0 := by have q := of_decide_eq_true h4; (try dsimp only at q); omega
   rw [growL_nil h0 hlt hz]
   exact .z 1 3 rfl (TE.retf rfl rfl rfl (okv rfl))
  ·skip
   have hz : ¬ (p.length = 0) := by have q := of_decide_eq_false h4; (try dsimp only at q); omega
   obtain ⟨P, hP⟩ : ∃ P : List H, P = if m &&& (m - 1) = 0 then old :: p else p := ⟨_, rfl⟩
   have hPl : P.length ≤ 1048577 := by rw [hP]; by_cases z : m &&& (m - 1) = 0; rw [if_pos z, List.length_cons]; omega; rw [if_neg z]; omega
   refine .t 2 3 rfl rfl (.bv (.int .i64 ((m - 1 : Nat) : Int)) rfl (congrArg _ (by (try dsimp only); rw [IntKind.wrap_i64]; omega))) ?_
   refine .t 0 3 rfl rfl (.bits (((m &&& (m - 1) : Nat) : Int)) rfl rfl rfl rfl (and_i64 _ _ (by omega) (by omega))) ?_
   refine .g 1 3 rfl ?_
   refine .jn [(0, .d (.ag (hdv (old)))), (1, .d (.ag (hdv (new)))), (2, .d (.v (.int .i64 ((m : Nat) : Int)))), (3, .d (.v (.int .i64 ((n : Nat) : Int)))), (4, .d (slT hdv 32 (P))), (5, .d (.el (hdv old))), (6, .d (.el (hdv new)))] [] ?_ ?_
   ·skip
    obtain ⟨x, r, hxr, hG⟩ := growL_at (new := new) h0 hlt hz hP
    have hrl : r.length ≤ 1048577 := by have q := congrArg List.length hxr; rw [List.length_cons] at q; omega
    rw [hG]
    clear hG hP
    subst hxr
    refine .t 1 3 rfl rfl (.bv (.int .i64 ((m - 1 : Nat) : Int)) rfl (congrArg _ (by (try dsimp only); rw [IntKind.wrap_i64]; omega))) ?_
    refine .t 1 3 rfl rfl (.bv (.int .i64 ((n - 1 : Nat) : Int)) rfl (congrArg _ (by (try dsimp only); rw [IntKind.wrap_i64]; omega))) ?_
    refine .g 2 3 rfl ?_
    refine TE.setv 11 (.int .i64 ((m - 1 : Nat) : Int)) rfl (congrArg _ (by first | rfl | (dsimp only; first | done | rfl | omega))) ?_
    refine TE.setv 12 (.int .i64 ((n - 1 : Nat) : Int)) rfl (congrArg _ (by first | rfl | (dsimp only; first | done | rfl | omega))) ?_
    refine .lo (T := Nat × Nat) 0 3 rfl (fun z => odds z.1 z.2 = odds (m - 1) (n - 1) ∧ z.1 ≤ 1073741825 ∧ z.2 ≤ 1073741825) (fun z => z.1) [0, 1, 2, 3] [] (fun z => [(4, .d (slT hdv 32 (x :: r))), (5, .d (.el (hdv old))), (6, .d (.el (hdv new))), (11, .d (.v (.int .i64 ((z.1 : Nat) : Int)))), (12, .d (.v (.int .i64 ((z.2 : Nat) : Int))))]) (fun z => []) ((m - 1, n - 1)) rfl rfl ⟨rfl, by omega, by omega⟩ rfl rfl rfl (fun z hI => ?_)
    obtain ⟨f, s⟩ := z
    obtain ⟨hI1, hI2, hI3⟩ := hI
    dsimp only at hI1 hI2 hI3 ⊢
    refine .t 1 3 rfl rfl (.bits (((f % 2 : Nat) : Int)) rfl rfl rfl rfl (and1_big _ (by omega))) ?_
    refine .q 1 3 rfl rfl (fun h5 => ?_) (fun h5 => ?_)
    ·skip
     have hod : f % 2 = 1 := by have q := of_decide_eq_true h5; (try dsimp only at q); omega
     refine .t 1 3 rfl rfl (.shr (((f / 2 : Nat) : Int)) rfl rfl rfl (by decide) (shr1_i64 _)) ?_
     refine .t 1 3 rfl rfl (.shr (((s / 2 : Nat) : Int)) rfl rfl rfl (by decide) (shr1_i64 _)) ?_
     refine .g 2 3 rfl ?_
     refine TE.setv 11 (.int .i64 ((f / 2 : Nat) : Int)) rfl (congrArg _ (by first | rfl | (dsimp only; first | done | rfl | omega))) ?_
     refine TE.setv 12 (.int .i64 ((s / 2 : Nat) : Int)) rfl (congrArg _ (by first | rfl | (dsimp only; first | done | rfl | omega))) ?_
     exact .rd 0 3 id (fun _ _ e => e) rfl ((f / 2, s / 2)) ⟨(odds_yes hod).symm.trans hI1, by show f / 2 ≤ _; omega, by show s / 2 ≤ _; omega⟩ (by show f / 2 < f; omega) rfl rfl rfl
    ·skip
     have hod : ¬ f % 2 = 1 := by have q := of_decide_eq_false h5; (try dsimp only at q); omega
     have he : odds (m - 1) (n - 1) = (f, s) := by rw [← hI1]; exact odds_no hod
     refine .d 0 3 rfl ?_
     refine .v 1 3 [] rfl rfl (fun _ _ => .idx (x) rfl rfl rfl rfl et52 (fun _ => rfl) (by decide) rfl) ?_
     refine .v 0 3 [] rfl rfl (fun _ _ => .lm (hdv x) rfl) ?_
     refine .v 1 3 [] rfl rfl (fun _ _ => .idx (x) rfl rfl rfl rfl et52 (fun _ => rfl) (by decide) rfl) ?_
     refine .v 0 3 [] rfl rfl (fun _ _ => .lm (hdv x) rfl) ?_
     refine .y 4 3 rfl (by kernel_rfl) ?_
     refine TE.obj 3 (.box 41 (hdv x)) rfl rfl ?_
     refine TE.obj 4 (.box 41 (hdv x)) rfl rfl ?_
     refine .t 1 5 rfl rfl (.slice rfl rfl rfl rfl rfl et52 (fun _ => rfl) (by decide) (by simp only [List.length_cons]; omega) (Int.le_refl _)) ?_
     refine .sub 69 (slT hdv 32 (r)) rfl rfl (fun K w u h => by have e : (((x :: r).take ((x :: r).length : Int).toNat).drop (1 : Int).toNat) = r := (by simp); rw [← e]; exact h) ?_
     refine .g 2 5 rfl ?_
     refine TE.setv 70 (.int .i64 ((r.length : Nat) : Int)) rfl (congrArg _ (by first | rfl | (dsimp only; first | done | rfl | omega))) ?_
     refine TE.setv 71 (.int .i64 ((0 : Nat) : Int)) rfl (congrArg _ (by first | rfl | (dsimp only; first | done | rfl | omega))) ?_
     refine .lo (T := Nat × Nat × Nat × H × H) 0 5 rfl (fun z => z.1 ≤ r.length ∧ gRun (r.take z.1) (gAt m n x) = some z.2 ∧ z.2.1 ≤ 1073741825 ∧ z.2.2.1 ≤ 1073741825) (fun z => r.length - z.1) [0, 1, 2, 3] [] (fun z => [(5, .d (.el (hdv old))), (6, .d (.el (hdv new))), (11, .d (.v (.int .i64 ((z.2.1 : Nat) : Int)))), (12, .d (.v (.int .i64 ((z.2.2.1 : Nat) : Int)))), (13, .ptr 3 0), (14, .ptr 4 0), (69, .d (slT hdv 32 (r))), (70, .d (.v (.int .i64 ((r.length : Nat) : Int)))), (71, .d (.v (.int .i64 ((z.1 : Nat) : Int))))]) (fun z => [(3, .box 41 (hdv z.2.2.2.1)), (4, .box 41 (hdv z.2.2.2.2))]) ((0, f, s, x, x)) rfl rfl ⟨Nat.zero_le _, by show some (gAt m n x) = _; unfold gAt; rw [he], hI2, hI3⟩ rfl rfl rfl (fun z hI => ?_)
     obtain ⟨i, f', s', a, b⟩ := z
     obtain ⟨hI1, hI2, hI3, hI4⟩ := hI
     dsimp only at hI1 hI2 hI3 hI4 ⊢
     refine .q 1 5 rfl rfl (fun h6 => ?_) (fun h6 => ?_)
     ·skip
      have hi : i < r.length := by have q := of_decide_eq_true h6; (try dsimp only at q); omega
      refine .t 0 5 rfl rfl (.idx (r[i]) rfl rfl rfl rfl et52 (fun _ => rfl) (Int.natCast_nonneg _) (get_nat hi)) ?_
      refine .t 0 5 rfl rfl (.lm (hdv r[i]) rfl) ?_
      refine .g 2 5 rfl ?_
      obtain ⟨c, hc⟩ : ∃ c, c = r[i] := ⟨_, rfl⟩
      refine TE.obj 5 (.box 41 (hdv c)) rfl (by rw [hc]; rfl) ?_
      refine .q 2 6 rfl rfl (fun h7 => ?_) (fun h7 => ?_)
      ·skip
       have hs0 : s' = 0 := by have q := of_decide_eq_true h7; (try dsimp only at q); omega
       rw [run_stop hi hI2 hs0, show chk2 old new (gRes none) = false from rfl]
       exact .z 1 6 rfl (TE.retf rfl rfl rfl (okv rfl))
      ·skip
       have hs0 : ¬ (s' = 0) := by have q := of_decide_eq_false h7; (try dsimp only at q); omega
       by_cases hod : f' % 2 = 1
       ·skip
        have hor : f' % 2 = 1 ∨ f' = s' := .inl hod
        refine .t 1 6 rfl rfl (.bits (((f' % 2 : Nat) : Int)) rfl rfl rfl rfl (and1_big _ (by omega))) ?_
        refine .t 0 6 rfl rfl (.bv (.bool true) rfl (congrArg Value.bool (decide_eq_true (by omega)))) ?_
        refine .d 6 6 rfl ?_
        refine .v 0 6 [5] rfl rfl (fun _ _ => .lp (hdv c) rfl) ?_
        refine .v 0 6 [3] rfl rfl (fun _ _ => .lp (hdv a) rfl) ?_
        refine .v 0 6 [] rfl rfl (fun _ _ => .cf (lnode_pf c a) rfl) ?_
        refine .v 0 6 [5] rfl rfl (fun _ _ => .lp (hdv c) rfl) ?_
        refine .v 0 6 [4] rfl rfl (fun _ _ => .lp (hdv b) rfl) ?_
        refine .v 0 6 [] rfl rfl (fun _ _ => .cf (lnode_pf c b) rfl) ?_
        refine .y 2 6 rfl (by kernel_rfl) ?_
        refine TE.obj 3 (.box 41 (hdv (lnode c a))) rfl rfl ?_
        refine TE.obj 4 (.box 41 (hdv (lnode c b))) rfl rfl ?_
        refine .lo (T := Nat × Nat) 0 6 rfl (fun w => evens w.1 w.2 = evens f' s' ∧ w.1 ≤ 1073741825 ∧ w.2 ≤ 1073741825) (fun w => w.1) [0, 1, 2, 3] [] (fun w => [(5, .d (.el (hdv old))), (6, .d (.el (hdv new))), (11, .d (.v (.int .i64 ((w.1 : Nat) : Int)))), (12, .d (.v (.int .i64 ((w.2 : Nat) : Int)))), (13, .ptr 3 0), (14, .ptr 4 0), (16, .ptr 5 0), (69, .d (slT hdv 32 (r))), (70, .d (.v (.int .i64 ((r.length : Nat) : Int)))), (71, .d (.v (.int .i64 ((i : Nat) : Int))))]) (fun w => [(3, .box 41 (hdv (lnode c a))), (4, .box 41 (hdv (lnode c b))), (5, .box 41 (hdv c))]) ((f', s')) rfl rfl ⟨rfl, hI3, hI4⟩ rfl rfl rfl (fun w hI => ?_)
        obtain ⟨f2, s2⟩ := w
        obtain ⟨hJ1, hJ2, hJ3⟩ := hI
        dsimp only at hJ1 hJ2 hJ3 ⊢
        by_cases hev : f2 % 2 = 0
        ·skip
         by_cases hpw2 : 0 < f2
         ·skip
          refine .t 1 6 rfl rfl (.bits (((f2 % 2 : Nat) : Int)) rfl rfl rfl rfl (and1_big _ (by omega))) ?_
          refine .t 0 6 rfl rfl (.bv (.bool true) rfl (congrArg Value.bool (decide_eq_true (by omega)))) ?_
          refine .t 2 6 rfl rfl (.bv (.bool true) rfl (congrArg Value.bool (decide_eq_true (by omega)))) ?_
          refine .t 3 6 rfl rfl (.shr (((f2 / 2 : Nat) : Int)) rfl rfl rfl (by decide) (shr1_i64 _)) ?_
          refine .t 1 6 rfl rfl (.shr (((s2 / 2 : Nat) : Int)) rfl rfl rfl (by decide) (shr1_i64 _)) ?_
          refine .g 2 6 rfl ?_
          refine TE.setv 11 (.int .i64 ((f2 / 2 : Nat) : Int)) rfl (congrArg _ (by first | rfl | (dsimp only; first | done | rfl | omega))) ?_
          refine TE.setv 12 (.int .i64 ((s2 / 2 : Nat) : Int)) rfl (congrArg _ (by first | rfl | (dsimp only; first | done | rfl | omega))) ?_
          exact .rd 0 6 id (fun _ _ e => e) rfl ((f2 / 2, s2 / 2)) ⟨(evens_yes ⟨hev, hpw2⟩).symm.trans hJ1, by show f2 / 2 ≤ _; omega, by show s2 / 2 ≤ _; omega⟩ (by show f2 / 2 < f2; omega) rfl rfl rfl
         ·skip
          have hee : evens f' s' = (f2, s2) := by rw [← hJ1]; exact evens_no (by omega)
          refine .t 1 6 rfl rfl (.bits (((f2 % 2 : Nat) : Int)) rfl rfl rfl rfl (and1_big _ (by omega))) ?_
          refine .t 0 6 rfl rfl (.bv (.bool true) rfl (congrArg Value.bool (decide_eq_true (by omega)))) ?_
          refine .t 2 6 rfl rfl (.bv (.bool false) rfl (congrArg Value.bool (decide_eq_false (by omega)))) ?_
          refine .t 3 6 rfl rfl (.shr (((f2 / 2 : Nat) : Int)) rfl rfl rfl (by decide) (shr1_i64 _)) ?_
          refine .t 1 6 rfl rfl (.shr (((s2 / 2 : Nat) : Int)) rfl rfl rfl (by decide) (shr1_i64 _)) ?_
          refine .t 2 6 rfl rfl (.bv (.int .i64 ((i + 1 : Nat) : Int)) rfl (congrArg _ (by (try dsimp only); rw [IntKind.wrap_i64]; omega))) ?_
          refine .g 1 6 rfl ?_
          refine TE.setv 11 (.int .i64 ((f2 / 2 : Nat) : Int)) rfl (congrArg _ (by first | rfl | (dsimp only; first | done | rfl | omega))) ?_
          refine TE.setv 12 (.int .i64 ((s2 / 2 : Nat) : Int)) rfl (congrArg _ (by first | rfl | (dsimp only; first | done | rfl | omega))) ?_
          refine TE.setv 71 (.int .i64 ((i + 1 : Nat) : Int)) rfl (congrArg _ (by first | rfl | (dsimp only; first | done | rfl | omega))) ?_
          exact .rd 0 6 id (fun _ _ e => e) rfl ((i + 1, f2 / 2, s2 / 2, lnode c a, lnode c b)) ⟨hi, by show gRun (r.take (i + 1)) _ = _; rw [run_take hi, hI2, ← hc]; exact gStep_both hs0 hor hee, by show f2 / 2 ≤ _; omega, by show s2 / 2 ≤ _; omega⟩ (by show r.length - (i + 1) < r.length - i; omega) rfl rfl rfl
        ·skip
         have hee : evens f' s' = (f2, s2) := by rw [← hJ1]; exact evens_no (by omega)
         refine .t 1 6 rfl rfl (.bits (((f2 % 2 : Nat) : Int)) rfl rfl rfl rfl (and1_big _ (by omega))) ?_
         refine .t 0 6 rfl rfl (.bv (.bool false) rfl (congrArg Value.bool (decide_eq_false (by omega)))) ?_
         refine .t 6 6 rfl rfl (.shr (((f2 / 2 : Nat) : Int)) rfl rfl rfl (by decide) (shr1_i64 _)) ?_
         refine .t 1 6 rfl rfl (.shr (((s2 / 2 : Nat) : Int)) rfl rfl rfl (by decide) (shr1_i64 _)) ?_
         refine .t 2 6 rfl rfl (.bv (.int .i64 ((i + 1 : Nat) : Int)) rfl (congrArg _ (by (try dsimp only); rw [IntKind.wrap_i64]; omega))) ?_
         refine .g 1 6 rfl ?_
         refine TE.setv 11 (.int .i64 ((f2 / 2 : Nat) : Int)) rfl (congrArg _ (by first | rfl | (dsimp only; first | done | rfl | omega))) ?_
         refine TE.setv 12 (.int .i64 ((s2 / 2 : Nat) : Int)) rfl (congrArg _ (by first | rfl | (dsimp only; first | done | rfl | omega))) ?_
         refine TE.setv 71 (.int .i64 ((i + 1 : Nat) : Int)) rfl (congrArg _ (by first | rfl | (dsimp only; first | done | rfl | omega))) ?_
         exact .rd 0 6 id (fun _ _ e => e) rfl ((i + 1, f2 / 2, s2 / 2, lnode c a, lnode c b)) ⟨hi, by show gRun (r.take (i + 1)) _ = _; rw [run_take hi, hI2, ← hc]; exact gStep_both hs0 hor hee, by show f2 / 2 ≤ _; omega, by show s2 / 2 ≤ _; omega⟩ (by show r.length - (i + 1) < r.length - i; omega) rfl rfl rfl
       ·skip
        by_cases hfs : f' = s'
        ·skip
         have hor : f' % 2 = 1 ∨ f' = s' := .inr hfs
         refine .t 1 6 rfl rfl (.bits (((f' % 2 : Nat) : Int)) rfl rfl rfl rfl (and1_big _ (by omega))) ?_
         refine .t 0 6 rfl rfl (.bv (.bool false) rfl (congrArg Value.bool (decide_eq_false (by omega)))) ?_
         refine .t 3 6 rfl rfl (.bv (.bool true) rfl (congrArg Value.bool (decide_eq_true (by omega)))) ?_
         refine .d 2 6 rfl ?_
         refine .v 0 6 [5] rfl rfl (fun _ _ => .lp (hdv c) rfl) ?_
         refine .v 0 6 [3] rfl rfl (fun _ _ => .lp (hdv a) rfl) ?_
         refine .v 0 6 [] rfl rfl (fun _ _ => .cf (lnode_pf c a) rfl) ?_
         refine .v 0 6 [5] rfl rfl (fun _ _ => .lp (hdv c) rfl) ?_
         refine .v 0 6 [4] rfl rfl (fun _ _ => .lp (hdv b) rfl) ?_
         refine .v 0 6 [] rfl rfl (fun _ _ => .cf (lnode_pf c b) rfl) ?_
         refine .y 2 6 rfl (by kernel_rfl) ?_
         refine TE.obj 3 (.box 41 (hdv (lnode c a))) rfl rfl ?_
         refine TE.obj 4 (.box 41 (hdv (lnode c b))) rfl rfl ?_
         refine .lo (T := Nat × Nat) 0 6 rfl (fun w => evens w.1 w.2 = evens f' s' ∧ w.1 ≤ 1073741825 ∧ w.2 ≤ 1073741825) (fun w => w.1) [0, 1, 2, 3] [] (fun w => [(5, .d (.el (hdv old))), (6, .d (.el (hdv new))), (11, .d (.v (.int .i64 ((w.1 : Nat) : Int)))), (12, .d (.v (.int .i64 ((w.2 : Nat) : Int)))), (13, .ptr 3 0), (14, .ptr 4 0), (16, .ptr 5 0), (69, .d (slT hdv 32 (r))), (70, .d (.v (.int .i64 ((r.length : Nat) : Int)))), (71, .d (.v (.int .i64 ((i : Nat) : Int))))]) (fun w => [(3, .box 41 (hdv (lnode c a))), (4, .box 41 (hdv (lnode c b))), (5, .box 41 (hdv c))]) ((f', s')) rfl rfl ⟨rfl, hI3, hI4⟩ rfl rfl rfl (fun w hI => ?_)
         obtain ⟨f2, s2⟩ := w
         obtain ⟨hJ1, hJ2, hJ3⟩ := hI
         dsimp only at hJ1 hJ2 hJ3 ⊢
         by_cases hev : f2 % 2 = 0
         ·skip
          by_cases hpw2 : 0 < f2
          ·skip
           refine .t 1 6 rfl rfl (.bits (((f2 % 2 : Nat) : Int)) rfl rfl rfl rfl (and1_big _ (by omega))) ?_
           refine .t 0 6 rfl rfl (.bv (.bool true) rfl (congrArg Value.bool (decide_eq_true (by omega)))) ?_
           refine .t 2 6 rfl rfl (.bv (.bool true) rfl (congrArg Value.bool (decide_eq_true (by omega)))) ?_
           refine .t 3 6 rfl rfl (.shr (((f2 / 2 : Nat) : Int)) rfl rfl rfl (by decide) (shr1_i64 _)) ?_
           refine .t 1 6 rfl rfl (.shr (((s2 / 2 : Nat) : Int)) rfl rfl rfl (by decide) (shr1_i64 _)) ?_
           refine .g 2 6 rfl ?_
           refine TE.setv 11 (.int .i64 ((f2 / 2 : Nat) : Int)) rfl (congrArg _ (by first | rfl | (dsimp only; first | done | rfl | omega))) ?_
           refine TE.setv 12 (.int .i64 ((s2 / 2 : Nat) : Int)) rfl (congrArg _ (by first | rfl | (dsimp only; first | done | rfl | omega))) ?_
           exact .rd 0 6 id (fun _ _ e => e) rfl ((f2 / 2, s2 / 2)) ⟨(evens_yes ⟨hev, hpw2⟩).symm.trans hJ1, by show f2 / 2 ≤ _; omega, by show s2 / 2 ≤ _; omega⟩ (by show f2 / 2 < f2; omega) rfl rfl rfl
          ·skip
           have hee : evens f' s' = (f2, s2) := by rw [← hJ1]; exact evens_no (by omega)
           refine .t 1 6 rfl rfl (.bits (((f2 % 2 : Nat) : Int)) rfl rfl rfl rfl (and1_big _ (by omega))) ?_
           refine .t 0 6 rfl rfl (.bv (.bool true) rfl (congrArg Value.bool (decide_eq_true (by omega)))) ?_
           refine .t 2 6 rfl rfl (.bv (.bool false) rfl (congrArg Value.bool (decide_eq_false (by omega)))) ?_
           refine .t 3 6 rfl rfl (.shr (((f2 / 2 : Nat) : Int)) rfl rfl rfl (by decide) (shr1_i64 _)) ?_
           refine .t 1 6 rfl rfl (.shr (((s2 / 2 : Nat) : Int)) rfl rfl rfl (by decide) (shr1_i64 _)) ?_
           refine .t 2 6 rfl rfl (.bv (.int .i64 ((i + 1 : Nat) : Int)) rfl (congrArg _ (by (try dsimp only); rw [IntKind.wrap_i64]; omega))) ?_
           refine .g 1 6 rfl ?_
           refine TE.setv 11 (.int .i64 ((f2 / 2 : Nat) : Int)) rfl (congrArg _ (by first | rfl | (dsimp only; first | done | rfl | omega))) ?_
           refine TE.setv 12 (.int .i64 ((s2 / 2 : Nat) : Int)) rfl (congrArg _ (by first | rfl | (dsimp only; first | done | rfl | omega))) ?_
           refine TE.setv 71 (.int .i64 ((i + 1 : Nat) : Int)) rfl (congrArg _ (by first | rfl | (dsimp only; first | done | rfl | omega))) ?_
           exact .rd 0 6 id (fun _ _ e => e) rfl ((i + 1, f2 / 2, s2 / 2, lnode c a, lnode c b)) ⟨hi, by show gRun (r.take (i + 1)) _ = _; rw [run_take hi, hI2, ← hc]; exact gStep_both hs0 hor hee, by show f2 / 2 ≤ _; omega, by show s2 / 2 ≤ _; omega⟩ (by show r.length - (i + 1) < r.length - i; omega) rfl rfl rfl
         ·skip
          have hee : evens f' s' = (f2, s2) := by rw [← hJ1]; exact evens_no (by omega)
          refine .t 1 6 rfl rfl (.bits (((f2 % 2 : Nat) : Int)) rfl rfl rfl rfl (and1_big _ (by omega))) ?_
          refine .t 0 6 rfl rfl (.bv (.bool false) rfl (congrArg Value.bool (decide_eq_false (by omega)))) ?_
          refine .t 6 6 rfl rfl (.shr (((f2 / 2 : Nat) : Int)) rfl rfl rfl (by decide) (shr1_i64 _)) ?_
          refine .t 1 6 rfl rfl (.shr (((s2 / 2 : Nat) : Int)) rfl rfl rfl (by decide) (shr1_i64 _)) ?_
          refine .t 2 6 rfl rfl (.bv (.int .i64 ((i + 1 : Nat) : Int)) rfl (congrArg _ (by (try dsimp only); rw [IntKind.wrap_i64]; omega))) ?_
          refine .g 1 6 rfl ?_
          refine TE.setv 11 (.int .i64 ((f2 / 2 : Nat) : Int)) rfl (congrArg _ (by first | rfl | (dsimp only; first | done | rfl | omega))) ?_
          refine TE.setv 12 (.int .i64 ((s2 / 2 : Nat) : Int)) rfl (congrArg _ (by first | rfl | (dsimp only; first | done | rfl | omega))) ?_
          refine TE.setv 71 (.int .i64 ((i + 1 : Nat) : Int)) rfl (congrArg _ (by first | rfl | (dsimp only; first | done | rfl | omega))) ?_
          exact .rd 0 6 id (fun _ _ e => e) rfl ((i + 1, f2 / 2, s2 / 2, lnode c a, lnode c b)) ⟨hi, by show gRun (r.take (i + 1)) _ = _; rw [run_take hi, hI2, ← hc]; exact gStep_both hs0 hor hee, by show f2 / 2 ≤ _; omega, by show s2 / 2 ≤ _; omega⟩ (by show r.length - (i + 1) < r.length - i; omega) rfl rfl rfl
        ·skip
         refine .t 1 6 rfl rfl (.bits (((f' % 2 : Nat) : Int)) rfl rfl rfl rfl (and1_big _ (by omega))) ?_
         refine .t 0 6 rfl rfl (.bv (.bool false) rfl (congrArg Value.bool (decide_eq_false (by omega)))) ?_
         refine .t 3 6 rfl rfl (.bv (.bool false) rfl (congrArg Value.bool (decide_eq_false (by omega)))) ?_
         refine .t 2 6 rfl rfl (.lp (hdv b) rfl) ?_
         refine .t 0 6 rfl rfl (.lp (hdv c) rfl) ?_
         refine .t 0 6 rfl rfl (.cf (lnode_pf b c) rfl) ?_
         refine .g 1 6 rfl ?_
         refine TE.obj 4 (.box 41 (hdv (lnode b c))) rfl rfl ?_
         refine .t 1 6 rfl rfl (.shr (((f' / 2 : Nat) : Int)) rfl rfl rfl (by decide) (shr1_i64 _)) ?_
         refine .t 1 6 rfl rfl (.shr (((s' / 2 : Nat) : Int)) rfl rfl rfl (by decide) (shr1_i64 _)) ?_
         refine .t 2 6 rfl rfl (.bv (.int .i64 ((i + 1 : Nat) : Int)) rfl (congrArg _ (by (try dsimp only); rw [IntKind.wrap_i64]; omega))) ?_
         refine .g 1 6 rfl ?_
         refine TE.setv 11 (.int .i64 ((f' / 2 : Nat) : Int)) rfl (congrArg _ (by first | rfl | (dsimp only; first | done | rfl | omega))) ?_
         refine TE.setv 12 (.int .i64 ((s' / 2 : Nat) : Int)) rfl (congrArg _ (by first | rfl | (dsimp only; first | done | rfl | omega))) ?_
         refine TE.setv 71 (.int .i64 ((i + 1 : Nat) : Int)) rfl (congrArg _ (by first | rfl | (dsimp only; first | done | rfl | omega))) ?_
         exact .rd 0 6 id (fun _ _ e => e) rfl ((i + 1, f' / 2, s' / 2, a, lnode b c)) ⟨hi, by show gRun (r.take (i + 1)) _ = _; rw [run_take hi, hI2, ← hc]; exact gStep_one hs0 hod hfs, by show f' / 2 ≤ _; omega, by show s' / 2 ≤ _; omega⟩ (by show r.length - (i + 1) < r.length - i; omega) rfl rfl rfl
     ·skip
      have hi : ¬ (i < r.length) := by have q := of_decide_eq_false h6; (try dsimp only at q); omega
      have hrun : gRun r (gAt m n x) = some (f', s', a, b) := by rw [List.take_of_length_le (by omega)] at hI2; exact hI2
      by_cases hao : a = old
      ·skip
       by_cases hbn : b = new
       ·skip
        refine .t 0 6 rfl rfl (.lp (hdv a) rfl) ?_
        refine .t 0 6 rfl rfl (.lm (hdv old) rfl) ?_
        refine .t 0 6 rfl rfl (.eqht (a := a) (b := old) (hao) rfl rfl rfl qh41) ?_
        refine .t 1 6 rfl rfl (.lp (hdv b) rfl) ?_
        refine .t 0 6 rfl rfl (.lm (hdv new) rfl) ?_
        refine .t 0 6 rfl rfl (.eqht (a := b) (b := new) (hbn) rfl rfl rfl qh41) ?_
        refine .t 3 6 rfl rfl (.bv (.bool (decide (s' = 0))) rfl (congrArg Value.bool (decide_eq_decide.2 (by omega)))) ?_
        rw [show chk2 old new (gRes (gRun r (gAt m n x))) = decide (s' = 0) by rw [hrun, chk2_state]; rw [hao, hbn]; simp]
        exact .z 2 6 rfl (TE.retf rfl rfl rfl (okv rfl))
       ·skip
        have hne : ¬ H.l b = H.l new := fun q => hbn (H.l_inj q)
        refine .t 0 6 rfl rfl (.lp (hdv a) rfl) ?_
        refine .t 0 6 rfl rfl (.lm (hdv old) rfl) ?_
        refine .t 0 6 rfl rfl (.eqht (a := a) (b := old) (hao) rfl rfl rfl qh41) ?_
        refine .t 1 6 rfl rfl (.lp (hdv b) rfl) ?_
        refine .t 0 6 rfl rfl (.lm (hdv new) rfl) ?_
        refine .t 0 6 rfl rfl (.eqhf (a := b) (b := new) (hne) rfl rfl rfl qh41) ?_
        rw [show chk2 old new (gRes (gRun r (gAt m n x))) = false by rw [hrun, chk2_state]; rw [hao, decide_eq_false hne]; simp]
        exact .z 6 6 rfl (TE.retf rfl rfl rfl (okv rfl))
      ·skip
       have hne : ¬ H.l a = H.l old := fun q => hao (H.l_inj q)
       refine .t 0 6 rfl rfl (.lp (hdv a) rfl) ?_
       refine .t 0 6 rfl rfl (.lm (hdv old) rfl) ?_
       refine .t 0 6 rfl rfl (.eqhf (a := a) (b := old) (hne) rfl rfl rfl qh41) ?_
       rw [show chk2 old new (gRes (gRun r (gAt m n x))) = false by rw [hrun, chk2_state]; rw [decide_eq_false hne]; rfl]
       exact .z 10 6 rfl (TE.retf rfl rfl rfl (okv rfl))
   ·skip
    refine .q 0 6 rfl rfl (fun h25 => ?_) (fun h25 => ?_)
    ·skip
     have hpw : m &&& (m - 1) = 0 := by have q := of_decide_eq_true h25; (try dsimp only at q); omega
     refine .t 0 6 rfl rfl (.lm (hdv old) rfl) ?_
     refine .t 0 6 rfl rfl (.bb (hdv old) 6 rfl) ?_
     refine .g 1 7 rfl ?_
     refine TE.frz 47 (slT hdv 32 ([old])) rfl rfl rfl rfl ?_
     refine .t 0 7 rfl rfl (.bb ([[old], p].flatMap hldv) 7 rfl) ?_
     refine TE.frz 49 (slT hldv 1 ([[old], p])) rfl rfl rfl rfl ?_
     refine .t 0 8 rfl rfl (.co 8 (hconcat_po [[old], p] (by show 2 ≤ _; decide) (by simp; omega)) rfl) ?_
     refine .g 1 9 rfl ?_
     refine TE.frz 4 (slT hdv 32 ([[old], p].flatten)) rfl rfl (flat_length (sz := 32) (enc := hdv) (fun _ => rfl) _) rfl ?_
     refine TE.set 4 (.d (slT hdv 32 (old :: p))) rfl (by simp) ?_
     refine TE.set 4 (.d (slT hdv 32 (P))) rfl (by rw [hP, if_pos hpw]) ?_
     exact .je 0 9 rfl rfl rfl rfl
    ·skip
     have hpw : ¬ m &&& (m - 1) = 0 := by have q := of_decide_eq_false h25; (try dsimp only at q); omega
     refine TE.set 4 (.d (slT hdv 32 (P))) rfl (by rw [hP, if_neg hpw]) ?_
     exact .je 0 9 rfl rfl rfl rfl
end Go.Proofs.YtdjcclcejmeheaaGreat

