import Derived.Test.YtdjcclcejmeheaaGreatZKn
import Derived.Test.YtdjcclcejmeheaaGreatZFp
import Derived.Test.YtdjcclcejmeheaaGreatZEv
/-
  RedeemGrows.
-/
namespace Go.Proofs.YtdjcclcejmeheaaGreat
set_option linter.unusedVariables false
set_option linter.unusedSimpArgs false
open Go.RowKit Pl
set_option maxRecDepth 100000
set_option maxHeartbeats 3200000
theorem ub4 : ubl Tryz.prog 4 = true := by kernel_rfl
theorem redeemGrows_pf (l : List UInt8) (raw : List H) (old new : List UInt8) (k : UInt8) (x : H) : PF Tryz.prog 5 [slT bdv 1 (l), slT hdv 32 (raw), slT bdv 1 (old), slT bdv 1 (new), .v (.int .u8 ((k.toNat : Nat) : Int)), .ag (hdv (x))] (.v (.bool true)) := by
 have hk := k.toNat_lt
 refine PF.enter (fn := Tryz.f5) Tryz.func5 rfl Tryz.ntmps5 rfl (fun w0 => .w ?_)
 refine .g 2 1 rfl ?_
 refine TE.frzb 11 rfl rfl rfl rfl ?_
 refine .t 0 2 rfl rfl (.cf (rknown_pf) rfl) ?_
 by_cases g0 : 8 < l.length
 ·skip
  refine .t 4 2 rfl rfl (.bv (.bool true) rfl (congrArg Value.bool (decide_eq_true (by omega)))) ?_
  exact .z 17 2 rfl (TE.retf rfl rfl rfl (okv rfl))
 ·skip
  by_cases g1 : 8 < raw.length
  ·skip
   refine .t 4 2 rfl rfl (.bv (.bool false) rfl (congrArg Value.bool (decide_eq_false (by omega)))) ?_
   refine .t 3 2 rfl rfl (.bv (.bool true) rfl (congrArg Value.bool (decide_eq_true (by omega)))) ?_
   exact .z 13 2 rfl (TE.retf rfl rfl rfl (okv rfl))
  ·skip
   by_cases g2 : 200 < old.length
   ·skip
    refine .t 4 2 rfl rfl (.bv (.bool false) rfl (congrArg Value.bool (decide_eq_false (by omega)))) ?_
    refine .t 3 2 rfl rfl (.bv (.bool false) rfl (congrArg Value.bool (decide_eq_false (by omega)))) ?_
    refine .t 4 2 rfl rfl (.bv (.bool true) rfl (congrArg Value.bool (decide_eq_true (by omega)))) ?_
    exact .z 8 2 rfl (TE.retf rfl rfl rfl (okv rfl))
   ·skip
    by_cases g3 : 200 < new.length
    ·skip
     refine .t 4 2 rfl rfl (.bv (.bool false) rfl (congrArg Value.bool (decide_eq_false (by omega)))) ?_
     refine .t 3 2 rfl rfl (.bv (.bool false) rfl (congrArg Value.bool (decide_eq_false (by omega)))) ?_
     refine .t 4 2 rfl rfl (.bv (.bool false) rfl (congrArg Value.bool (decide_eq_false (by omega)))) ?_
     refine .t 4 2 rfl rfl (.bv (.bool true) rfl (congrArg Value.bool (decide_eq_true (by omega)))) ?_
     exact .z 3 2 rfl (TE.retf rfl rfl rfl (okv rfl))
    ·skip
     obtain ⟨s, hsE⟩ : ∃ s, s = epsR 5 l := ⟨_, rfl⟩
     have si : EpsIn s l.length := by rw [hsE]; exact eps_in l (by omega)
     have hko : HeadsOk s.hs := by rw [hsE]; exact eps_heads l (by omega)
     have cE := epochs_pc 5 ⟨by decide, by decide⟩ l (by omega)
     rw [← hsE] at cE
     have hsl := si.hsl
     have hll : (s.hs.map hleaf).length = s.hs.length := List.length_map _
     refine .t 4 2 rfl rfl (.bv (.bool false) rfl (congrArg Value.bool (decide_eq_false (by omega)))) ?_
     refine .t 3 2 rfl rfl (.bv (.bool false) rfl (congrArg Value.bool (decide_eq_false (by omega)))) ?_
     refine .t 4 2 rfl rfl (.bv (.bool false) rfl (congrArg Value.bool (decide_eq_false (by omega)))) ?_
     refine .t 4 2 rfl rfl (.bv (.bool false) rfl (congrArg Value.bool (decide_eq_false (by omega)))) ?_
     refine .t 3 2 rfl rfl (.cc (cE) rfl) ?_
     refine .t 7 2 rfl rfl (.cf (rpub_pf 5 ⟨by decide, by decide⟩) rfl) ?_
     refine .t 2 2 rfl rfl (.co 2 (rleaves_po s.hs (by omega) hko.ok) rfl) ?_
     refine .g 1 3 rfl ?_
     refine TE.frz 17 (slT hdv 32 (s.hs.map hleaf)) rfl rfl (flat_length (sz := 32) (enc := hdv) (fun _ => rfl) _) rfl ?_
     refine .g 1 3 rfl ?_
     refine TE.setv 18 (.int .i64 ((1 : Nat) : Int)) rfl (congrArg _ (by first | rfl | (dsimp only; first | done | rfl | omega))) ?_
     refine .lo (T := Nat) 0 3 rfl (fun m => 1 ≤ m) (fun m => s.hs.length + 1 - m) [0, 1, 2, 3, 4, 5] [] (fun m => [(11, .d (.el (hdv x))), (15, .d (slT Hd.dv 69 (s.hs))), (16, .f (.v (.int .u64 (pubF 5)))), (17, .d (slT hdv 32 (s.hs.map hleaf))), (18, .d (.v (.int .i64 ((m : Nat) : Int))))]) (fun m => []) (1) rfl rfl (Nat.le_refl _) rfl rfl rfl (fun m hI => ?_)
     have hm1 := hI
     refine .q 4 3 rfl rfl (fun h11 => ?_) (fun h11 => ?_)
     ·skip
      have hm : m ≤ s.hs.length := by have q := of_decide_eq_true h11; (try dsimp only at q); omega
      refine .g 1 3 rfl ?_
      refine TE.setv 19 (.int .i64 ((1 : Nat) : Int)) rfl (congrArg _ (by first | rfl | (dsimp only; first | done | rfl | omega))) ?_
      refine .lo (T := Nat) 0 3 rfl (fun n => 1 ≤ n) (fun n => s.hs.length + 1 - n) [0, 1, 2, 3, 4, 5] [] (fun n => [(11, .d (.el (hdv x))), (15, .d (slT Hd.dv 69 (s.hs))), (16, .f (.v (.int .u64 (pubF 5)))), (17, .d (slT hdv 32 (s.hs.map hleaf))), (18, .d (.v (.int .i64 ((m : Nat) : Int)))), (19, .d (.v (.int .i64 ((n : Nat) : Int))))]) (fun n => []) (1) rfl rfl (Nat.le_refl _) rfl rfl rfl (fun n hI => ?_)
      have hn1 := hI
      refine .q 4 3 rfl rfl (fun h12 => ?_) (fun h12 => ?_)
      ·skip
       have hn : n ≤ s.hs.length := by have q := of_decide_eq_true h12; (try dsimp only at q); omega
       have ham : m - 1 < s.hs.length := by omega
       have hbn : n - 1 < s.hs.length := by omega
       have htl : ((s.hs.map hleaf).take (n - 1)).length = n - 1 := by rw [List.length_take, hll]; omega
       obtain ⟨P, hP⟩ : ∃ P, P = (if 1 ≤ m - 1 ∧ m - 1 ≤ ((s.hs.map hleaf).take (n - 1)).length then subF ((s.hs.map hleaf).take (n - 1)) (m - 1) true else []) := ⟨_, rfl⟩
       obtain ⟨Q, hQ⟩ : ∃ Q, Q = (if m - 1 < ((s.hs.map hleaf).take (n - 1)).length then pathF ((s.hs.map hleaf).take (n - 1)) (m - 1) else []) := ⟨_, rfl⟩
       have e1 := grown_of hko hm1 hm hn1 hn (p := P) (fun z1 z2 => by rw [hP, if_pos ⟨by omega, by omega⟩])
       have e2 := in_of hko hm1 hm hn1 hn (p := Q) (fun z => by rw [hQ, if_pos (by omega)])
       obtain ⟨a, ha⟩ : ∃ a, a = s.hs[m - 1]'ham := ⟨_, rfl⟩
       obtain ⟨b, hb⟩ : ∃ b, b = s.hs[n - 1]'hbn := ⟨_, rfl⟩
       have hao : a.ok := by rw [ha]; exact hko.ok _ (List.getElem_mem _)
       have hbo : b.ok := by rw [hb]; exact hko.ok _ (List.getElem_mem _)
       rw [← ha, ← hb] at e1 e2
       have hPl : P.length ≤ 1000 := by rw [hP]; split; exact Nat.le_trans (subF_len _ _ _ _) (by omega); exact Nat.zero_le _
       have hQl : Q.length ≤ 1000 := by rw [hQ]; split; exact Nat.le_trans (pathF_len _ _ _) (by omega); exact Nat.zero_le _
       have cPr := rprove_pc ((s.hs.map hleaf).take (n - 1)) (m - 1) (by omega) (by omega)
       rw [← hP] at cPr
       have cPt := rpath_pc ((s.hs.map hleaf).take (n - 1)) (m - 1) (by omega) (by omega)
       rw [← hQ] at cPt
       have la : (putH a).length ≤ 1048576 := by rw [putH_len]; decide
       have lb : (putH b).length ≤ 1048576 := by rw [putH_len]; decide
       have cG := grown_all (pubF 5) ⟨(pubF_bd 5).1, Int.lt_trans (pubF_bd 5).2 (by decide)⟩ (putH a) (putH b) la lb P (by omega)
       rw [e1] at cG
       have cI := in_pf (pubF 5) ⟨(pubF_bd 5).1, Int.lt_trans (pubF_bd 5).2 (by decide)⟩ (putH a) (putH b) la lb Q (by omega)
       rw [e2] at cI
       refine .d 0 3 rfl ?_
       refine .v 2 3 [] rfl rfl (fun _ _ => .bv (.int .i64 ((m - 1 : Nat) : Int)) rfl (congrArg _ (by (try dsimp only); rw [IntKind.wrap_i64]; omega))) ?_
       refine .v 0 3 [] rfl rfl (fun _ _ => .idx (a) rfl rfl rfl rfl et28 (fun _ => rfl) (Int.natCast_nonneg _) (ha ▸ get_nat ham)) ?_
       refine .v 0 3 [] rfl rfl (fun _ _ => .lm (a.dv) rfl) ?_
       refine .v 0 3 [] rfl rfl (fun _ _ => .cf ((rbytes_po a hao).pf) rfl) ?_
       refine .v 2 3 [] rfl rfl (fun _ _ => .bv (.int .i64 ((n - 1 : Nat) : Int)) rfl (congrArg _ (by (try dsimp only); rw [IntKind.wrap_i64]; omega))) ?_
       refine .v 0 3 [] rfl rfl (fun _ _ => .idx (b) rfl rfl rfl rfl et28 (fun _ => rfl) (Int.natCast_nonneg _) (hb ▸ get_nat hbn)) ?_
       refine .v 0 3 [] rfl rfl (fun _ _ => .lm (b.dv) rfl) ?_
       refine .v 0 3 [] rfl rfl (fun _ _ => .cf ((rbytes_po b hbo).pf) rfl) ?_
       refine .y 2 3 rfl (by kernel_rfl) ?_
       refine .t 2 3 rfl rfl (.bv (.int .i64 ((n - 1 : Nat) : Int)) rfl (congrArg _ (by (try dsimp only); rw [IntKind.wrap_i64]; omega))) ?_
       refine .t 0 3 rfl rfl (.slice rfl rfl rfl rfl rfl et52 (fun _ => rfl) (by omega) (by omega) (by omega)) ?_
       refine .t 1 3 rfl rfl (.bv (.int .i64 ((m - 1 : Nat) : Int)) rfl (congrArg _ (by (try dsimp only); rw [IntKind.wrap_i64]; omega))) ?_
       refine .t 0 3 rfl rfl (.cc (cPr) rfl) ?_
       refine .t 7 3 rfl rfl (.bv (.int .i64 ((n - 1 : Nat) : Int)) rfl (congrArg _ (by (try dsimp only); rw [IntKind.wrap_i64]; omega))) ?_
       refine .t 0 3 rfl rfl (.slice rfl rfl rfl rfl rfl et52 (fun _ => rfl) (by omega) (by omega) (by omega)) ?_
       refine .t 1 3 rfl rfl (.bv (.int .i64 ((m - 1 : Nat) : Int)) rfl (congrArg _ (by (try dsimp only); rw [IntKind.wrap_i64]; omega))) ?_
       refine .t 0 3 rfl rfl (.cc (cPt) rfl) ?_
       by_cases r1 : 1 < m
       ·skip
        by_cases r2 : m ≤ n
        ·skip
         rw [if_pos ⟨r1, r2⟩] at cG
         by_cases r3 : m < n
         ·skip
          rw [if_pos r3] at cI
          refine .t 9 3 rfl rfl (.cf (cG) rfl) ?_
          refine .t 4 3 rfl rfl (.cf (cI) rfl) ?_
          refine .t 3 3 rfl rfl (.bv (.bool true) rfl (rfl)) ?_
          refine .t 1 3 rfl rfl (.bv (.bool true) rfl (congrArg Value.bool (decide_eq_true (by omega)))) ?_
          refine .t 3 3 rfl rfl (.bv (.bool true) rfl (congrArg Value.bool (decide_eq_true (by omega)))) ?_
          refine .t 1 3 rfl rfl (.neb false rfl rfl rfl ub4 (by simp)) ?_
          refine .t 2 3 rfl rfl (.bv (.bool true) rfl (rfl)) ?_
          refine .t 2 3 rfl rfl (.bv (.bool true) rfl (congrArg Value.bool (decide_eq_true (by omega)))) ?_
          refine .t 0 3 rfl rfl (.neb false rfl rfl rfl ub4 (by simp)) ?_
          refine .d 2 3 rfl ?_
          refine .t 2 3 (E := ⟨some (133, _), [(3, _)]⟩) [3] rfl rfl (fun _ _ => .append0 3 rfl rfl rfl ap52 rfl rfl trivial (flat_one hg_one _) (by omega) (by omega)) ?_
          refine .v 0 4 [] rfl rfl (fun _ _ => .lm (hdv x) rfl) ?_
          refine .t 0 4 (E := ⟨some (135, _), [(4, .dead)]⟩) [4] rfl rfl (fun _ _ => .letgo (.buildsl (ds := [x].flatMap hdv) 4 rfl rfl rfl ap52 zc41 rfl rfl rfl) rfl rfl) ?_
          refine .t 0 5 (E := ⟨some (136, _), [(3, .dead), (5, .dead)]⟩) [3, 5] rfl rfl (fun _ _ => .appendf 5 (slT hdv 32 (P ++ [x])) rfl rfl rfl (flat_length (sz := 32) (enc := hdv) (fun _ => rfl) _) rfl ap52 rfl rfl trivial (flat_one hg_one _) (by show (_ + 1) * _ ≤ _; omega) (by show _ + 1 ≤ _; omega) (by rw [List.length_append, flat_length (sz := 32) (enc := hdv) (fun _ => rfl), flat_length (sz := 32) (enc := hdv) (fun _ => rfl), List.length_singleton]; omega) (by unfold slT; rw [List.length_append, List.flatMap_append]; rfl)) ?_
          refine .t 1 6 (E := ⟨some (138, _), [(6, _)]⟩) [6] rfl rfl (fun _ _ => .bb ([raw, P ++ [x], Q].flatMap hldv) 6 rfl) ?_
          refine .y 2 7 rfl (by kernel_rfl) ?_
          obtain ⟨Z, hZ⟩ : ∃ Z, Z = [raw, P ++ [x], Q] := ⟨_, rfl⟩
          have hZa : ∀ z ∈ Z, z.length ≤ 1048576 := by rw [hZ]; intro z hz; simp only [List.mem_cons, List.not_mem_nil, or_false] at hz; rcases hz with rfl | rfl | rfl; omega; rw [List.length_append, List.length_singleton]; omega; omega
          have hZl : Z.length = 3 := by rw [hZ]; rfl
          refine TE.frz 138 (slT hldv 1 (Z)) rfl rfl rfl (by rw [hZ]; rfl) ?_
          refine TE.setv 139 (.int .i64 ((Z.length : Nat) : Int)) rfl (congrArg _ (by rw [hZl])) ?_
          refine TE.setv 140 (.int .i64 ((0 : Nat) : Int)) rfl (congrArg _ (by first | rfl | (dsimp only; first | done | rfl | omega))) ?_
          clear hZ
          refine .lo (T := Nat) 0 7 rfl (fun u => u ≤ Z.length) (fun u => Z.length - u) [0, 1, 2, 3, 4, 5] [] (fun u => [(11, .d (.el (hdv x))), (15, .d (slT Hd.dv 69 (s.hs))), (16, .f (.v (.int .u64 (pubF 5)))), (17, .d (slT hdv 32 (s.hs.map hleaf))), (18, .d (.v (.int .i64 ((m : Nat) : Int)))), (19, .d (.v (.int .i64 ((n : Nat) : Int)))), (20, .f (slT bdv 1 (putH a))), (21, .f (slT bdv 1 (putH b))), (138, .d (slT hldv 1 (Z))), (139, .d (.v (.int .i64 ((Z.length : Nat) : Int)))), (140, .d (.v (.int .i64 ((u : Nat) : Int))))]) (fun u => []) (0) rfl rfl (Nat.zero_le _) rfl rfl rfl (fun u hI => ?_)
          refine .q 1 7 rfl rfl (fun h17 => ?_) (fun h17 => ?_)
          ·skip
           have hu : u < Z.length := by have q := of_decide_eq_true h17; (try dsimp only at q); omega
           refine .t 0 7 rfl rfl (.idx (Z[u]) rfl rfl rfl rfl et58 (fun _ => rfl) (Int.natCast_nonneg _) (get_nat hu)) ?_
           refine .t 6 7 rfl rfl (.cf (grown_all (pubF 5) ⟨(pubF_bd 5).1, Int.lt_trans (pubF_bd 5).2 (by decide)⟩ (putH a) (putH b) la lb Z[u] (hZa _ (List.getElem_mem hu))) rfl) ?_
           refine .t 4 7 rfl rfl (.cf (rgrown_pf (pubF 5) ⟨(pubF_bd 5).1, Int.lt_trans (pubF_bd 5).2 (by decide)⟩ (putH a) (putH b) la lb Z[u] (hZa _ (List.getElem_mem hu))) rfl) ?_
           refine .t 0 7 rfl rfl (.bv (.bool false) rfl (congrArg Value.bool (by simp))) ?_
           refine .t 5 7 rfl rfl (.cf (in_pf (pubF 5) ⟨(pubF_bd 5).1, Int.lt_trans (pubF_bd 5).2 (by decide)⟩ (putH a) (putH b) la lb Z[u] (hZa _ (List.getElem_mem hu))) rfl) ?_
           refine .t 4 7 rfl rfl (.cf (rin_pf (pubF 5) ⟨(pubF_bd 5).1, Int.lt_trans (pubF_bd 5).2 (by decide)⟩ (putH a) (putH b) la lb Z[u] (hZa _ (List.getElem_mem hu))) rfl) ?_
           refine .t 0 7 rfl rfl (.bv (.bool false) rfl (congrArg Value.bool (by simp))) ?_
           refine .t 2 7 rfl rfl (.bv (.int .i64 ((u + 1 : Nat) : Int)) rfl (congrArg _ (by rw [IntKind.wrap_i64]; omega))) ?_
           refine .g 1 7 rfl ?_
           refine TE.setv 140 (.int .i64 ((u + 1 : Nat) : Int)) rfl (congrArg _ (by first | rfl | (dsimp only; first | done | rfl | omega))) ?_
           exact .rd 0 7 id (fun _ _ e => e) rfl (u + 1) (by omega) (by omega) rfl rfl rfl
          ·skip
           skip
           refine .t 1 7 rfl rfl (.bv (.int .i64 ((n + 1 : Nat) : Int)) rfl (congrArg _ (by rw [IntKind.wrap_i64]; omega))) ?_
           refine .g 1 7 rfl ?_
           refine TE.setv 19 (.int .i64 ((n + 1 : Nat) : Int)) rfl (congrArg _ (by first | rfl | (dsimp only; first | done | rfl | omega))) ?_
           exact .rd 0 7 id (fun _ _ e => e) rfl (n + 1) (by omega) (by omega) rfl rfl rfl
         ·skip
          rw [if_neg r3] at cI
          refine .t 9 3 rfl rfl (.cf (cG) rfl) ?_
          refine .t 4 7 rfl rfl (.cf (cI) rfl) ?_
          refine .t 3 7 rfl rfl (.bv (.bool true) rfl (rfl)) ?_
          refine .t 1 7 rfl rfl (.bv (.bool true) rfl (congrArg Value.bool (decide_eq_true (by omega)))) ?_
          refine .t 3 7 rfl rfl (.bv (.bool true) rfl (congrArg Value.bool (decide_eq_true (by omega)))) ?_
          refine .t 1 7 rfl rfl (.neb false rfl rfl rfl ub4 (by simp)) ?_
          refine .t 2 7 rfl rfl (.bv (.bool false) rfl (rfl)) ?_
          refine .t 2 7 rfl rfl (.bv (.bool false) rfl (congrArg Value.bool (decide_eq_false (by omega)))) ?_
          refine .t 0 7 rfl rfl (.neb false rfl rfl rfl ub4 (by simp)) ?_
          refine .d 2 7 rfl ?_
          refine .t 2 7 (E := ⟨some (133, _), [(7, _)]⟩) [7] rfl rfl (fun _ _ => .append0 7 rfl rfl rfl ap52 rfl rfl trivial (flat_one hg_one _) (by omega) (by omega)) ?_
          refine .v 0 8 [] rfl rfl (fun _ _ => .lm (hdv x) rfl) ?_
          refine .t 0 8 (E := ⟨some (135, _), [(8, .dead)]⟩) [8] rfl rfl (fun _ _ => .letgo (.buildsl (ds := [x].flatMap hdv) 8 rfl rfl rfl ap52 zc41 rfl rfl rfl) rfl rfl) ?_
          refine .t 0 9 (E := ⟨some (136, _), [(7, .dead), (9, .dead)]⟩) [7, 9] rfl rfl (fun _ _ => .appendf 9 (slT hdv 32 (P ++ [x])) rfl rfl rfl (flat_length (sz := 32) (enc := hdv) (fun _ => rfl) _) rfl ap52 rfl rfl trivial (flat_one hg_one _) (by show (_ + 1) * _ ≤ _; omega) (by show _ + 1 ≤ _; omega) (by rw [List.length_append, flat_length (sz := 32) (enc := hdv) (fun _ => rfl), flat_length (sz := 32) (enc := hdv) (fun _ => rfl), List.length_singleton]; omega) (by unfold slT; rw [List.length_append, List.flatMap_append]; rfl)) ?_
          refine .t 1 10 (E := ⟨some (138, _), [(10, _)]⟩) [10] rfl rfl (fun _ _ => .bb ([raw, P ++ [x], Q].flatMap hldv) 10 rfl) ?_
          refine .y 2 11 rfl (by kernel_rfl) ?_
          obtain ⟨Z, hZ⟩ : ∃ Z, Z = [raw, P ++ [x], Q] := ⟨_, rfl⟩
          have hZa : ∀ z ∈ Z, z.length ≤ 1048576 := by rw [hZ]; intro z hz; simp only [List.mem_cons, List.not_mem_nil, or_false] at hz; rcases hz with rfl | rfl | rfl; omega; rw [List.length_append, List.length_singleton]; omega; omega
          have hZl : Z.length = 3 := by rw [hZ]; rfl
          refine TE.frz 138 (slT hldv 1 (Z)) rfl rfl rfl (by rw [hZ]; rfl) ?_
          refine TE.setv 139 (.int .i64 ((Z.length : Nat) : Int)) rfl (congrArg _ (by rw [hZl])) ?_
          refine TE.setv 140 (.int .i64 ((0 : Nat) : Int)) rfl (congrArg _ (by first | rfl | (dsimp only; first | done | rfl | omega))) ?_
          clear hZ
          refine .lo (T := Nat) 0 11 rfl (fun u => u ≤ Z.length) (fun u => Z.length - u) [0, 1, 2, 3, 4, 5] [] (fun u => [(11, .d (.el (hdv x))), (15, .d (slT Hd.dv 69 (s.hs))), (16, .f (.v (.int .u64 (pubF 5)))), (17, .d (slT hdv 32 (s.hs.map hleaf))), (18, .d (.v (.int .i64 ((m : Nat) : Int)))), (19, .d (.v (.int .i64 ((n : Nat) : Int)))), (20, .f (slT bdv 1 (putH a))), (21, .f (slT bdv 1 (putH b))), (138, .d (slT hldv 1 (Z))), (139, .d (.v (.int .i64 ((Z.length : Nat) : Int)))), (140, .d (.v (.int .i64 ((u : Nat) : Int))))]) (fun u => []) (0) rfl rfl (Nat.zero_le _) rfl rfl rfl (fun u hI => ?_)
          refine .q 1 11 rfl rfl (fun h20 => ?_) (fun h20 => ?_)
          ·skip
           have hu : u < Z.length := by have q := of_decide_eq_true h20; (try dsimp only at q); omega
           refine .t 0 11 rfl rfl (.idx (Z[u]) rfl rfl rfl rfl et58 (fun _ => rfl) (Int.natCast_nonneg _) (get_nat hu)) ?_
           refine .t 6 11 rfl rfl (.cf (grown_all (pubF 5) ⟨(pubF_bd 5).1, Int.lt_trans (pubF_bd 5).2 (by decide)⟩ (putH a) (putH b) la lb Z[u] (hZa _ (List.getElem_mem hu))) rfl) ?_
           refine .t 4 11 rfl rfl (.cf (rgrown_pf (pubF 5) ⟨(pubF_bd 5).1, Int.lt_trans (pubF_bd 5).2 (by decide)⟩ (putH a) (putH b) la lb Z[u] (hZa _ (List.getElem_mem hu))) rfl) ?_
           refine .t 0 11 rfl rfl (.bv (.bool false) rfl (congrArg Value.bool (by simp))) ?_
           refine .t 5 11 rfl rfl (.cf (in_pf (pubF 5) ⟨(pubF_bd 5).1, Int.lt_trans (pubF_bd 5).2 (by decide)⟩ (putH a) (putH b) la lb Z[u] (hZa _ (List.getElem_mem hu))) rfl) ?_
           refine .t 4 11 rfl rfl (.cf (rin_pf (pubF 5) ⟨(pubF_bd 5).1, Int.lt_trans (pubF_bd 5).2 (by decide)⟩ (putH a) (putH b) la lb Z[u] (hZa _ (List.getElem_mem hu))) rfl) ?_
           refine .t 0 11 rfl rfl (.bv (.bool false) rfl (congrArg Value.bool (by simp))) ?_
           refine .t 2 11 rfl rfl (.bv (.int .i64 ((u + 1 : Nat) : Int)) rfl (congrArg _ (by rw [IntKind.wrap_i64]; omega))) ?_
           refine .g 1 11 rfl ?_
           refine TE.setv 140 (.int .i64 ((u + 1 : Nat) : Int)) rfl (congrArg _ (by first | rfl | (dsimp only; first | done | rfl | omega))) ?_
           exact .rd 0 11 id (fun _ _ e => e) rfl (u + 1) (by omega) (by omega) rfl rfl rfl
          ·skip
           skip
           refine .t 1 11 rfl rfl (.bv (.int .i64 ((n + 1 : Nat) : Int)) rfl (congrArg _ (by rw [IntKind.wrap_i64]; omega))) ?_
           refine .g 1 11 rfl ?_
           refine TE.setv 19 (.int .i64 ((n + 1 : Nat) : Int)) rfl (congrArg _ (by first | rfl | (dsimp only; first | done | rfl | omega))) ?_
           exact .rd 0 11 id (fun _ _ e => e) rfl (n + 1) (by omega) (by omega) rfl rfl rfl
        ·skip
         rw [if_neg (fun z => r2 z.2)] at cG
         by_cases r3 : m < n
         ·skip
          rw [if_pos r3] at cI
          refine .t 9 3 rfl rfl (.cf (cG) rfl) ?_
          refine .t 4 11 rfl rfl (.cf (cI) rfl) ?_
          refine .t 3 11 rfl rfl (.bv (.bool false) rfl (rfl)) ?_
          refine .t 1 11 rfl rfl (.bv (.bool true) rfl (congrArg Value.bool (decide_eq_true (by omega)))) ?_
          refine .t 3 11 rfl rfl (.bv (.bool false) rfl (congrArg Value.bool (decide_eq_false (by omega)))) ?_
          refine .t 1 11 rfl rfl (.neb false rfl rfl rfl ub4 (by simp)) ?_
          refine .t 2 11 rfl rfl (.bv (.bool true) rfl (rfl)) ?_
          refine .t 2 11 rfl rfl (.bv (.bool true) rfl (congrArg Value.bool (decide_eq_true (by omega)))) ?_
          refine .t 0 11 rfl rfl (.neb false rfl rfl rfl ub4 (by simp)) ?_
          refine .d 2 11 rfl ?_
          refine .t 2 11 (E := ⟨some (133, _), [(11, _)]⟩) [11] rfl rfl (fun _ _ => .append0 11 rfl rfl rfl ap52 rfl rfl trivial (flat_one hg_one _) (by omega) (by omega)) ?_
          refine .v 0 12 [] rfl rfl (fun _ _ => .lm (hdv x) rfl) ?_
          refine .t 0 12 (E := ⟨some (135, _), [(12, .dead)]⟩) [12] rfl rfl (fun _ _ => .letgo (.buildsl (ds := [x].flatMap hdv) 12 rfl rfl rfl ap52 zc41 rfl rfl rfl) rfl rfl) ?_
          refine .t 0 13 (E := ⟨some (136, _), [(11, .dead), (13, .dead)]⟩) [11, 13] rfl rfl (fun _ _ => .appendf 13 (slT hdv 32 (P ++ [x])) rfl rfl rfl (flat_length (sz := 32) (enc := hdv) (fun _ => rfl) _) rfl ap52 rfl rfl trivial (flat_one hg_one _) (by show (_ + 1) * _ ≤ _; omega) (by show _ + 1 ≤ _; omega) (by rw [List.length_append, flat_length (sz := 32) (enc := hdv) (fun _ => rfl), flat_length (sz := 32) (enc := hdv) (fun _ => rfl), List.length_singleton]; omega) (by unfold slT; rw [List.length_append, List.flatMap_append]; rfl)) ?_
          refine .t 1 14 (E := ⟨some (138, _), [(14, _)]⟩) [14] rfl rfl (fun _ _ => .bb ([raw, P ++ [x], Q].flatMap hldv) 14 rfl) ?_
          refine .y 2 15 rfl (by kernel_rfl) ?_
          obtain ⟨Z, hZ⟩ : ∃ Z, Z = [raw, P ++ [x], Q] := ⟨_, rfl⟩
          have hZa : ∀ z ∈ Z, z.length ≤ 1048576 := by rw [hZ]; intro z hz; simp only [List.mem_cons, List.not_mem_nil, or_false] at hz; rcases hz with rfl | rfl | rfl; omega; rw [List.length_append, List.length_singleton]; omega; omega
          have hZl : Z.length = 3 := by rw [hZ]; rfl
          refine TE.frz 138 (slT hldv 1 (Z)) rfl rfl rfl (by rw [hZ]; rfl) ?_
          refine TE.setv 139 (.int .i64 ((Z.length : Nat) : Int)) rfl (congrArg _ (by rw [hZl])) ?_
          refine TE.setv 140 (.int .i64 ((0 : Nat) : Int)) rfl (congrArg _ (by first | rfl | (dsimp only; first | done | rfl | omega))) ?_
          clear hZ
          refine .lo (T := Nat) 0 15 rfl (fun u => u ≤ Z.length) (fun u => Z.length - u) [0, 1, 2, 3, 4, 5] [] (fun u => [(11, .d (.el (hdv x))), (15, .d (slT Hd.dv 69 (s.hs))), (16, .f (.v (.int .u64 (pubF 5)))), (17, .d (slT hdv 32 (s.hs.map hleaf))), (18, .d (.v (.int .i64 ((m : Nat) : Int)))), (19, .d (.v (.int .i64 ((n : Nat) : Int)))), (20, .f (slT bdv 1 (putH a))), (21, .f (slT bdv 1 (putH b))), (138, .d (slT hldv 1 (Z))), (139, .d (.v (.int .i64 ((Z.length : Nat) : Int)))), (140, .d (.v (.int .i64 ((u : Nat) : Int))))]) (fun u => []) (0) rfl rfl (Nat.zero_le _) rfl rfl rfl (fun u hI => ?_)
          refine .q 1 15 rfl rfl (fun h24 => ?_) (fun h24 => ?_)
          ·skip
           have hu : u < Z.length := by have q := of_decide_eq_true h24; (try dsimp only at q); omega
           refine .t 0 15 rfl rfl (.idx (Z[u]) rfl rfl rfl rfl et58 (fun _ => rfl) (Int.natCast_nonneg _) (get_nat hu)) ?_
           refine .t 6 15 rfl rfl (.cf (grown_all (pubF 5) ⟨(pubF_bd 5).1, Int.lt_trans (pubF_bd 5).2 (by decide)⟩ (putH a) (putH b) la lb Z[u] (hZa _ (List.getElem_mem hu))) rfl) ?_
           refine .t 4 15 rfl rfl (.cf (rgrown_pf (pubF 5) ⟨(pubF_bd 5).1, Int.lt_trans (pubF_bd 5).2 (by decide)⟩ (putH a) (putH b) la lb Z[u] (hZa _ (List.getElem_mem hu))) rfl) ?_
           refine .t 0 15 rfl rfl (.bv (.bool false) rfl (congrArg Value.bool (by simp))) ?_
           refine .t 5 15 rfl rfl (.cf (in_pf (pubF 5) ⟨(pubF_bd 5).1, Int.lt_trans (pubF_bd 5).2 (by decide)⟩ (putH a) (putH b) la lb Z[u] (hZa _ (List.getElem_mem hu))) rfl) ?_
           refine .t 4 15 rfl rfl (.cf (rin_pf (pubF 5) ⟨(pubF_bd 5).1, Int.lt_trans (pubF_bd 5).2 (by decide)⟩ (putH a) (putH b) la lb Z[u] (hZa _ (List.getElem_mem hu))) rfl) ?_
           refine .t 0 15 rfl rfl (.bv (.bool false) rfl (congrArg Value.bool (by simp))) ?_
           refine .t 2 15 rfl rfl (.bv (.int .i64 ((u + 1 : Nat) : Int)) rfl (congrArg _ (by rw [IntKind.wrap_i64]; omega))) ?_
           refine .g 1 15 rfl ?_
           refine TE.setv 140 (.int .i64 ((u + 1 : Nat) : Int)) rfl (congrArg _ (by first | rfl | (dsimp only; first | done | rfl | omega))) ?_
           exact .rd 0 15 id (fun _ _ e => e) rfl (u + 1) (by omega) (by omega) rfl rfl rfl
          ·skip
           skip
           refine .t 1 15 rfl rfl (.bv (.int .i64 ((n + 1 : Nat) : Int)) rfl (congrArg _ (by rw [IntKind.wrap_i64]; omega))) ?_
           refine .g 1 15 rfl ?_
           refine TE.setv 19 (.int .i64 ((n + 1 : Nat) : Int)) rfl (congrArg _ (by first | rfl | (dsimp only; first | done | rfl | omega))) ?_
           exact .rd 0 15 id (fun _ _ e => e) rfl (n + 1) (by omega) (by omega) rfl rfl rfl
         ·skip
          rw [if_neg r3] at cI
          refine .t 9 3 rfl rfl (.cf (cG) rfl) ?_
          refine .t 4 15 rfl rfl (.cf (cI) rfl) ?_
          refine .t 3 15 rfl rfl (.bv (.bool false) rfl (rfl)) ?_
          refine .t 1 15 rfl rfl (.bv (.bool true) rfl (congrArg Value.bool (decide_eq_true (by omega)))) ?_
          refine .t 3 15 rfl rfl (.bv (.bool false) rfl (congrArg Value.bool (decide_eq_false (by omega)))) ?_
          refine .t 1 15 rfl rfl (.neb false rfl rfl rfl ub4 (by simp)) ?_
          refine .t 2 15 rfl rfl (.bv (.bool false) rfl (rfl)) ?_
          refine .t 2 15 rfl rfl (.bv (.bool false) rfl (congrArg Value.bool (decide_eq_false (by omega)))) ?_
          refine .t 0 15 rfl rfl (.neb false rfl rfl rfl ub4 (by simp)) ?_
          refine .d 2 15 rfl ?_
          refine .t 2 15 (E := ⟨some (133, _), [(15, _)]⟩) [15] rfl rfl (fun _ _ => .append0 15 rfl rfl rfl ap52 rfl rfl trivial (flat_one hg_one _) (by omega) (by omega)) ?_
          refine .v 0 16 [] rfl rfl (fun _ _ => .lm (hdv x) rfl) ?_
          refine .t 0 16 (E := ⟨some (135, _), [(16, .dead)]⟩) [16] rfl rfl (fun _ _ => .letgo (.buildsl (ds := [x].flatMap hdv) 16 rfl rfl rfl ap52 zc41 rfl rfl rfl) rfl rfl) ?_
          refine .t 0 17 (E := ⟨some (136, _), [(15, .dead), (17, .dead)]⟩) [15, 17] rfl rfl (fun _ _ => .appendf 17 (slT hdv 32 (P ++ [x])) rfl rfl rfl (flat_length (sz := 32) (enc := hdv) (fun _ => rfl) _) rfl ap52 rfl rfl trivial (flat_one hg_one _) (by show (_ + 1) * _ ≤ _; omega) (by show _ + 1 ≤ _; omega) (by rw [List.length_append, flat_length (sz := 32) (enc := hdv) (fun _ => rfl), flat_length (sz := 32) (enc := hdv) (fun _ => rfl), List.length_singleton]; omega) (by unfold slT; rw [List.length_append, List.flatMap_append]; rfl)) ?_
          refine .t 1 18 (E := ⟨some (138, _), [(18, _)]⟩) [18] rfl rfl (fun _ _ => .bb ([raw, P ++ [x], Q].flatMap hldv) 18 rfl) ?_
          refine .y 2 19 rfl (by kernel_rfl) ?_
          obtain ⟨Z, hZ⟩ : ∃ Z, Z = [raw, P ++ [x], Q] := ⟨_, rfl⟩
          have hZa : ∀ z ∈ Z, z.length ≤ 1048576 := by rw [hZ]; intro z hz; simp only [List.mem_cons, List.not_mem_nil, or_false] at hz; rcases hz with rfl | rfl | rfl; omega; rw [List.length_append, List.length_singleton]; omega; omega
          have hZl : Z.length = 3 := by rw [hZ]; rfl
          refine TE.frz 138 (slT hldv 1 (Z)) rfl rfl rfl (by rw [hZ]; rfl) ?_
          refine TE.setv 139 (.int .i64 ((Z.length : Nat) : Int)) rfl (congrArg _ (by rw [hZl])) ?_
          refine TE.setv 140 (.int .i64 ((0 : Nat) : Int)) rfl (congrArg _ (by first | rfl | (dsimp only; first | done | rfl | omega))) ?_
          clear hZ
          refine .lo (T := Nat) 0 19 rfl (fun u => u ≤ Z.length) (fun u => Z.length - u) [0, 1, 2, 3, 4, 5] [] (fun u => [(11, .d (.el (hdv x))), (15, .d (slT Hd.dv 69 (s.hs))), (16, .f (.v (.int .u64 (pubF 5)))), (17, .d (slT hdv 32 (s.hs.map hleaf))), (18, .d (.v (.int .i64 ((m : Nat) : Int)))), (19, .d (.v (.int .i64 ((n : Nat) : Int)))), (20, .f (slT bdv 1 (putH a))), (21, .f (slT bdv 1 (putH b))), (138, .d (slT hldv 1 (Z))), (139, .d (.v (.int .i64 ((Z.length : Nat) : Int)))), (140, .d (.v (.int .i64 ((u : Nat) : Int))))]) (fun u => []) (0) rfl rfl (Nat.zero_le _) rfl rfl rfl (fun u hI => ?_)
          refine .q 1 19 rfl rfl (fun h27 => ?_) (fun h27 => ?_)
          ·skip
           have hu : u < Z.length := by have q := of_decide_eq_true h27; (try dsimp only at q); omega
           refine .t 0 19 rfl rfl (.idx (Z[u]) rfl rfl rfl rfl et58 (fun _ => rfl) (Int.natCast_nonneg _) (get_nat hu)) ?_
           refine .t 6 19 rfl rfl (.cf (grown_all (pubF 5) ⟨(pubF_bd 5).1, Int.lt_trans (pubF_bd 5).2 (by decide)⟩ (putH a) (putH b) la lb Z[u] (hZa _ (List.getElem_mem hu))) rfl) ?_
           refine .t 4 19 rfl rfl (.cf (rgrown_pf (pubF 5) ⟨(pubF_bd 5).1, Int.lt_trans (pubF_bd 5).2 (by decide)⟩ (putH a) (putH b) la lb Z[u] (hZa _ (List.getElem_mem hu))) rfl) ?_
           refine .t 0 19 rfl rfl (.bv (.bool false) rfl (congrArg Value.bool (by simp))) ?_
           refine .t 5 19 rfl rfl (.cf (in_pf (pubF 5) ⟨(pubF_bd 5).1, Int.lt_trans (pubF_bd 5).2 (by decide)⟩ (putH a) (putH b) la lb Z[u] (hZa _ (List.getElem_mem hu))) rfl) ?_
           refine .t 4 19 rfl rfl (.cf (rin_pf (pubF 5) ⟨(pubF_bd 5).1, Int.lt_trans (pubF_bd 5).2 (by decide)⟩ (putH a) (putH b) la lb Z[u] (hZa _ (List.getElem_mem hu))) rfl) ?_
           refine .t 0 19 rfl rfl (.bv (.bool false) rfl (congrArg Value.bool (by simp))) ?_
           refine .t 2 19 rfl rfl (.bv (.int .i64 ((u + 1 : Nat) : Int)) rfl (congrArg _ (by rw [IntKind.wrap_i64]; omega))) ?_
           refine .g 1 19 rfl ?_
           refine TE.setv 140 (.int .i64 ((u + 1 : Nat) : Int)) rfl (congrArg _ (by first | rfl | (dsimp only; first | done | rfl | omega))) ?_
           exact .rd 0 19 id (fun _ _ e => e) rfl (u + 1) (by omega) (by omega) rfl rfl rfl
          ·skip
           skip
           refine .t 1 19 rfl rfl (.bv (.int .i64 ((n + 1 : Nat) : Int)) rfl (congrArg _ (by rw [IntKind.wrap_i64]; omega))) ?_
           refine .g 1 19 rfl ?_
           refine TE.setv 19 (.int .i64 ((n + 1 : Nat) : Int)) rfl (congrArg _ (by first | rfl | (dsimp only; first | done | rfl | omega))) ?_
           exact .rd 0 19 id (fun _ _ e => e) rfl (n + 1) (by omega) (by omega) rfl rfl rfl
       ·skip
        rw [if_neg (fun z => r1 z.1)] at cG
        by_cases r3 : m < n
        ·skip
         rw [if_pos r3] at cI
         refine .t 9 3 rfl rfl (.cf (cG) rfl) ?_
         refine .t 4 19 rfl rfl (.cf (cI) rfl) ?_
         refine .t 3 19 rfl rfl (.bv (.bool false) rfl (rfl)) ?_
         refine .t 1 19 rfl rfl (.bv (.bool false) rfl (congrArg Value.bool (decide_eq_false (by omega)))) ?_
         refine .t 5 19 rfl rfl (.neb false rfl rfl rfl ub4 (by simp)) ?_
         refine .t 2 19 rfl rfl (.bv (.bool true) rfl (rfl)) ?_
         refine .t 2 19 rfl rfl (.bv (.bool true) rfl (congrArg Value.bool (decide_eq_true (by omega)))) ?_
         refine .t 0 19 rfl rfl (.neb false rfl rfl rfl ub4 (by simp)) ?_
         refine .d 2 19 rfl ?_
         refine .t 2 19 (E := ⟨some (133, _), [(19, _)]⟩) [19] rfl rfl (fun _ _ => .append0 19 rfl rfl rfl ap52 rfl rfl trivial (flat_one hg_one _) (by omega) (by omega)) ?_
         refine .v 0 20 [] rfl rfl (fun _ _ => .lm (hdv x) rfl) ?_
         refine .t 0 20 (E := ⟨some (135, _), [(20, .dead)]⟩) [20] rfl rfl (fun _ _ => .letgo (.buildsl (ds := [x].flatMap hdv) 20 rfl rfl rfl ap52 zc41 rfl rfl rfl) rfl rfl) ?_
         refine .t 0 21 (E := ⟨some (136, _), [(19, .dead), (21, .dead)]⟩) [19, 21] rfl rfl (fun _ _ => .appendf 21 (slT hdv 32 (P ++ [x])) rfl rfl rfl (flat_length (sz := 32) (enc := hdv) (fun _ => rfl) _) rfl ap52 rfl rfl trivial (flat_one hg_one _) (by show (_ + 1) * _ ≤ _; omega) (by show _ + 1 ≤ _; omega) (by rw [List.length_append, flat_length (sz := 32) (enc := hdv) (fun _ => rfl), flat_length (sz := 32) (enc := hdv) (fun _ => rfl), List.length_singleton]; omega) (by unfold slT; rw [List.length_append, List.flatMap_append]; rfl)) ?_
         refine .t 1 22 (E := ⟨some (138, _), [(22, _)]⟩) [22] rfl rfl (fun _ _ => .bb ([raw, P ++ [x], Q].flatMap hldv) 22 rfl) ?_
         refine .y 2 23 rfl (by kernel_rfl) ?_
         obtain ⟨Z, hZ⟩ : ∃ Z, Z = [raw, P ++ [x], Q] := ⟨_, rfl⟩
         have hZa : ∀ z ∈ Z, z.length ≤ 1048576 := by rw [hZ]; intro z hz; simp only [List.mem_cons, List.not_mem_nil, or_false] at hz; rcases hz with rfl | rfl | rfl; omega; rw [List.length_append, List.length_singleton]; omega; omega
         have hZl : Z.length = 3 := by rw [hZ]; rfl
         refine TE.frz 138 (slT hldv 1 (Z)) rfl rfl rfl (by rw [hZ]; rfl) ?_
         refine TE.setv 139 (.int .i64 ((Z.length : Nat) : Int)) rfl (congrArg _ (by rw [hZl])) ?_
         refine TE.setv 140 (.int .i64 ((0 : Nat) : Int)) rfl (congrArg _ (by first | rfl | (dsimp only; first | done | rfl | omega))) ?_
         clear hZ
         refine .lo (T := Nat) 0 23 rfl (fun u => u ≤ Z.length) (fun u => Z.length - u) [0, 1, 2, 3, 4, 5] [] (fun u => [(11, .d (.el (hdv x))), (15, .d (slT Hd.dv 69 (s.hs))), (16, .f (.v (.int .u64 (pubF 5)))), (17, .d (slT hdv 32 (s.hs.map hleaf))), (18, .d (.v (.int .i64 ((m : Nat) : Int)))), (19, .d (.v (.int .i64 ((n : Nat) : Int)))), (20, .f (slT bdv 1 (putH a))), (21, .f (slT bdv 1 (putH b))), (138, .d (slT hldv 1 (Z))), (139, .d (.v (.int .i64 ((Z.length : Nat) : Int)))), (140, .d (.v (.int .i64 ((u : Nat) : Int))))]) (fun u => []) (0) rfl rfl (Nat.zero_le _) rfl rfl rfl (fun u hI => ?_)
         refine .q 1 23 rfl rfl (fun h31 => ?_) (fun h31 => ?_)
         ·skip
          have hu : u < Z.length := by have q := of_decide_eq_true h31; (try dsimp only at q); omega
          refine .t 0 23 rfl rfl (.idx (Z[u]) rfl rfl rfl rfl et58 (fun _ => rfl) (Int.natCast_nonneg _) (get_nat hu)) ?_
          refine .t 6 23 rfl rfl (.cf (grown_all (pubF 5) ⟨(pubF_bd 5).1, Int.lt_trans (pubF_bd 5).2 (by decide)⟩ (putH a) (putH b) la lb Z[u] (hZa _ (List.getElem_mem hu))) rfl) ?_
          refine .t 4 23 rfl rfl (.cf (rgrown_pf (pubF 5) ⟨(pubF_bd 5).1, Int.lt_trans (pubF_bd 5).2 (by decide)⟩ (putH a) (putH b) la lb Z[u] (hZa _ (List.getElem_mem hu))) rfl) ?_
          refine .t 0 23 rfl rfl (.bv (.bool false) rfl (congrArg Value.bool (by simp))) ?_
          refine .t 5 23 rfl rfl (.cf (in_pf (pubF 5) ⟨(pubF_bd 5).1, Int.lt_trans (pubF_bd 5).2 (by decide)⟩ (putH a) (putH b) la lb Z[u] (hZa _ (List.getElem_mem hu))) rfl) ?_
          refine .t 4 23 rfl rfl (.cf (rin_pf (pubF 5) ⟨(pubF_bd 5).1, Int.lt_trans (pubF_bd 5).2 (by decide)⟩ (putH a) (putH b) la lb Z[u] (hZa _ (List.getElem_mem hu))) rfl) ?_
          refine .t 0 23 rfl rfl (.bv (.bool false) rfl (congrArg Value.bool (by simp))) ?_
          refine .t 2 23 rfl rfl (.bv (.int .i64 ((u + 1 : Nat) : Int)) rfl (congrArg _ (by rw [IntKind.wrap_i64]; omega))) ?_
          refine .g 1 23 rfl ?_
          refine TE.setv 140 (.int .i64 ((u + 1 : Nat) : Int)) rfl (congrArg _ (by first | rfl | (dsimp only; first | done | rfl | omega))) ?_
          exact .rd 0 23 id (fun _ _ e => e) rfl (u + 1) (by omega) (by omega) rfl rfl rfl
         ·skip
          skip
          refine .t 1 23 rfl rfl (.bv (.int .i64 ((n + 1 : Nat) : Int)) rfl (congrArg _ (by rw [IntKind.wrap_i64]; omega))) ?_
          refine .g 1 23 rfl ?_
          refine TE.setv 19 (.int .i64 ((n + 1 : Nat) : Int)) rfl (congrArg _ (by first | rfl | (dsimp only; first | done | rfl | omega))) ?_
          exact .rd 0 23 id (fun _ _ e => e) rfl (n + 1) (by omega) (by omega) rfl rfl rfl
        ·skip
         rw [if_neg r3] at cI
         refine .t 9 3 rfl rfl (.cf (cG) rfl) ?_
         refine .t 4 23 rfl rfl (.cf (cI) rfl) ?_
         refine .t 3 23 rfl rfl (.bv (.bool false) rfl (rfl)) ?_
         refine .t 1 23 rfl rfl (.bv (.bool false) rfl (congrArg Value.bool (decide_eq_false (by omega)))) ?_
         refine .t 5 23 rfl rfl (.neb false rfl rfl rfl ub4 (by simp)) ?_
         refine .t 2 23 rfl rfl (.bv (.bool false) rfl (rfl)) ?_
         refine .t 2 23 rfl rfl (.bv (.bool false) rfl (congrArg Value.bool (decide_eq_false (by omega)))) ?_
         refine .t 0 23 rfl rfl (.neb false rfl rfl rfl ub4 (by simp)) ?_
         refine .d 2 23 rfl ?_
         refine .t 2 23 (E := ⟨some (133, _), [(23, _)]⟩) [23] rfl rfl (fun _ _ => .append0 23 rfl rfl rfl ap52 rfl rfl trivial (flat_one hg_one _) (by omega) (by omega)) ?_
         refine .v 0 24 [] rfl rfl (fun _ _ => .lm (hdv x) rfl) ?_
         refine .t 0 24 (E := ⟨some (135, _), [(24, .dead)]⟩) [24] rfl rfl (fun _ _ => .letgo (.buildsl (ds := [x].flatMap hdv) 24 rfl rfl rfl ap52 zc41 rfl rfl rfl) rfl rfl) ?_
         refine .t 0 25 (E := ⟨some (136, _), [(23, .dead), (25, .dead)]⟩) [23, 25] rfl rfl (fun _ _ => .appendf 25 (slT hdv 32 (P ++ [x])) rfl rfl rfl (flat_length (sz := 32) (enc := hdv) (fun _ => rfl) _) rfl ap52 rfl rfl trivial (flat_one hg_one _) (by show (_ + 1) * _ ≤ _; omega) (by show _ + 1 ≤ _; omega) (by rw [List.length_append, flat_length (sz := 32) (enc := hdv) (fun _ => rfl), flat_length (sz := 32) (enc := hdv) (fun _ => rfl), List.length_singleton]; omega) (by unfold slT; rw [List.length_append, List.flatMap_append]; rfl)) ?_
         refine .t 1 26 (E := ⟨some (138, _), [(26, _)]⟩) [26] rfl rfl (fun _ _ => .bb ([raw, P ++ [x], Q].flatMap hldv) 26 rfl) ?_
         refine .y 2 27 rfl (by kernel_rfl) ?_
         obtain ⟨Z, hZ⟩ : ∃ Z, Z = [raw, P ++ [x], Q] := ⟨_, rfl⟩
         have hZa : ∀ z ∈ Z, z.length ≤ 1048576 := by rw [hZ]; intro z hz; simp only [List.mem_cons, List.not_mem_nil, or_false] at hz; rcases hz with rfl | rfl | rfl; omega; rw [List.length_append, List.length_singleton]; omega; omega
         have hZl : Z.length = 3 := by rw [hZ]; rfl
         refine TE.frz 138 (slT hldv 1 (Z)) rfl rfl rfl (by rw [hZ]; rfl) ?_
         refine TE.setv 139 (.int .i64 ((Z.length : Nat) : Int)) rfl (congrArg _ (by rw [hZl])) ?_
         refine TE.setv 140 (.int .i64 ((0 : Nat) : Int)) rfl (congrArg _ (by first | rfl | (dsimp only; first | done | rfl | omega))) ?_
         clear hZ
         refine .lo (T := Nat) 0 27 rfl (fun u => u ≤ Z.length) (fun u => Z.length - u) [0, 1, 2, 3, 4, 5] [] (fun u => [(11, .d (.el (hdv x))), (15, .d (slT Hd.dv 69 (s.hs))), (16, .f (.v (.int .u64 (pubF 5)))), (17, .d (slT hdv 32 (s.hs.map hleaf))), (18, .d (.v (.int .i64 ((m : Nat) : Int)))), (19, .d (.v (.int .i64 ((n : Nat) : Int)))), (20, .f (slT bdv 1 (putH a))), (21, .f (slT bdv 1 (putH b))), (138, .d (slT hldv 1 (Z))), (139, .d (.v (.int .i64 ((Z.length : Nat) : Int)))), (140, .d (.v (.int .i64 ((u : Nat) : Int))))]) (fun u => []) (0) rfl rfl (Nat.zero_le _) rfl rfl rfl (fun u hI => ?_)
         refine .q 1 27 rfl rfl (fun h34 => ?_) (fun h34 => ?_)
         ·skip
          have hu : u < Z.length := by have q := of_decide_eq_true h34; (try dsimp only at q); omega
          refine .t 0 27 rfl rfl (.idx (Z[u]) rfl rfl rfl rfl et58 (fun _ => rfl) (Int.natCast_nonneg _) (get_nat hu)) ?_
          refine .t 6 27 rfl rfl (.cf (grown_all (pubF 5) ⟨(pubF_bd 5).1, Int.lt_trans (pubF_bd 5).2 (by decide)⟩ (putH a) (putH b) la lb Z[u] (hZa _ (List.getElem_mem hu))) rfl) ?_
          refine .t 4 27 rfl rfl (.cf (rgrown_pf (pubF 5) ⟨(pubF_bd 5).1, Int.lt_trans (pubF_bd 5).2 (by decide)⟩ (putH a) (putH b) la lb Z[u] (hZa _ (List.getElem_mem hu))) rfl) ?_
          refine .t 0 27 rfl rfl (.bv (.bool false) rfl (congrArg Value.bool (by simp))) ?_
          refine .t 5 27 rfl rfl (.cf (in_pf (pubF 5) ⟨(pubF_bd 5).1, Int.lt_trans (pubF_bd 5).2 (by decide)⟩ (putH a) (putH b) la lb Z[u] (hZa _ (List.getElem_mem hu))) rfl) ?_
          refine .t 4 27 rfl rfl (.cf (rin_pf (pubF 5) ⟨(pubF_bd 5).1, Int.lt_trans (pubF_bd 5).2 (by decide)⟩ (putH a) (putH b) la lb Z[u] (hZa _ (List.getElem_mem hu))) rfl) ?_
          refine .t 0 27 rfl rfl (.bv (.bool false) rfl (congrArg Value.bool (by simp))) ?_
          refine .t 2 27 rfl rfl (.bv (.int .i64 ((u + 1 : Nat) : Int)) rfl (congrArg _ (by rw [IntKind.wrap_i64]; omega))) ?_
          refine .g 1 27 rfl ?_
          refine TE.setv 140 (.int .i64 ((u + 1 : Nat) : Int)) rfl (congrArg _ (by first | rfl | (dsimp only; first | done | rfl | omega))) ?_
          exact .rd 0 27 id (fun _ _ e => e) rfl (u + 1) (by omega) (by omega) rfl rfl rfl
         ·skip
          skip
          refine .t 1 27 rfl rfl (.bv (.int .i64 ((n + 1 : Nat) : Int)) rfl (congrArg _ (by rw [IntKind.wrap_i64]; omega))) ?_
          refine .g 1 27 rfl ?_
          refine TE.setv 19 (.int .i64 ((n + 1 : Nat) : Int)) rfl (congrArg _ (by first | rfl | (dsimp only; first | done | rfl | omega))) ?_
          exact .rd 0 27 id (fun _ _ e => e) rfl (n + 1) (by omega) (by omega) rfl rfl rfl
      ·skip
       skip
       refine .t 1 27 rfl rfl (.bv (.int .i64 ((m + 1 : Nat) : Int)) rfl (congrArg _ (by rw [IntKind.wrap_i64]; omega))) ?_
       refine .g 1 27 rfl ?_
       refine TE.setv 18 (.int .i64 ((m + 1 : Nat) : Int)) rfl (congrArg _ (by first | rfl | (dsimp only; first | done | rfl | omega))) ?_
       exact .rd 0 27 id (fun _ _ e => e) rfl (m + 1) (by omega) (by omega) rfl rfl rfl
     ·skip
      skip
      refine .t 4 27 rfl rfl (.cf (grown_all (pubF 5) ⟨(pubF_bd 5).1, Int.lt_trans (pubF_bd 5).2 (by decide)⟩ old new (by omega) (by omega) raw (by omega)) rfl) ?_
      refine .t 4 27 rfl rfl (.cf (rgrown_pf (pubF 5) ⟨(pubF_bd 5).1, Int.lt_trans (pubF_bd 5).2 (by decide)⟩ old new (by omega) (by omega) raw (by omega)) rfl) ?_
      refine .t 0 27 rfl rfl (.bv (.bool true) rfl (congrArg Value.bool (decide_eq_true rfl))) ?_
      refine .t 2 27 rfl rfl (.cv (((k.toNat : Nat) : Int)) rfl (by rw [IntKind.wrap_u64]; omega)) ?_
      refine .t 3 27 rfl rfl (.cf (in_pf ((k.toNat : Nat) : Int) ⟨by omega, by omega⟩ old new (by omega) (by omega) raw (by omega)) rfl) ?_
      refine .t 1 27 rfl rfl (.cv (((k.toNat : Nat) : Int)) rfl (by rw [IntKind.wrap_u64]; omega)) ?_
      refine .t 3 27 rfl rfl (.cf (rin_pf ((k.toNat : Nat) : Int) ⟨by omega, by omega⟩ old new (by omega) (by omega) raw (by omega)) rfl) ?_
      refine .t 0 27 rfl rfl (.bv (.bool true) rfl (congrArg Value.bool (decide_eq_true rfl))) ?_
      exact .z 2 27 rfl (TE.retf rfl rfl rfl (okv rfl))
end Go.Proofs.YtdjcclcejmeheaaGreat

