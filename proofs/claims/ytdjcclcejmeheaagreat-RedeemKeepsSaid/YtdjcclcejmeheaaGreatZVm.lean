import Derived.Test.YtdjcclcejmeheaaGreatZQ3
import Derived.Test.YtdjcclcejmeheaaGreatZEv
/-
  Items compared. The library's insertion sort. The library's rotation. The library's merging of neighbours. The library's stable sort. Turned round; clipped. Leaves, nodes, nothing: both sides.
-/
namespace Go.Proofs.YtdjcclcejmeheaaGreat
set_option linter.unusedVariables false
set_option linter.unusedSimpArgs false
open Go.RowKit Pl
set_option maxRecDepth 100000
set_option maxHeartbeats 3200000
theorem rempty_pf : PF Tryz.prog 136 [] (.ag (hdv (tagH 122 []))) := by
 refine PF.enter (fn := Tryz.f136) Tryz.func136 rfl Tryz.ntmps136 rfl (fun w0 => .w ?_)
 refine .t 1 1 rfl rfl (.cf (.nil2 (rtag_pf 122 [] (by decide) (by decide) (by simp [textLen, totalLen, H.l_len]))) rfl) ?_
 exact .z 1 2 rfl (TE.retf rfl rfl rfl (pl_ag (pl_h _)))
theorem rleaf_pf (x : It) : PF Tryz.prog 137 [.ag x.dv] (.ag (hdv (tagH 108 [H.l x.ix, H.l x.vl]))) := by
 refine PF.enter (fn := Tryz.f137) Tryz.func137 rfl Tryz.ntmps137 rfl (fun w0 => .w ?_)
 refine .g 2 1 rfl ?_
 refine TE.frzb 1 rfl rfl rfl rfl ?_
 refine .d 0 3 rfl ?_
 refine .t 4 3 (E := ⟨some (7, _), [(3, _)]⟩) [3] rfl rfl (fun _ _ => .ba 3 rfl) ?_
 refine .v 0 4 [3] rfl rfl (fun _ _ => .cf (rtag_pf 108 [H.l x.ix, H.l x.vl] (by decide) (by decide) (by simp [textLen, totalLen, H.l_len])) rfl) ?_
 refine .y 1 4 rfl (by kernel_rfl) ?_
 exact .z 0 4 rfl (TE.retf rfl rfl rfl (pl_ag (pl_h _)))
theorem rnode_pf (a b : H) : PF Tryz.prog 138 [.ag (hdv a), .ag (hdv b)] (.ag (hdv (tagH 110 [H.l a, H.l b]))) := by
 refine PF.enter (fn := Tryz.f138) Tryz.func138 rfl Tryz.ntmps138 rfl (fun w0 => .w ?_)
 refine .g 3 1 rfl ?_
 refine TE.frzb 2 rfl rfl rfl rfl ?_
 refine TE.frzb 3 rfl rfl rfl rfl ?_
 refine .d 0 4 rfl ?_
 refine .t 2 4 (E := ⟨some (7, _), [(4, _)]⟩) [4] rfl rfl (fun _ _ => .ba 4 rfl) ?_
 refine .v 0 5 [4] rfl rfl (fun _ _ => .cf (rtag_pf 110 [H.l a, H.l b] (by decide) (by decide) (by simp [textLen, totalLen, H.l_len])) rfl) ?_
 refine .y 1 5 rfl (by kernel_rfl) ?_
 exact .z 0 5 rfl (TE.retf rfl rfl rfl (pl_ag (pl_h _)))
end Go.Proofs.YtdjcclcejmeheaaGreat
/-
  Bits of a hash: both sides. Neighbours that are alike. Lists joined. Below a place. Set of the program. The reference's Set.
-/
namespace Go.Proofs.YtdjcclcejmeheaaGreat
set_option linter.unusedVariables false
set_option linter.unusedSimpArgs false
open Go.RowKit Pl
set_option maxRecDepth 100000
set_option maxHeartbeats 3200000
theorem ar41 : arr Tryz.prog 41 = some (32, 1) := by kernel_rfl
theorem tk5 : tyk Tryz.prog 5 = some none := by kernel_rfl
theorem bit_pf (h : H) (i : Int) : PF Tryz.prog 121 [.ag (hdv h), .v (.int .i64 i)] (.v (.int .i64 (bitI h i))) := by
 refine PF.enter (fn := Tryz.f121) Tryz.func121 rfl Tryz.ntmps121 rfl (fun w0 => .w ?_)
 by_cases h0 : i < 0
 ·skip
  have e : bitI h i = 0 := by unfold bitI; rw [if_pos h0]
  refine .t 3 1 rfl rfl (.bv (.bool true) rfl (congrArg Value.bool (decide_eq_true h0))) ?_
  rw [e]
  exact .z 6 2 rfl (TE.retf rfl rfl rfl trivial)
 ·skip
  by_cases h1 : i ≥ 256
  ·skip
   have e : bitI h i = 0 := by unfold bitI; rw [if_neg h0, if_pos h1]
   refine .t 3 1 rfl rfl (.bv (.bool false) rfl (congrArg Value.bool (decide_eq_false h0))) ?_
   refine .t 2 2 rfl rfl (.bv (.bool true) rfl (congrArg Value.bool (decide_eq_true h1))) ?_
   rw [e]
   exact .z 3 2 rfl (TE.retf rfl rfl rfl trivial)
  ·skip
   obtain ⟨k, rfl⟩ : ∃ k : Nat, i = k := ⟨i.toNat, by omega⟩
   have hk : k < 256 := by omega
   have e := bitI_nat h hk
   have hb := byteN_lt h (k / 8)
   have hs : byteN h (k / 8) / 2 ^ (7 - k % 8) < 256 := Nat.lt_of_le_of_lt (Nat.div_le_self _ _) hb
   refine .t 3 1 rfl rfl (.bv (.bool false) rfl (congrArg Value.bool (decide_eq_false h0))) ?_
   refine .t 2 2 rfl rfl (.bv (.bool false) rfl (congrArg Value.bool (decide_eq_false h1))) ?_
   refine .t 3 2 rfl rfl (.quo (((k / 8 : Nat) : Int)) rfl rfl rfl (by decide) (by rw [Int.tdiv_eq_ediv_of_nonneg (by omega), IntKind.wrap_i64]; omega)) ?_
   refine .t 0 2 rfl rfl (.idxp rfl rfl rfl rfl rfl ar41 (Int.natCast_nonneg _) (by omega)) ?_
   refine .t 0 2 rfl rfl (.ldp rfl rfl rfl rfl (by rw [Nat.mul_one, Nat.zero_add, Int.toNat_natCast]; exact hdv_byte h (by omega)) tk5) ?_
   refine .t 1 2 rfl rfl (.rem (((k % 8 : Nat) : Int)) rfl rfl rfl (by decide) (by rw [Int.tmod_eq_emod_of_nonneg (by omega)]; omega)) ?_
   refine .t 0 2 rfl rfl (.bv (.int .i64 ((7 - k % 8 : Nat) : Int)) rfl (congrArg _ (by (try dsimp only); rw [IntKind.wrap_i64]; omega))) ?_
   refine .t 0 2 rfl rfl (.shr (((byteN h (k / 8) / 2 ^ (7 - k % 8) : Nat) : Int)) rfl rfl rfl (by omega) (shr_bit (by omega))) ?_
   refine .t 0 2 rfl rfl (.cv (((byteN h (k / 8) / 2 ^ (7 - k % 8) : Nat) : Int)) rfl (wrap_nat _ (Nat.le_trans (Nat.le_of_lt hs) (by decide)))) ?_
   refine .t 0 2 rfl rfl (.bits (((byteN h (k / 8) / 2 ^ (7 - k % 8) % 2 : Nat) : Int)) rfl rfl rfl rfl (and1_i64 _ hs)) ?_
   rw [e]
   exact .z 1 2 rfl (TE.retf rfl rfl rfl trivial)
theorem rbit_pf (h : H) (i : Int) : PF Tryz.prog 98 [.ag (hdv h), .v (.int .i64 i)] (.v (.int .i64 (bitI h i))) := by
 refine PF.enter (fn := Tryz.f98) Tryz.func98 rfl Tryz.ntmps98 rfl (fun w0 => .w ?_)
 by_cases h0 : i < 0
 ·skip
  have e : bitI h i = 0 := by unfold bitI; rw [if_pos h0]
  refine .t 3 1 rfl rfl (.bv (.bool true) rfl (congrArg Value.bool (decide_eq_true h0))) ?_
  rw [e]
  exact .z 6 2 rfl (TE.retf rfl rfl rfl trivial)
 ·skip
  by_cases h1 : i ≥ 256
  ·skip
   have e : bitI h i = 0 := by unfold bitI; rw [if_neg h0, if_pos h1]
   refine .t 3 1 rfl rfl (.bv (.bool false) rfl (congrArg Value.bool (decide_eq_false h0))) ?_
   refine .t 2 2 rfl rfl (.bv (.bool true) rfl (congrArg Value.bool (decide_eq_true h1))) ?_
   rw [e]
   exact .z 3 2 rfl (TE.retf rfl rfl rfl trivial)
  ·skip
   obtain ⟨k, rfl⟩ : ∃ k : Nat, i = k := ⟨i.toNat, by omega⟩
   have hk : k < 256 := by omega
   have e := bitI_nat h hk
   have hb := byteN_lt h (k / 8)
   have hs : byteN h (k / 8) / 2 ^ (7 - k % 8) < 256 := Nat.lt_of_le_of_lt (Nat.div_le_self _ _) hb
   refine .t 3 1 rfl rfl (.bv (.bool false) rfl (congrArg Value.bool (decide_eq_false h0))) ?_
   refine .t 2 2 rfl rfl (.bv (.bool false) rfl (congrArg Value.bool (decide_eq_false h1))) ?_
   refine .t 3 2 rfl rfl (.quo (((k / 8 : Nat) : Int)) rfl rfl rfl (by decide) (by rw [Int.tdiv_eq_ediv_of_nonneg (by omega), IntKind.wrap_i64]; omega)) ?_
   refine .t 0 2 rfl rfl (.idxp rfl rfl rfl rfl rfl ar41 (Int.natCast_nonneg _) (by omega)) ?_
   refine .t 0 2 rfl rfl (.ldp rfl rfl rfl rfl (by rw [Nat.mul_one, Nat.zero_add, Int.toNat_natCast]; exact hdv_byte h (by omega)) tk5) ?_
   refine .t 1 2 rfl rfl (.rem (((k % 8 : Nat) : Int)) rfl rfl rfl (by decide) (by rw [Int.tmod_eq_emod_of_nonneg (by omega)]; omega)) ?_
   refine .t 0 2 rfl rfl (.bv (.int .i64 ((7 - k % 8 : Nat) : Int)) rfl (congrArg _ (by (try dsimp only); rw [IntKind.wrap_i64]; omega))) ?_
   refine .t 0 2 rfl rfl (.shr (((byteN h (k / 8) / 2 ^ (7 - k % 8) : Nat) : Int)) rfl rfl rfl (by omega) (shr_bit (by omega))) ?_
   refine .t 0 2 rfl rfl (.bits (((byteN h (k / 8) / 2 ^ (7 - k % 8) % 2 : Nat) : Int)) rfl rfl rfl rfl (and1_u8 _ hs)) ?_
   refine .t 0 2 rfl rfl (.cv (((byteN h (k / 8) / 2 ^ (7 - k % 8) % 2 : Nat) : Int)) rfl (wrap_nat _ (Nat.le_trans (Nat.le_of_lt (Nat.mod_lt _ (by decide))) (by decide)))) ?_
   rw [e]
   exact .z 1 2 rfl (TE.retf rfl rfl rfl trivial)
theorem ap100 : apt Tryz.prog 100 = some (79, 64, 64) := by kernel_rfl
theorem et100 : elt Tryz.prog 100 = some (79, 64) := by kernel_rfl
theorem qh41 : eqT Tryz.prog 41 = some hks := by kernel_rfl
theorem sz79 : szt Tryz.prog 79 = some 64 := by kernel_rfl
theorem tk41 : tyk Tryz.prog 41 = some (some 32) := by kernel_rfl
theorem u822 : u8s Tryz.prog 22 = some 5 := by kernel_rfl
theorem us9 : uks Tryz.prog 9 = true := by kernel_rfl
theorem rless_pf (a b : H) : PF Tryz.prog 135 [.ag (hdv a), .ag (hdv b)] (.v (.bool (Op.bytesLess (H.l a) (H.l b)))) := by
 refine PF.enter (fn := Tryz.f135) Tryz.func135 rfl Tryz.ntmps135 rfl (fun w0 => .w ?_)
 refine .g 3 1 rfl ?_
 refine TE.frzb 2 rfl rfl rfl rfl ?_
 refine TE.frzb 3 rfl rfl rfl rfl ?_
 refine .d 0 3 rfl ?_
 refine .v 1 3 [] rfl rfl (fun _ _ => .convbs (l := H.l a) rfl rfl rfl trivial u822 us9) ?_
 refine .v 1 3 [] rfl rfl (fun _ _ => .convbs (l := H.l b) rfl rfl rfl trivial u822 us9) ?_
 refine .v 0 3 [] rfl rfl (fun _ _ => .bv (.bool (Op.bytesLess (H.l a) (H.l b))) rfl (congrArg Value.bool (by (try rw [ba_toList, ba_toList]); rfl))) ?_
 refine .y 1 3 rfl (by kernel_rfl) ?_
 exact .z 0 3 rfl (TE.retf rfl rfl rfl trivial)
theorem rset_po (l m : List It) (hx : l.length + m.length ≤ 1048576) : PO Tryz.prog 96 [slT It.dv 64 (l), slT It.dv 64 (m)] 79 64 (setR l m).length ((setR l m).flatMap It.dv) := by
 obtain ⟨A, hA⟩ : ∃ A, A = l ++ m := ⟨_, rfl⟩
 have hAl : A.length ≤ 1048576 := by rw [hA]; simp; omega
 have hS : setR l m = A.foldl insR [] := by rw [hA]; rfl
 have hA := Lib.hid hA
 rw [hS]
 have hS := Lib.hid hS
 refine PO.enter (fn := Tryz.f96) Tryz.func96 rfl Tryz.ntmps96 rfl (fun w0 => .w ?_)
 refine .g 2 1 rfl ?_
 refine TE.own0 5 1 79 64 rfl rfl ?_
 refine .t 1 2 rfl rfl (.append0 2 rfl rfl rfl ap100 rfl rfl trivial (it_all _) (by omega) (by omega)) ?_
 refine .t 1 3 rfl rfl (.ap 3 rfl (it_flat _) (it_all _) (by omega) (by omega)) ?_
 refine .g 1 4 rfl ?_
 refine TE.frz 6 (slT It.dv 64 (A)) rfl rfl (by rw [List.length_append, it_flat, it_flat]; omega) (by rw [hA.out]; show DV.sl _ _ _ = DV.sl _ _ _; rw [List.length_append, List.flatMap_append]) ?_
 refine .g 1 4 rfl ?_
 refine TE.setv 7 (.int .i64 ((0 : Nat) : Int)) rfl (congrArg _ (by first | rfl | (dsimp only; first | done | rfl | omega))) ?_
 refine .lo (T := Nat × List It) 0 4 rfl (fun s => s.1 ≤ A.length ∧ s.2.length ≤ s.1 ∧ s.2 = (A.take s.1).foldl insR []) (fun s => A.length - s.1) [0, 1] [] (fun s => [(5, .ow 1 s.2.length 64), (6, .d (slT It.dv 64 (A))), (7, .d (.v (.int .i64 ((s.1 : Nat) : Int))))]) (fun s => [(1, .row 79 64 ((s.2).flatMap It.dv))]) ((0, [])) rfl rfl ⟨Nat.zero_le _, Nat.le_refl _, rfl⟩ rfl rfl rfl (fun s hI => ?_)
 obtain ⟨i, out⟩ := s
 obtain ⟨i1, i2, i3⟩ := hI
 have i1 : i ≤ A.length := i1
 have i2 : out.length ≤ i := i2
 have i3 : out = (A.take i).foldl insR [] := i3
 refine .q 4 4 rfl rfl (fun h1 => ?_) (fun h1 => ?_)
 ·skip
  have hi : i < A.length := by have q := of_decide_eq_true h1; (try dsimp only at q); omega
  refine .g 1 4 rfl ?_
  refine TE.setv 8 (.int .i64 ((0 : Nat) : Int)) rfl (congrArg _ (by first | rfl | (dsimp only; first | done | rfl | omega))) ?_
  refine .lo (T := Nat) 0 4 rfl (fun k => k ≤ out.length ∧ ∀ j (hj : j < out.length), j < k → ltI out[j] A[i] = true) (fun k => out.length - k) [0, 1] [] (fun k => [(5, .ow 1 out.length 64), (6, .d (slT It.dv 64 (A))), (7, .d (.v (.int .i64 ((i : Nat) : Int)))), (8, .d (.v (.int .i64 ((k : Nat) : Int))))]) (fun k => [(1, .row 79 64 ((out).flatMap It.dv))]) (0) rfl rfl ⟨Nat.zero_le _, fun j _ h => absurd h (Nat.not_lt_zero j)⟩ rfl rfl rfl (fun k hI => ?_)
  obtain ⟨k1, hj⟩ := hI
  by_cases hk : k < out.length
  ·skip
   refine .d 0 4 rfl ?_
   refine .v 3 4 [] rfl rfl (fun _ _ => .bv (.bool true) rfl (congrArg Value.bool (decide_eq_true (by omega)))) ?_
   refine .v 3 4 [1] rfl rfl (fun _ _ => .ixo rfl (Int.natCast_nonneg _) (by omega)) ?_
   refine .v 1 4 [1] rfl rfl (fun _ _ => .ldpm rfl rfl rfl rfl (by rw [Nat.add_zero, Int.toNat_natCast]; exact flat_ix out hk) (h_len _) tk41) ?_
   refine .v 2 4 [] rfl rfl (fun _ _ => .idx (A[i]) rfl rfl rfl rfl et100 it_len (Int.natCast_nonneg _) (get_nat (hi))) ?_
   refine .v 1 4 [] rfl rfl (fun _ _ => .lm (hdv A[i].ix) rfl) ?_
   refine .v 0 4 [] rfl rfl (fun _ _ => .cf (rless_pf out[k].ix A[i].ix) rfl) ?_
   refine .y 1 4 rfl (by kernel_rfl) ?_
   refine .q 0 4 rfl rfl (fun h3 => ?_) (fun h3 => ?_)
   ·skip
    have hlt : ltI out[k] A[i] = true := h3
    refine .t 1 4 rfl rfl (.bv (.int .i64 ((k + 1 : Nat) : Int)) rfl (congrArg _ (by (try dsimp only); rw [IntKind.wrap_i64]; omega))) ?_
    refine .g 1 4 rfl ?_
    refine TE.setv 8 (.int .i64 ((k + 1 : Nat) : Int)) rfl (congrArg _ (by first | rfl | (dsimp only; first | done | rfl | omega))) ?_
    exact .rd 0 4 id (fun _ _ e => e) rfl (k + 1) ⟨hk, fun j h1 h2 => (Nat.lt_or_eq_of_le (Nat.le_of_lt_succ h2)).elim (hj j h1) (fun e => by subst e; exact hlt)⟩ (by omega) rfl rfl rfl
   ·skip
    have hlt : ltI out[k] A[i] = false := h3
    have hpl := plc_at hk hlt hj
    refine .d 0 4 rfl ?_
    refine .v 3 4 [] rfl rfl (fun _ _ => .bv (.bool true) rfl (congrArg Value.bool (decide_eq_true (by omega)))) ?_
    refine .v 3 4 [1] rfl rfl (fun _ _ => .ixo rfl (Int.natCast_nonneg _) (by omega)) ?_
    refine .v 1 4 [1] rfl rfl (fun _ _ => .ldpm rfl rfl rfl rfl (by rw [Nat.add_zero, Int.toNat_natCast]; exact flat_ix out hk) (h_len _) tk41) ?_
    refine .v 2 4 [] rfl rfl (fun _ _ => .idx (A[i]) rfl rfl rfl rfl et100 it_len (Int.natCast_nonneg _) (get_nat (hi))) ?_
    refine .v 1 4 [] rfl rfl (fun _ _ => .lm (hdv A[i].ix) rfl) ?_
    refine .v 0 4 [] rfl rfl (fun _ _ => .eqh (a := out[k].ix) (b := A[i].ix) rfl rfl rfl qh41) ?_
    refine .y 1 4 rfl (by kernel_rfl) ?_
    refine .q 0 4 rfl rfl (fun h4 => ?_) (fun h4 => ?_)
    ·skip
     have hal : alike out[k] A[i] = true := h4
     refine .t 4 4 rfl rfl (.idx (A[i]) rfl rfl rfl rfl et100 it_len (Int.natCast_nonneg _) (get_nat (hi))) ?_
     refine .t 0 4 rfl rfl (.lm (A[i].dv) rfl) ?_
     refine .t 0 4 rfl rfl (.ixo rfl (Int.natCast_nonneg _) (by omega)) ?_
     refine .t 0 4 rfl rfl (.storer (xs := out) (enc := It.dv) (A[i]) rfl rfl rfl rfl rfl rfl (fun _ => rfl) sz79 rfl (hk)) ?_
     refine .t 1 4 rfl rfl (.bv (.int .i64 ((i + 1 : Nat) : Int)) rfl (congrArg _ (by (try dsimp only); rw [IntKind.wrap_i64]; omega))) ?_
     refine .g 1 4 rfl ?_
     refine TE.set 5 (.ow 1 (out.set k A[i]).length 64) rfl (by rw [List.length_set]) ?_
     refine TE.setv 7 (.int .i64 ((i + 1 : Nat) : Int)) rfl (congrArg _ (by first | rfl | (dsimp only; first | done | rfl | omega))) ?_
     exact .rd 0 4 id (fun _ _ e => e) rfl ((i + 1, out.set k A[i])) ⟨by show i + 1 ≤ _; omega, by show (out.set k A[i]).length ≤ i + 1; rw [List.length_set]; omega, by show out.set k A[i] = (A.take (i + 1)).foldl insR []; rw [foldl_snoc hi, ← i3, insR_set hk (plc_at hk hlt hj) hal]⟩ (by show _ - (i + 1) < _ - i; omega) rfl rfl rfl
    ·skip
     have hno : ∀ hk : k < out.length, ¬ alike out[k] A[i] = true := fun _ => by rw [Bool.not_eq_true]; exact h4
     refine TE.frz 5 (slT It.dv 64 (out)) rfl rfl (it_flat _) rfl ?_
     refine .d 0 4 rfl ?_
     refine .v 2 4 [] rfl rfl (fun _ _ => .slice rfl rfl rfl rfl rfl et100 it_len (by decide) (by omega) (by omega)) ?_
     refine .t 0 4 (E := ⟨some (65, _), [(4, _)]⟩) [4] rfl rfl (fun _ _ => .append0 4 rfl rfl rfl ap100 rfl rfl trivial (it_all _) (by simp; omega) (by simp; omega)) ?_
     refine .v 2 5 [] rfl rfl (fun _ _ => .idx (A[i]) rfl rfl rfl rfl et100 it_len (Int.natCast_nonneg _) (get_nat (hi))) ?_
     refine .v 0 5 [] rfl rfl (fun _ _ => .lm (A[i].dv) rfl) ?_
     refine .t 0 5 (E := ⟨some (70, _), [(5, _)]⟩) [5] rfl rfl (fun _ _ => .bb (A[i].dv) 5 rfl) ?_
     refine .t 0 6 (E := ⟨some (71, _), [(4, .dead), (6, _)]⟩) [4, 5, 6] rfl rfl (fun _ _ => .ap 6 rfl (it_flat _) (it_one _) (by simp; omega) (by simp; omega)) ?_
     refine .v 2 7 [] rfl rfl (fun _ _ => .slice rfl rfl rfl rfl rfl et100 it_len (Int.natCast_nonneg _) (by omega) (by omega)) ?_
     refine .t 0 7 (E := ⟨some (75, _), [(6, .dead), (7, _)]⟩) [6, 7] rfl rfl (fun _ _ => .ap 7 rfl (by rw [List.length_append, it_flat, it_len]; omega) (it_all _) (by simp; omega) (by simp; omega)) ?_
     refine .y 1 8 rfl (by kernel_rfl) ?_
     refine .t 1 8 rfl rfl (.bv (.int .i64 ((i + 1 : Nat) : Int)) rfl (congrArg _ (by (try dsimp only); rw [IntKind.wrap_i64]; omega))) ?_
     refine .g 1 8 rfl ?_
     refine TE.set 5 (.ow 7 (out.take k ++ [A[i]] ++ out.drop k).length 64) rfl (by simp; omega) ?_
     refine TE.obj 7 (.row 79 64 (((out.take k ++ [A[i]] ++ out.drop k)).flatMap It.dv)) rfl (by simp [List.flatMap_append]) ?_
     refine TE.setv 7 (.int .i64 ((i + 1 : Nat) : Int)) rfl (congrArg _ (by first | rfl | (dsimp only; first | done | rfl | omega))) ?_
     exact .rd 0 8 (swp 1 7) (swp_inj 1 7) rfl ((i + 1, (out.take k ++ [A[i]] ++ out.drop k))) ⟨by show i + 1 ≤ _; omega, by show (out.take k ++ [A[i]] ++ out.drop k).length ≤ i + 1; rw [← insR_new hpl hno]; have := insR_len out A[i]; omega, by show (out.take k ++ [A[i]] ++ out.drop k) = (A.take (i + 1)).foldl insR []; rw [foldl_snoc hi, ← i3, insR_new hpl hno]⟩ (by show _ - (i + 1) < _ - i; omega) rfl rfl rfl
  ·skip
   have hpl := plc_none hk k1 hj
   have hno : ∀ hk : k < out.length, ¬ alike out[k] A[i] = true := fun q => absurd q hk
   refine .d 0 8 rfl ?_
   refine .v 3 8 [] rfl rfl (fun _ _ => .bv (.bool false) rfl (congrArg Value.bool (decide_eq_false (by omega)))) ?_
   refine .y 13 8 rfl (by kernel_rfl) ?_
   refine .d 1 8 rfl ?_
   refine .v 3 8 [] rfl rfl (fun _ _ => .bv (.bool false) rfl (congrArg Value.bool (decide_eq_false (by omega)))) ?_
   refine .y 13 8 rfl (by kernel_rfl) ?_
   refine .g 1 8 rfl ?_
   refine TE.frz 5 (slT It.dv 64 (out)) rfl rfl (it_flat _) rfl ?_
   refine .d 0 8 rfl ?_
   refine .v 2 8 [] rfl rfl (fun _ _ => .slice rfl rfl rfl rfl rfl et100 it_len (by decide) (by omega) (by omega)) ?_
   refine .t 0 8 (E := ⟨some (65, _), [(8, _)]⟩) [8] rfl rfl (fun _ _ => .append0 8 rfl rfl rfl ap100 rfl rfl trivial (it_all _) (by simp; omega) (by simp; omega)) ?_
   refine .v 2 9 [] rfl rfl (fun _ _ => .idx (A[i]) rfl rfl rfl rfl et100 it_len (Int.natCast_nonneg _) (get_nat (hi))) ?_
   refine .v 0 9 [] rfl rfl (fun _ _ => .lm (A[i].dv) rfl) ?_
   refine .t 0 9 (E := ⟨some (70, _), [(9, _)]⟩) [9] rfl rfl (fun _ _ => .bb (A[i].dv) 9 rfl) ?_
   refine .t 0 10 (E := ⟨some (71, _), [(8, .dead), (10, _)]⟩) [8, 9, 10] rfl rfl (fun _ _ => .ap 10 rfl (it_flat _) (it_one _) (by simp; omega) (by simp; omega)) ?_
   refine .v 2 11 [] rfl rfl (fun _ _ => .slice rfl rfl rfl rfl rfl et100 it_len (Int.natCast_nonneg _) (by omega) (by omega)) ?_
   refine .t 0 11 (E := ⟨some (75, _), [(10, .dead), (11, _)]⟩) [10, 11] rfl rfl (fun _ _ => .ap 11 rfl (by rw [List.length_append, it_flat, it_len]; omega) (it_all _) (by simp; omega) (by simp; omega)) ?_
   refine .y 1 12 rfl (by kernel_rfl) ?_
   refine .t 1 12 rfl rfl (.bv (.int .i64 ((i + 1 : Nat) : Int)) rfl (congrArg _ (by (try dsimp only); rw [IntKind.wrap_i64]; omega))) ?_
   refine .g 1 12 rfl ?_
   refine TE.set 5 (.ow 11 (out.take k ++ [A[i]] ++ out.drop k).length 64) rfl (by simp; omega) ?_
   refine TE.obj 11 (.row 79 64 (((out.take k ++ [A[i]] ++ out.drop k)).flatMap It.dv)) rfl (by simp [List.flatMap_append]) ?_
   refine TE.setv 7 (.int .i64 ((i + 1 : Nat) : Int)) rfl (congrArg _ (by first | rfl | (dsimp only; first | done | rfl | omega))) ?_
   exact .rd 0 12 (swp 1 11) (swp_inj 1 11) rfl ((i + 1, (out.take k ++ [A[i]] ++ out.drop k))) ⟨by show i + 1 ≤ _; omega, by show (out.take k ++ [A[i]] ++ out.drop k).length ≤ i + 1; rw [← insR_new hpl hno]; have := insR_len out A[i]; omega, by show (out.take k ++ [A[i]] ++ out.drop k) = (A.take (i + 1)).foldl insR []; rw [foldl_snoc hi, ← i3, insR_new hpl hno]⟩ (by show _ - (i + 1) < _ - i; omega) rfl rfl rfl
 ·skip
  have hi : ¬ (i < A.length) := by have q := of_decide_eq_false h1; (try dsimp only at q); omega
  have e : out = A.foldl insR [] := by rw [i3, show i = A.length by omega, List.take_length]
  rw [← e]
  exact .z 2 12 rfl (TE.retof rfl rfl rfl (it_flat _) (by decide) (pl_flat pl_it _))
end Go.Proofs.YtdjcclcejmeheaaGreat

