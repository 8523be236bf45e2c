import Derived.Test.YtdjcclcejmeheaaGreatZGr
import Derived.Test.YtdjcclcejmeheaaGreatZEv
/-
  The reference's leaves of heads; batches by name.
-/
namespace Go.Proofs.YtdjcclcejmeheaaGreat
set_option linter.unusedVariables false
set_option linter.unusedSimpArgs false
open Go.RowKit Pl
set_option maxRecDepth 100000
set_option maxHeartbeats 3200000
theorem ap63 : apt Tryz.prog 63 = some (35, 3, 32) := by kernel_rfl
theorem et28 : elt Tryz.prog 28 = some (45, 69) := by kernel_rfl
theorem flat_cell {α : Type} {enc : α → List DV} {sz : Nat} (hz : ∀ x, (enc x).length = sz) : ∀ (xs : List α) (i k : Nat) (hi : i < xs.length), k < sz → (xs.flatMap enc)[i * sz + k]? = (enc xs[i])[k]?
  | x :: r, 0, k, hi, hk => by rw [List.flatMap_cons, Nat.zero_mul, Nat.zero_add, List.getElem?_append_left (by rw [hz]; exact hk)]; rfl
  | x :: r, i + 1, k, hi, hk => by
    rw [List.flatMap_cons, List.getElem?_append_right (by rw [hz, Nat.succ_mul]; omega), hz, show (i + 1) * sz + k - sz = i * sz + k by rw [Nat.succ_mul]; omega, flat_cell hz r i k (by simpa using hi) hk]; rfl
theorem last_at {hs : List Hd} (h : 0 < hs.length) : hs.getLastD zeroHd = hs[hs.length - 1]'(by omega) := by
  rw [List.getLastD_eq_getLast?, List.getLast?_eq_getElem?, List.getElem?_eq_getElem (by omega)]; rfl
theorem u8_add (b : UInt8) (j : Nat) (hj : j < 256) : IntKind.u8.wrap (((b.toNat : Nat) : Int) + ((j : Nat) : Int)) = (((b + UInt8.ofNat j).toNat : Nat) : Int) := by
  rw [UInt8.toNat_add, UInt8.toNat_ofNat']
  show ((b.toNat : Int) + (j : Int)).emod 256 = _
  have e : ((b.toNat + j % 2 ^ 8) % 2 ^ 8 : Nat) = (b.toNat + j) % 256 := by omega
  rw [e]; rfl
theorem rleaves_po (l : List Hd) (hl : l.length ≤ 1048576) (ho : ∀ h ∈ l, h.ok) : PO Tryz.prog 13 [slT Hd.dv 69 (l)] 41 32 (l.map hleaf).length ((l.map hleaf).flatMap hdv) := by
 refine PO.enter (fn := Tryz.f13) Tryz.func13 rfl Tryz.ntmps13 rfl (fun w0 => .w ?_)
 refine .g 2 1 rfl ?_
 refine TE.own0 3 1 41 32 rfl rfl ?_
 refine .g 1 2 rfl ?_
 refine TE.setv 4 (.int .i64 ((0 : Nat) : Int)) rfl (congrArg _ (by first | rfl | (dsimp only; first | done | rfl | omega))) ?_
 refine TE.set 3 (.ow 1 ((l.take (0)).map hleaf).length 32) rfl rfl ?_
 refine TE.obj 1 (.row 41 32 (((l.take (0)).map hleaf).flatMap hdv)) rfl rfl ?_
 refine .lo (T := Nat) 0 2 rfl (fun i => i ≤ l.length) (fun i => l.length - i) [0] [] (fun i => [(3, .ow 1 ((l.take (i)).map hleaf).length 32), (4, .d (.v (.int .i64 ((i : Nat) : Int))))]) (fun i => [(1, .row 41 32 (((l.take (i)).map hleaf).flatMap hdv))]) (0) rfl rfl (Nat.zero_le _) rfl rfl rfl (fun i hI => ?_)
 refine .q 4 2 rfl rfl (fun h1 => ?_) (fun h1 => ?_)
 ·skip
  have hi : i < l.length := by have q := of_decide_eq_true h1; (try dsimp only at q); omega
  have hoi := ho l[i] (List.getElem_mem hi)
  have hlv : ((l.take i).map hleaf).length ≤ l.length := by simp; omega
  refine .t 3 2 rfl rfl (.idx (l[i]) rfl rfl rfl rfl et28 (fun _ => rfl) (Int.natCast_nonneg _) (get_nat hi)) ?_
  refine .t 0 2 rfl rfl (.lm (l[i].dv) rfl) ?_
  refine .t 0 2 rfl rfl (.cf ((rbytes_po l[i] hoi).pf) rfl) ?_
  refine .t 0 2 rfl rfl (.cf (rlleaf_pf (putH l[i]) (by rw [putH_len]; decide)) rfl) ?_
  refine .t 0 2 rfl rfl (.bb (hdv (hleaf l[i])) 2 rfl) ?_
  refine .t 0 3 rfl rfl (.ap 3 rfl (flat_length (sz := 32) (enc := hdv) (fun _ => rfl) _) (hg_one _) (by omega) (by omega)) ?_
  refine .t 2 4 rfl rfl (.bv (.int .i64 ((i + 1 : Nat) : Int)) rfl (congrArg _ (by (try dsimp only); rw [IntKind.wrap_i64]; omega))) ?_
  refine .g 1 4 rfl ?_
  refine TE.set 3 (.ow 3 ((l.take (i + 1)).map hleaf).length 32) rfl (by simp; omega) ?_
  refine TE.obj 3 (.row 41 32 (((l.take (i + 1)).map hleaf).flatMap hdv)) rfl (by rw [take_snoc' hi, List.map_append, List.flatMap_append]; rfl) ?_
  refine TE.setv 4 (.int .i64 ((i + 1 : Nat) : Int)) rfl (congrArg _ (by first | rfl | (dsimp only; first | done | rfl | omega))) ?_
  exact .rd 0 4 (swp 1 3) (swp_inj 1 3) rfl (i + 1) hi (by omega) rfl rfl rfl
 ·skip
  have hi : ¬ (i < l.length) := by have q := of_decide_eq_false h1; (try dsimp only at q); omega
  have e : (l.take (i)).map hleaf = l.map hleaf := by rw [List.take_of_length_le (by omega)]
  refine .g 2 4 rfl ?_
  refine TE.obj 1 (.row 41 32 ((l.map hleaf).flatMap hdv)) rfl (by rw [e]) ?_
  refine TE.set 2 (.ow 1 (l.map hleaf).length 32) rfl (by rw [e]) ?_
  exact .z 0 4 rfl (TE.retof rfl rfl rfl (flat_length (sz := 32) (enc := hdv) (fun _ => rfl) _) (by decide) (pl_flat pl_h _))
theorem rbyn_pc (l : List En) (hl : l.length ≤ 1048576) : PC Tryz.prog 62 [slT En.dv 3 (l)] (slT En.dv 3 (byN l)) := by
 refine PC.enter (fn := Tryz.f62) Tryz.func62 rfl Tryz.ntmps62 rfl (fun w0 K0 => .w ?_)
 refine .g 2 1 rfl ?_
 refine TE.own0 3 1 35 3 rfl rfl ?_
 refine TE.frz 3 (slT En.dv 3 ([])) rfl rfl rfl rfl ?_
 refine .g 1 2 rfl ?_
 refine TE.setv 4 (.int .i64 ((0 : Nat) : Int)) rfl (congrArg _ (by first | rfl | (dsimp only; first | done | rfl | omega))) ?_
 refine .lo (T := Nat) 0 2 rfl (fun i => i ≤ l.length) (fun i => l.length - i) [0] [] (fun i => [(3, .d (slT En.dv 3 (byN (l.take i)))), (4, .d (.v (.int .i64 ((i : Nat) : Int))))]) (fun i => []) (0) rfl rfl (Nat.zero_le _) rfl rfl rfl (fun i hI => ?_)
 refine .q 4 2 rfl rfl (fun h1 => ?_) (fun h1 => ?_)
 ·skip
  have hi : i < l.length := by have q := of_decide_eq_true h1; (try dsimp only at q); omega
  obtain ⟨o, ho⟩ : ∃ o, o = byN (l.take i) := ⟨_, rfl⟩
  have hol : o.length = i := by rw [ho, byN_len, List.length_take]; omega
  rw [← ho]
  refine .g 1 2 rfl ?_
  refine TE.setv 5 (.int .i64 ((0 : Nat) : Int)) rfl (congrArg _ (by first | rfl | (dsimp only; first | done | rfl | omega))) ?_
  refine .lo (T := Nat) 0 2 rfl (fun k => k ≤ o.length ∧ ∀ j (hj : j < o.length), j < k → leN o[j].nm l[i].nm = true) (fun k => o.length - k) [0] [] (fun k => [(3, .d (slT En.dv 3 (o))), (4, .d (.v (.int .i64 ((i : Nat) : Int)))), (5, .d (.v (.int .i64 ((k : Nat) : Int))))]) (fun k => []) (0) rfl rfl ⟨Nat.zero_le _, fun j _ h => absurd h (Nat.not_lt_zero j)⟩ rfl rfl rfl (fun k hI => ?_)
  obtain ⟨hko, hka⟩ := hI
  by_cases hq : k < o.length
  ·skip
   by_cases hle : leN o[k].nm l[i].nm = true
   ·skip
    refine .d 0 2 rfl ?_
    refine .v 3 2 [] rfl rfl (fun _ _ => .bv (.bool true) rfl (congrArg Value.bool (decide_eq_true (by omega)))) ?_
    refine .v 3 2 [] rfl rfl (fun _ _ => .idx (o[k]) rfl rfl rfl rfl et63 (fun _ => rfl) (Int.natCast_nonneg _) (get_nat hq)) ?_
    refine .v 4 2 [] rfl rfl (fun _ _ => .idx (l[i]) rfl rfl rfl rfl et63 (fun _ => rfl) (Int.natCast_nonneg _) (get_nat hi)) ?_
    refine .v 2 2 [] rfl rfl (fun _ _ => .bv (.bool true) rfl (congrArg Value.bool hle)) ?_
    refine .y 1 2 rfl (by kernel_rfl) ?_
    refine .t 2 2 rfl rfl (.bv (.int .i64 ((k + 1 : Nat) : Int)) rfl (congrArg _ (by (try dsimp only); rw [IntKind.wrap_i64]; omega))) ?_
    refine .g 1 2 rfl ?_
    refine TE.setv 5 (.int .i64 ((k + 1 : Nat) : Int)) rfl (congrArg _ (by first | rfl | (dsimp only; first | done | rfl | omega))) ?_
    exact .rd 0 2 id (fun _ _ e => e) rfl (k + 1) ⟨hq, fun j hj hjk => (Nat.lt_or_eq_of_le (Nat.le_of_lt_succ hjk)).elim (hka j hj) (fun e => by subst e; exact hle)⟩ (by omega) rfl rfl rfl
   ·skip
    have hend : ∀ hk : k < o.length, leN o[k].nm l[i].nm = false := fun _ => by rw [Bool.not_eq_true] at hle; exact hle
    refine .d 0 2 rfl ?_
    refine .v 3 2 [] rfl rfl (fun _ _ => .bv (.bool true) rfl (congrArg Value.bool (decide_eq_true (by omega)))) ?_
    refine .v 3 2 [] rfl rfl (fun _ _ => .idx (o[k]) rfl rfl rfl rfl et63 (fun _ => rfl) (Int.natCast_nonneg _) (get_nat hq)) ?_
    refine .v 4 2 [] rfl rfl (fun _ _ => .idx (l[i]) rfl rfl rfl rfl et63 (fun _ => rfl) (Int.natCast_nonneg _) (get_nat hi)) ?_
    refine .v 2 2 [] rfl rfl (fun _ _ => .bv (.bool false) rfl (congrArg Value.bool (Bool.not_eq_true _ ▸ hle))) ?_
    refine .y 1 2 rfl (by kernel_rfl) ?_
    refine .d 1 2 rfl ?_
    refine .v 2 2 [] rfl rfl (fun _ _ => .slice rfl rfl rfl rfl rfl et63 (fun _ => rfl) (by omega) (by omega) (by omega)) ?_
    refine .t 0 2 (E := ⟨some (34, _), [(2, _)]⟩) [2] rfl rfl (fun _ _ => .append0 2 rfl rfl rfl ap63 rfl rfl trivial (flat_one (fun _ => rfl) _) (by simp; omega) (by simp; omega)) ?_
    refine .v 2 3 [] rfl rfl (fun _ _ => .idx (l[i]) rfl rfl rfl rfl et63 (fun _ => rfl) (Int.natCast_nonneg _) (get_nat hi)) ?_
    refine .v 0 3 [] rfl rfl (fun _ _ => .lm (l[i].dv) rfl) ?_
    refine .t 0 3 (E := ⟨some (39, _), [(3, _)]⟩) [3] rfl rfl (fun _ _ => .bb (l[i].dv) 3 rfl) ?_
    refine .t 0 4 (E := ⟨some (40, _), [(2, .dead), (4, _)]⟩) [2, 3, 4] rfl rfl (fun _ _ => .ap 4 rfl (by simp [en_len, flat_length (sz := 3) (enc := En.dv) (fun _ => rfl)]) rfl (by simp; omega) (by simp; omega)) ?_
    refine .v 2 5 [] rfl rfl (fun _ _ => .slice rfl rfl rfl rfl rfl et63 (fun _ => rfl) (by omega) (by omega) (by omega)) ?_
    refine .t 0 5 (E := ⟨some (44, _), [(4, .dead), (5, _)]⟩) [4, 5] rfl rfl (fun _ _ => .ap 5 rfl (by simp [en_len, flat_length (sz := 3) (enc := En.dv) (fun _ => rfl)]; omega) (flat_one (fun _ => rfl) _) (by simp; omega) (by simp; omega)) ?_
    refine .y 1 6 rfl (by kernel_rfl) ?_
    have hsp : byN (l.take (i + 1)) = o.take k ++ l[i] :: o.drop k := by rw [byN_snoc hi, ← ho]; unfold inNm; rw [(while_at hko hka hend).1, (while_at hko hka hend).2]
    refine TE.frz 3 (slT En.dv 3 (byN (l.take (i + 1)))) rfl rfl (by simp [en_len, flat_length (sz := 3) (enc := En.dv) (fun _ => rfl)]; omega) (by rw [hsp]; simp [slT, En.dv]; try omega) ?_
    refine .t 1 6 rfl rfl (.bv (.int .i64 ((i + 1 : Nat) : Int)) rfl (congrArg _ (by (try dsimp only); rw [IntKind.wrap_i64]; omega))) ?_
    refine .g 1 6 rfl ?_
    refine TE.setv 4 (.int .i64 ((i + 1 : Nat) : Int)) rfl (congrArg _ (by first | rfl | (dsimp only; first | done | rfl | omega))) ?_
    exact .rd 0 6 id (fun _ _ e => e) rfl (i + 1) hi (by omega) rfl rfl rfl
  ·skip
   have hend : ∀ hk : k < o.length, leN o[k].nm l[i].nm = false := fun hk => absurd hk hq
   refine .d 0 6 rfl ?_
   refine .v 3 6 [] rfl rfl (fun _ _ => .bv (.bool false) rfl (congrArg Value.bool (decide_eq_false (by omega)))) ?_
   refine .y 13 6 rfl (by kernel_rfl) ?_
   refine .d 1 6 rfl ?_
   refine .v 2 6 [] rfl rfl (fun _ _ => .slice rfl rfl rfl rfl rfl et63 (fun _ => rfl) (by omega) (by omega) (by omega)) ?_
   refine .t 0 6 (E := ⟨some (34, _), [(6, _)]⟩) [6] rfl rfl (fun _ _ => .append0 6 rfl rfl rfl ap63 rfl rfl trivial (flat_one (fun _ => rfl) _) (by simp; omega) (by simp; omega)) ?_
   refine .v 2 7 [] rfl rfl (fun _ _ => .idx (l[i]) rfl rfl rfl rfl et63 (fun _ => rfl) (Int.natCast_nonneg _) (get_nat hi)) ?_
   refine .v 0 7 [] rfl rfl (fun _ _ => .lm (l[i].dv) rfl) ?_
   refine .t 0 7 (E := ⟨some (39, _), [(7, _)]⟩) [7] rfl rfl (fun _ _ => .bb (l[i].dv) 7 rfl) ?_
   refine .t 0 8 (E := ⟨some (40, _), [(6, .dead), (8, _)]⟩) [6, 7, 8] rfl rfl (fun _ _ => .ap 8 rfl (by simp [en_len, flat_length (sz := 3) (enc := En.dv) (fun _ => rfl)]) rfl (by simp; omega) (by simp; omega)) ?_
   refine .v 2 9 [] rfl rfl (fun _ _ => .slice rfl rfl rfl rfl rfl et63 (fun _ => rfl) (by omega) (by omega) (by omega)) ?_
   refine .t 0 9 (E := ⟨some (44, _), [(8, .dead), (9, _)]⟩) [8, 9] rfl rfl (fun _ _ => .ap 9 rfl (by simp [en_len, flat_length (sz := 3) (enc := En.dv) (fun _ => rfl)]; omega) (flat_one (fun _ => rfl) _) (by simp; omega) (by simp; omega)) ?_
   refine .y 1 10 rfl (by kernel_rfl) ?_
   have hsp : byN (l.take (i + 1)) = o.take k ++ l[i] :: o.drop k := by rw [byN_snoc hi, ← ho]; unfold inNm; rw [(while_at hko hka hend).1, (while_at hko hka hend).2]
   refine TE.frz 3 (slT En.dv 3 (byN (l.take (i + 1)))) rfl rfl (by simp [en_len, flat_length (sz := 3) (enc := En.dv) (fun _ => rfl)]; omega) (by rw [hsp]; simp [slT, En.dv]; try omega) ?_
   refine .t 1 10 rfl rfl (.bv (.int .i64 ((i + 1 : Nat) : Int)) rfl (congrArg _ (by (try dsimp only); rw [IntKind.wrap_i64]; omega))) ?_
   refine .g 1 10 rfl ?_
   refine TE.setv 4 (.int .i64 ((i + 1 : Nat) : Int)) rfl (congrArg _ (by first | rfl | (dsimp only; first | done | rfl | omega))) ?_
   exact .rd 0 10 id (fun _ _ e => e) rfl (i + 1) hi (by omega) rfl rfl rfl
 ·skip
  have hi : ¬ (i < l.length) := by have q := of_decide_eq_false h1; (try dsimp only at q); omega
  have e : byN (l.take i) = byN l := by rw [List.take_of_length_le (by omega)]
  rw [← e]
  exact .z 2 10 rfl (TE.retc rfl rfl rfl)
end Go.Proofs.YtdjcclcejmeheaaGreat

