/-
  DirectoryChains.
-/
import Derived.Test.YthidepbffhhkmaaEe
namespace Go.Proofs.Ythidepbffhhkmaa
set_option linter.unusedVariables false
set_option linter.unusedSimpArgs false
open Go.RowKit Pl


theorem neb_iff {p q : Prop} [Decidable p] [Decidable q] (h : p ↔ q) : (!(decide p == decide q)) = false := by
  by_cases hp : p
  · simp [hp, h.1 hp]
  · have hq : ¬ q := fun x => hp (h.2 x)
    simp [hp, hq]
def maxE (l : List Kn) : Int := l.foldl (fun m k => max m k.ep) 0
theorem maxE_snoc {l : List Kn} {k : Nat} (h : k < l.length) : maxE (l.take (k + 1)) = max (maxE (l.take k)) l[k].ep := by
  unfold maxE; rw [take_snoc' h, List.foldl_append]; rfl
theorem maxE_go : ∀ (l : List Kn) (m : Int), m ≤ l.foldl (fun m k => max m k.ep) m ∧ ∀ k ∈ l, k.ep ≤ l.foldl (fun m k => max m k.ep) m
  | [], m => ⟨Int.le_refl _, fun k hk => by cases hk⟩
  | x :: r, m => by
    obtain ⟨h1, h2⟩ := maxE_go r (max m x.ep)
    rw [List.foldl_cons]
    refine ⟨by omega, fun k hk => ?_⟩
    rcases List.mem_cons.1 hk with rfl | hk
    · omega
    · exact h2 k hk
theorem maxE_up : ∀ (l : List Kn) (m b : Int), m ≤ b → (∀ k ∈ l, k.ep ≤ b) → l.foldl (fun m k => max m k.ep) m ≤ b
  | [], m, b, h, _ => h
  | x :: r, m, b, h, hk => by
    rw [List.foldl_cons]
    exact maxE_up r _ b (by have := hk x (by simp); omega) (fun k q => hk k (List.mem_cons_of_mem _ q))
theorem lat_max {D : List Kn} (hc : chainK none D) (nm : List UInt8) : latP D nm = latR D nm := latP_eq (chain_srt hc) (fun k hk => (chain_ver hc k hk).2) nm

set_option maxRecDepth 100000 in
set_option maxHeartbeats 1600000 in
theorem directoryChains_pf (l m : List UInt8) : PF Try.prog 6 [slT bdv 1 l, slT bdv 1 m] (.v (.bool true)) := by
  obtain ⟨D, hD⟩ : ∃ D, D = dirD l := ⟨_, rfl⟩
  have hc : chainK none D := hD ▸ dirD_chain l
  have hDl : D.length ≤ l.length := hD ▸ dirD_len l
  have hDf : epFit D := hD ▸ dirD_fit l
  have kd : ∀ (h : l.length ≤ 1048576), PC Try.prog 9 [slT bdv 1 l] (slT Kn.dv 4 D) := fun h => hD ▸ dir_pc l h
  have hD := Lib.hid hD
  obtain ⟨T, hT⟩ : ∃ T, T = maxE D := ⟨_, rfl⟩
  have hT0 : 0 ≤ T := hT ▸ (maxE_go D 0).1
  have hmx : ∀ k ∈ D, k.ep ≤ T := hT ▸ (maxE_go D 0).2
  have hTl : l.length ≤ 1048576 → T ≤ l.length := fun h => hT ▸ maxE_up D 0 _ (by omega) (fun k hk => by have := dirD_ep h k (hD.out ▸ hk); omega)
  obtain ⟨E, hE⟩ : ∃ E, E = entsD D m := ⟨_, rfl⟩
  have hEl : E.length = m.length := by rw [hE]; exact entsD_len D m
  obtain ⟨R, hR⟩ : ∃ R, R = addR D (T + 1) E := ⟨_, rfl⟩
  have hRc : chainK none R.1 := hR ▸ addR_chain hc _ E
  have hRf : l.length ≤ 1048576 → epFit R.1 := fun h => hR ▸ addR_fit (by have := hTl h; omega) hDf E
  have hoff : R.2 = false → R.1 = D := fun q => by rw [hR] at q ⊢; exact addR_off q
  have hlen : R.2 = true → R.1.length = D.length + E.length := fun q => by rw [hR] at q ⊢; rw [(addR_on q).1, fold_len]
  have hits : R.2 = true → itsK T R.1 = itsK T D := fun q => by rw [hR] at q ⊢; rw [(addR_on q).1, itsK_fold (by omega)]
  have hfd : R.2 = true → ∀ j (hj : j < E.length) (v : Int), 1 ≤ v → v ≤ E[j].ver → ∃ kk, findP R.1 E[j].nm v = (kk, true) ∧ kk.ver = v ∧ (kk.ep = T + 1 ↔ v = E[j].ver) := fun q j hj v h1 h2 => by rw [hR] at q ⊢; exact chains_find hc hmx q (List.getElem_mem hj) h1 h2
  have hev : R.2 = true → ∀ j (hj : j < E.length), 1 ≤ E[j].ver ∧ E[j].ver ≤ 1073741824 := fun q j hj => by rw [hR] at q; exact ents_ver q hj
  have a1 : ∀ (h : D.length ≤ 1048576) (h2 : E.length ≤ 1048576), PC Try.prog 15 [slT Kn.dv 4 D, .v (.int .i64 (T + 1)), slT En.dv 3 (E)] (.tp [slT Kn.dv 4 R.1, .v (.bool R.2)]) := fun h h2 => by have q := addp_pc D (T + 1) E h h2; rwa [addP_right hc, ← hR] at q
  have hR := Lib.hid hR
  have hE := Lib.hid hE
  have hT := Lib.hid hT
  refine PF.enter (fn := Try.f6) Try.func6 rfl Try.ntmps6 rfl (fun w0 => ?_)
  refine .seq ?_
  refine .region ?_
  refine .step rfl (.assign rfl rfl) ?_
  refine .nil ?_
  refine .next ?_
  refine .seq ?_
  refine .seq ?_
  refine .region ?_
  refine .step rfl (.callf rfl cf8 rfl trivial (known_pf)) ?_
  refine .step rfl (.un rfl rfl rfl) ?_
  refine .nil ?_
  refine .next ?_
  refine .cond rfl (fun h1 => absurd h1 (by decide)) (fun h1 => ?_)
  refine .skip ?_
  refine .next ?_
  refine .seq ?_
  refine .seq ?_
  by_cases h20 : 20 < l.length
  ·skip
   refine .region ?_
   refine .step rfl (.move rfl rfl) ?_
   refine .step rfl (.len rfl rfl ⟨_, _, rfl⟩ is22) ?_
   refine .step rfl (.binv (.bool true) rfl rfl rfl rfl (congrArg Value.bool (decide_eq_true (by omega)))) ?_
   refine .step rfl (.move rfl rfl) ?_
   refine .no 24 rfl rfl rfl rfl rfl rfl rfl ?_
   refine .no 24 rfl rfl rfl rfl rfl rfl rfl ?_
   refine .no 24 rfl rfl rfl rfl rfl rfl rfl ?_
   refine .step rfl (.pick rfl rfl rfl) ?_
   refine .nil ?_
   refine .next ?_
   refine .cond rfl (fun h3 => ?_) (fun h3 => absurd h3 (by decide))
   refine .seq ?_
   refine .region ?_
   refine .step rfl (.assign rfl rfl) ?_
   refine .nil ?_
   refine .next ?_
   refine .ret ?_
   exact TE.retf rfl rfl rfl trivial
  ·skip
   by_cases h8 : 6 < m.length
   ·skip
    refine .region ?_
    refine .step rfl (.move rfl rfl) ?_
    refine .step rfl (.len rfl rfl ⟨_, _, rfl⟩ is22) ?_
    refine .step rfl (.binv (.bool false) rfl rfl rfl rfl (congrArg Value.bool (decide_eq_false (by omega)))) ?_
    refine .step rfl (.move rfl rfl) ?_
    refine .go 24 rfl rfl rfl rfl (.move rfl rfl) ?_
    refine .go 24 rfl rfl rfl rfl (.len rfl rfl ⟨_, _, rfl⟩ is22) ?_
    refine .go 24 rfl rfl rfl rfl (.binv (.bool true) rfl rfl rfl rfl (congrArg Value.bool (decide_eq_true (by omega)))) ?_
    refine .step rfl (.pick rfl rfl rfl) ?_
    refine .nil ?_
    refine .next ?_
    refine .cond rfl (fun h5 => ?_) (fun h5 => absurd h5 (by decide))
    refine .seq ?_
    refine .region ?_
    refine .step rfl (.assign rfl rfl) ?_
    refine .nil ?_
    refine .next ?_
    refine .ret ?_
    exact TE.retf rfl rfl rfl trivial
   ·skip
    have hTb := hTl (by omega)
    refine .region ?_
    refine .step rfl (.move rfl rfl) ?_
    refine .step rfl (.len rfl rfl ⟨_, _, rfl⟩ is22) ?_
    refine .step rfl (.binv (.bool false) rfl rfl rfl rfl (congrArg Value.bool (decide_eq_false (by omega)))) ?_
    refine .step rfl (.move rfl rfl) ?_
    refine .go 24 rfl rfl rfl rfl (.move rfl rfl) ?_
    refine .go 24 rfl rfl rfl rfl (.len rfl rfl ⟨_, _, rfl⟩ is22) ?_
    refine .go 24 rfl rfl rfl rfl (.binv (.bool false) rfl rfl rfl rfl (congrArg Value.bool (decide_eq_false (by omega)))) ?_
    refine .step rfl (.pick rfl rfl rfl) ?_
    refine .nil ?_
    refine .next ?_
    refine .cond rfl (fun h6 => absurd h6 (by decide)) (fun h6 => ?_)
    refine .skip ?_
    refine .next ?_
    refine .seq ?_
    refine .region ?_
    refine .step rfl (.move rfl rfl) ?_
    refine .step rfl (.callc rfl cf9 rfl (kd (by omega))) ?_
    refine .step rfl (.assign rfl rfl) ?_
    refine .nil ?_
    refine .next ?_
    refine .seq ?_
    refine .region ?_
    refine .step rfl (.assign rfl rfl) ?_
    refine .nil ?_
    refine .next ?_
    refine .seq ?_
    refine .seq ?_
    refine .region ?_
    refine .step rfl (.assign rfl rfl) ?_
    refine .nil ?_
    refine TE.setv 6 (.int .i64 (maxE (D.take 0))) rfl (congrArg _ (rfl)) ?_
    refine TE.setv 7 (.int .i64 ((0 : Nat) : Int)) rfl (congrArg _ (by first | rfl | (dsimp only; first | done | rfl | omega))) ?_
    refine .next ?_
    refine .block ?_
    refine TC.loop (S := Nat) (fun i => i ≤ D.length) (fun i => D.length - i) (fun i => [(0, .d (slT bdv 1 l)), (1, .d (slT bdv 1 m)), (5, .d (slT Kn.dv 4 D)), (6, .d (.v (.int .i64 (maxE (D.take i))))), (7, .d (.v (.int .i64 ((i : Nat) : Int))))]) (fun i => []) (0) (Nat.zero_le _) ⟨⟨rfl, rfl⟩, ⟨rfl, rfl⟩, ⟨rfl, rfl⟩, ⟨rfl, rfl⟩, ⟨rfl, rfl⟩, trivial⟩ trivial (fun i hI => ?_)
    refine .seq ?_
    refine .seq ?_
    refine .region ?_
    refine .step rfl (.move rfl rfl) ?_
    refine .step rfl (.move rfl rfl) ?_
    refine .step rfl (.len rfl rfl ⟨_, _, rfl⟩ is24) ?_
    refine .step rfl (.bin rfl rfl rfl rfl) ?_
    refine .nil ?_
    refine .next ?_
    refine .cond rfl (fun h7 => ?_) (fun h7 => ?_)
    ·skip
     have hi : i < D.length := by have q := of_decide_eq_true h7; (try dsimp only at q); omega
     refine .skip ?_
     refine .next ?_
     refine .seq ?_
     refine .block ?_
     refine .region ?_
     refine .step rfl (.move rfl rfl) ?_
     refine .step rfl (.move rfl rfl) ?_
     refine .step rfl (.move rfl rfl) ?_
     refine .step rfl (.idx (D[i]) rfl rfl rfl rfl et24 (fun _ => rfl) (Int.natCast_nonneg _) (get_nat hi)) ?_
     refine .step rfl (.fielde rfl rfl rfl fo32_1) ?_
     refine .step rfl (.lde rfl rfl rfl rfl tk3) ?_
     refine .step rfl (.max2 rfl rfl rfl) ?_
     refine .step rfl (.assign rfl rfl) ?_
     refine .nil ?_
     refine TE.blk ?_
     refine .next ?_
     refine .region ?_
     refine .step rfl (.move rfl rfl) ?_
     refine .step rfl (.binv (.int .i64 ((i + 1 : Nat) : Int)) rfl rfl rfl rfl (congrArg _ (by (try dsimp only); rw [IntKind.wrap_i64]; omega))) ?_
     refine .step rfl (.assign rfl rfl) ?_
     refine .nil ?_
     refine TE.setv 6 (.int .i64 (maxE (D.take (i + 1)))) rfl (congrArg _ ((maxE_snoc hi).symm)) ?_
     refine TE.setv 7 (.int .i64 ((i + 1 : Nat) : Int)) rfl (congrArg _ (by first | rfl | (dsimp only; first | done | rfl | omega))) ?_
     exact TE.round id (fun _ _ e => e) (i + 1) (by omega) (by omega) ⟨⟨rfl, rfl⟩, ⟨rfl, rfl⟩, ⟨rfl, rfl⟩, ⟨rfl, rfl⟩, ⟨rfl, rfl⟩, trivial⟩ trivial
    ·skip
     have hi : ¬ (i < D.length) := by have q := of_decide_eq_false h7; (try dsimp only at q); omega
     refine .exit ?_
     refine TE.pass ?_
     refine TE.pass ?_
     refine TE.here ?_
     refine .next ?_
     refine .seq ?_
     refine TC.setv 6 (.int .i64 T) rfl (congrArg _ (by rw [hT.out, List.take_of_length_le (by omega)])) ?_
     refine .region ?_
     refine .step rfl (.move rfl rfl) ?_
     refine .step rfl (.move rfl rfl) ?_
     refine .step rfl (.callc rfl cf10 rfl (items_pc D T (by omega) (kn_in hc))) ?_
     refine .step rfl (.assign rfl rfl) ?_
     refine .nil ?_
     refine .next ?_
     refine .seq ?_
     refine .region ?_
     refine .step rfl (.assign rfl rfl) ?_
     refine .nil ?_
     refine TE.own0 9 1 30 3 rfl rfl ?_
     refine .next ?_
     refine .seq ?_
     refine .seq ?_
     refine .region ?_
     refine .step rfl (.assign rfl rfl) ?_
     refine .nil ?_
     refine TE.setv 10 (.int .i64 ((0 : Nat) : Int)) rfl (congrArg _ (by first | rfl | (dsimp only; first | done | rfl | omega))) ?_
     refine TE.set 9 (.ow 1 (entsD D (m.take 0)).length 3) rfl rfl ?_
     refine TE.obj 1 (.row 30 3 ((entsD D (m.take 0)).flatMap En.dv)) rfl rfl ?_
     refine .next ?_
     refine .block ?_
     refine TC.loop (S := Nat) (fun i => i ≤ m.length) (fun i => m.length - i) (fun i => [(0, .d (slT bdv 1 l)), (1, .d (slT bdv 1 m)), (5, .d (slT Kn.dv 4 D)), (6, .d (.v (.int .i64 T))), (8, .d (slT It.dv 64 (setA [] (itsK T D)))), (9, .ow 1 (entsD D (m.take (i))).length 3), (10, .d (.v (.int .i64 ((i : Nat) : Int))))]) (fun i => [(1, .row 30 3 ((entsD D (m.take (i))).flatMap En.dv))]) (0) (Nat.zero_le _) ⟨⟨rfl, rfl⟩, ⟨rfl, rfl⟩, ⟨rfl, rfl⟩, ⟨rfl, rfl⟩, ⟨rfl, rfl⟩, ⟨rfl, rfl⟩, ⟨rfl, rfl⟩, trivial⟩ ⟨.inr rfl, trivial⟩ (fun i hI => ?_)
     refine .seq ?_
     refine .seq ?_
     refine .region ?_
     refine .step rfl (.move rfl rfl) ?_
     refine .step rfl (.move rfl rfl) ?_
     refine .step rfl (.len rfl rfl ⟨_, _, rfl⟩ is22) ?_
     refine .step rfl (.bin rfl rfl rfl rfl) ?_
     refine .nil ?_
     refine .next ?_
     refine .cond rfl (fun h8 => ?_) (fun h8 => ?_)
     ·skip
      have hi : i < m.length := by have q := of_decide_eq_true h8; (try dsimp only at q); omega
      refine .skip ?_
      refine .next ?_
      refine .seq ?_
      refine .block ?_
      refine .seq ?_
      have c0 : PF Try.prog 21 [slT Kn.dv 4 D, .v (strV (nameL ((m[i].toNat : Nat) : Int)))] (.tp [.ag (latR D (nameL ((m[i].toNat : Nat) : Int))).1.dv, .v (.bool (latR D (nameL ((m[i].toNat : Nat) : Int))).2)]) := by have q := latest_any D (nameL ((m[i].toNat : Nat) : Int)) (by omega); rwa [lat_max hc] at q
      refine .region ?_
      refine .step rfl (.move rfl rfl) ?_
      refine .step rfl (.move rfl rfl) ?_
      refine .step rfl (.move rfl rfl) ?_
      refine .step rfl (.idx (m[i]) rfl rfl rfl rfl et22 (fun _ => rfl) (Int.natCast_nonneg i) (get_nat hi)) ?_
      refine .step rfl (.lde rfl rfl rfl rfl tk5) ?_
      refine .step rfl (.callf rfl cf13 rfl ⟨trivial, trivial⟩ (name_pf m[i])) ?_
      refine .step rfl (.callf rfl cf21 rfl ⟨trivial, trivial, trivial⟩ (c0)) ?_
      refine .step rfl (.move rfl rfl) ?_
      refine .step rfl (.extract rfl rfl rfl rfl) ?_
      refine .step rfl (.extract rfl rfl rfl rfl) ?_
      refine .step rfl (.alloc 2 rfl rfl zc32 rfl) ?_
      refine .step rfl (.store rfl rfl rfl sz32 rfl rfl) ?_
      refine .step rfl (.assign rfl rfl) ?_
      refine .nil ?_
      refine .next ?_
      refine .draw mixed [Ro.mk _ (Eff.mk (some (63, _)) []) [], Ro.mk _ (Eff.mk (some (64, _)) []) [], Ro.mk _ (Eff.mk (some (65, _)) []) [], Ro.mk _ (Eff.mk (some (66, _)) []) [], Ro.mk _ (Eff.mk (some (67, _)) []) [], Ro.mk _ (Eff.mk (some (68, _)) []) [2], Ro.mk _ (Eff.mk (some (69, _)) []) [2], Ro.mk _ (Eff.mk (some (70, _)) []) [2], Ro.mk _ (Eff.mk (some (71, _)) []) [], Ro.mk _ (Eff.mk (some (72, _)) []) [], Ro.mk _ (Eff.mk (some (73, _)) [(3, _)]) [3], Ro.mk _ (Eff.mk (some (74, _)) [(1, .dead), (4, _)]) [1, 3, 4], Ro.mk _ (Eff.mk (some (9, _)) []) []] rfl ⟨(fun _ _ => .move rfl rfl), (fun _ _ => .move rfl rfl), (fun _ _ => .move rfl rfl), (fun _ _ => .idx (m[i]) rfl rfl rfl rfl et22 (fun _ => rfl) (Int.natCast_nonneg i) (get_nat hi)), (fun _ _ => .lde rfl rfl rfl rfl tk5), (fun _ _ => .fieldp rfl rfl rfl rfl fo32_0), (fun _ _ => .fieldp rfl rfl rfl rfl fo30_1), (fun _ _ => .ldp rfl rfl rfl rfl rfl tk3), (fun _ _ => .bin rfl rfl rfl rfl), (fun _ _ => .callf rfl cf14 rfl ⟨trivial, trivial, trivial⟩ (entry_pf m[i] (i64w ((latR D (nameL ((m[i].toNat : Nat) : Int))).1.ver + 1)))), (fun _ _ => .buildsl (ds := (pendE D m[i]).dv) 3 rfl rfl rfl ap39 zc30 rfl rfl rfl), (fun _ _ => .append 4 rfl rfl rfl (flat_length (sz := 3) (enc := En.dv) (fun _ => rfl) _) rfl ap39 rfl rfl (okA_len rfl rfl) rfl (by have := entsD_len D (m.take i); rw [List.length_take] at this; omega) (by have := entsD_len D (m.take i); rw [List.length_take] at this; omega)), (fun _ _ => .assign rfl rfl), trivial⟩ (by kernel_rfl) ?_
      refine TE.blk ?_
      refine .next ?_
      refine .region ?_
      refine .step rfl (.move rfl rfl) ?_
      refine .step rfl (.binv (.int .i64 ((i + 1 : Nat) : Int)) rfl rfl rfl rfl (congrArg _ (by (try dsimp only); rw [IntKind.wrap_i64]; omega))) ?_
      refine .step rfl (.assign rfl rfl) ?_
      refine .nil ?_
      refine TE.set 9 (.ow 4 (entsD D (m.take (i + 1))).length 3) rfl (by rw [entsD_snoc hi] <;> simp) ?_
      refine TE.obj 4 (.row 30 3 ((entsD D (m.take (i + 1))).flatMap En.dv)) rfl (by rw [entsD_snoc hi] <;> simp [List.flatMap_append]) ?_
      refine TE.setv 10 (.int .i64 ((i + 1 : Nat) : Int)) rfl (congrArg _ (by first | rfl | (dsimp only; first | done | rfl | omega))) ?_
      exact TE.round (swp 1 4) (swp_inj 1 4) (i + 1) (by omega) (by omega) ⟨⟨rfl, rfl⟩, ⟨rfl, rfl⟩, ⟨rfl, rfl⟩, ⟨rfl, rfl⟩, ⟨rfl, rfl⟩, ⟨rfl, rfl⟩, ⟨rfl, rfl⟩, trivial⟩ ⟨.inr rfl, trivial⟩
     ·skip
      have hi : ¬ (i < m.length) := by have q := of_decide_eq_false h8; (try dsimp only at q); omega
      have e : E = entsD D (m.take i) := by rw [hE.out, List.take_of_length_le (by omega)]
      refine .exit ?_
      refine TE.pass ?_
      refine TE.pass ?_
      refine TE.here ?_
      refine .next ?_
      refine .seq ?_
      refine TC.frz 9 (slT En.dv 3 (E)) rfl rfl (flat_length (sz := 3) (enc := En.dv) (fun _ => rfl) _) (by rw [e]) ?_
      refine .region ?_
      refine .step rfl (.move rfl rfl) ?_
      refine .step rfl (.move rfl rfl) ?_
      refine .step rfl (.binv (.int .i64 (T + 1)) rfl rfl rfl rfl (congrArg _ (by rw [IntKind.wrap_i64]; omega))) ?_
      refine .step rfl (.move rfl rfl) ?_
      refine .step rfl (.callc rfl cf15 rfl (a1 (by omega) (by omega))) ?_
      refine .step rfl (.move rfl rfl) ?_
      refine .step rfl (.extract rfl rfl rfl rfl) ?_
      refine .step rfl (.extract rfl rfl rfl rfl) ?_
      refine .step rfl (.assign rfl rfl) ?_
      refine .step rfl (.assign rfl rfl) ?_
      refine .nil ?_
      refine .next ?_
      refine .seq ?_
      refine .seq ?_
      refine .region ?_
      refine .step rfl (.move rfl rfl) ?_
      refine .step rfl (.un rfl rfl rfl) ?_
      refine .nil ?_
      refine .next ?_
      refine .cond rfl (fun h9 => ?_) (fun h9 => ?_)
      ·skip
       have hoff := hoff (by simpa using h9)
       have c2 : PF Try.prog 16 [slT Kn.dv 4 D, slT Kn.dv 4 R.1] (.v (.bool true)) := by rw [hoff]; exact samek_pf D (by omega) (kn_fit hc hDf)
       refine .seq ?_
       refine .region ?_
       refine .step rfl (.move rfl rfl) ?_
       refine .step rfl (.move rfl rfl) ?_
       refine .step rfl (.callf rfl cf16 rfl ⟨trivial, trivial, trivial⟩ (c2)) ?_
       refine .step rfl (.assign rfl rfl) ?_
       refine .nil ?_
       refine .next ?_
       refine .ret ?_
       exact TE.retf rfl rfl rfl trivial
      ·skip
       have hon : R.2 = true := by simpa using h9
       have hlen := hlen hon
       have c3 : PC Try.prog 10 [slT Kn.dv 4 R.1, .v (.int .i64 T)] (slT It.dv 64 (setA [] (itsK T D))) := by have q := items_pc R.1 T (by omega) (kn_in hRc); rwa [hits hon] at q
       refine .skip ?_
       refine .next ?_
       refine .seq ?_
       refine .seq ?_
       refine .region ?_
       refine .step rfl (.move rfl rfl) ?_
       refine .step rfl (.len rfl rfl ⟨_, _, rfl⟩ is24) ?_
       refine .step rfl (.move rfl rfl) ?_
       refine .step rfl (.len rfl rfl ⟨_, _, rfl⟩ is24) ?_
       refine .step rfl (.move rfl rfl) ?_
       refine .step rfl (.len rfl rfl ⟨_, _, rfl⟩ is39) ?_
       refine .step rfl (.binv (.int .i64 ((D.length + E.length : Nat) : Int)) rfl rfl rfl rfl (congrArg _ (by (try dsimp only); rw [IntKind.wrap_i64]; omega))) ?_
       refine .step rfl (.binv (.bool false) rfl rfl rfl rfl (congrArg (fun x => Value.bool (!x)) (decide_eq_true (by rw [hlen])))) ?_
       refine .step rfl (.move rfl rfl) ?_
       refine .go 96 rfl rfl rfl rfl (.move rfl rfl) ?_
       refine .go 96 rfl rfl rfl rfl (.move rfl rfl) ?_
       refine .go 96 rfl rfl rfl rfl (.callc rfl cf10 rfl (c3)) ?_
       refine .go 96 rfl rfl rfl rfl (.move rfl rfl) ?_
       refine .go 96 rfl rfl rfl rfl (.callf rfl cf17 rfl ⟨trivial, trivial, trivial⟩ (samei_pf _ (Nat.le_trans (items_len D T) (by omega)))) ?_
       refine .go 96 rfl rfl rfl rfl (.un rfl rfl rfl) ?_
       refine .step rfl (.pick rfl rfl rfl) ?_
       refine .nil ?_
       refine .next ?_
       refine .cond rfl (fun h10 => absurd h10 (by decide)) (fun h10 => ?_)
       refine .skip ?_
       refine .next ?_
       refine .seq ?_
       refine .seq ?_
       refine .region ?_
       refine .step rfl (.assign rfl rfl) ?_
       refine .nil ?_
       refine TE.setv 15 (.int .i64 ((0 : Nat) : Int)) rfl (congrArg _ (by first | rfl | (dsimp only; first | done | rfl | omega))) ?_
       refine .next ?_
       refine .block ?_
       refine TC.loop (S := Nat) (fun j => j ≤ E.length) (fun j => E.length - j) (fun j => [(0, .d (slT bdv 1 l)), (1, .d (slT bdv 1 m)), (6, .d (.v (.int .i64 T))), (9, .d (slT En.dv 3 (E))), (13, .d (slT Kn.dv 4 R.1)), (15, .d (.v (.int .i64 ((j : Nat) : Int))))]) (fun j => [(1, .dead)]) (0) (Nat.zero_le _) ⟨⟨rfl, rfl⟩, ⟨rfl, rfl⟩, ⟨rfl, rfl⟩, ⟨rfl, rfl⟩, ⟨rfl, rfl⟩, ⟨rfl, rfl⟩, trivial⟩ ⟨.inl rfl, trivial⟩ (fun j hI => ?_)
       refine .seq ?_
       refine .seq ?_
       refine .region ?_
       refine .step rfl (.move rfl rfl) ?_
       refine .step rfl (.move rfl rfl) ?_
       refine .step rfl (.len rfl rfl ⟨_, _, rfl⟩ is39) ?_
       refine .step rfl (.bin rfl rfl rfl rfl) ?_
       refine .nil ?_
       refine .next ?_
       refine .cond rfl (fun h11 => ?_) (fun h11 => ?_)
       ·skip
        have hj : j < E.length := by have q := of_decide_eq_true h11; (try dsimp only at q); omega
        have hev := hev hon j hj
        refine .skip ?_
        refine .next ?_
        refine .seq ?_
        refine .block ?_
        refine .seq ?_
        refine .region ?_
        refine .step rfl (.assign rfl rfl) ?_
        refine .nil ?_
        refine TE.setv 16 (.int .i64 ((0 + 1 : Nat) : Int)) rfl (congrArg _ (by first | rfl | (dsimp only; first | done | rfl | omega))) ?_
        refine .next ?_
        refine .block ?_
        refine TC.loop (S := Nat) (fun v => (v : Int) ≤ E[j].ver) (fun v => E[j].ver.toNat - v) (fun v => [(0, .d (slT bdv 1 l)), (1, .d (slT bdv 1 m)), (6, .d (.v (.int .i64 T))), (9, .d (slT En.dv 3 (E))), (13, .d (slT Kn.dv 4 R.1)), (15, .d (.v (.int .i64 ((j : Nat) : Int)))), (16, .d (.v (.int .i64 ((v + 1 : Nat) : Int))))]) (fun v => [(1, .dead)]) (0) (by omega) ⟨⟨rfl, rfl⟩, ⟨rfl, rfl⟩, ⟨rfl, rfl⟩, ⟨rfl, rfl⟩, ⟨rfl, rfl⟩, ⟨rfl, rfl⟩, ⟨rfl, rfl⟩, trivial⟩ ⟨.inl rfl, trivial⟩ (fun v hI => ?_)
        refine .seq ?_
        refine .seq ?_
        refine .region ?_
        refine .step rfl (.move rfl rfl) ?_
        refine .step rfl (.move rfl rfl) ?_
        refine .step rfl (.move rfl rfl) ?_
        refine .step rfl (.idx (E[j]) rfl rfl rfl rfl et39 (fun _ => rfl) (Int.natCast_nonneg _) (get_nat hj)) ?_
        refine .step rfl (.fielde rfl rfl rfl fo30_1) ?_
        refine .step rfl (.lde rfl rfl rfl rfl tk3) ?_
        refine .step rfl (.bin rfl rfl rfl rfl) ?_
        refine .nil ?_
        refine .next ?_
        refine .cond rfl (fun h12 => ?_) (fun h12 => ?_)
        ·skip
         have hv : ((v + 1 : Nat) : Int) ≤ E[j].ver := by have q := of_decide_eq_true h12; (try dsimp only at q); omega
         obtain ⟨kk, f1, f2, f3⟩ := hfd hon j hj ((v + 1 : Nat) : Int) (by omega) hv
         have c4 : PF Try.prog 22 [slT Kn.dv 4 R.1, .v (strV E[j].nm), .v (.int .i64 ((v + 1 : Nat) : Int))] (.tp [.ag kk.dv, .v (.bool true)]) := by have q := find_any R.1 E[j].nm ((v + 1 : Nat) : Int) (by omega); rwa [f1] at q
         refine .skip ?_
         refine .next ?_
         refine .seq ?_
         refine .block ?_
         refine .seq ?_
         refine .region ?_
         refine .step rfl (.move rfl rfl) ?_
         refine .step rfl (.move rfl rfl) ?_
         refine .step rfl (.move rfl rfl) ?_
         refine .step rfl (.idx (E[j]) rfl rfl rfl rfl et39 (fun _ => rfl) (Int.natCast_nonneg _) (get_nat hj)) ?_
         refine .step rfl (.fielde rfl rfl rfl fo30_0) ?_
         refine .step rfl (.lde rfl rfl rfl rfl tk9) ?_
         refine .step rfl (.move rfl rfl) ?_
         refine .step rfl (.callf rfl cf22 rfl ⟨trivial, trivial, trivial, trivial⟩ (c4)) ?_
         refine .step rfl (.move rfl rfl) ?_
         refine .step rfl (.extract rfl rfl rfl rfl) ?_
         refine .step rfl (.extract rfl rfl rfl rfl) ?_
         refine .step rfl (.alloc 5 rfl rfl zc32 rfl) ?_
         refine .step rfl (.store rfl rfl rfl sz32 rfl rfl) ?_
         refine .step rfl (.assign rfl rfl) ?_
         refine .nil ?_
         refine .next ?_
         refine .seq ?_
         refine .draw mixed [Ro.mk _ (Eff.mk (some (130, _)) []) [], Ro.mk _ (Eff.mk (some (131, _)) []) [], Ro.mk _ (Eff.mk (some (132, _)) []) [], Ro.mk _ (Eff.mk (some (133, _)) []) [5], Ro.mk _ (Eff.mk (some (134, _)) []) [5], Ro.mk _ (Eff.mk (some (135, _)) []) [5], Ro.mk _ (Eff.mk (some (136, _)) []) [], Ro.mk _ (Eff.mk (some (137, _)) []) [], Ro.mk _ (Eff.mk (some (138, _)) []) [], Ro.mk _ (Eff.mk (some (139, _)) []) [], Ro.mk _ (Eff.mk (some (140, _)) []) [5], Ro.mk _ (Eff.mk (some (141, _)) []) [5], Ro.mk _ (Eff.mk (some (142, _)) []) [], Ro.mk _ (Eff.mk (some (143, _)) []) [], Ro.mk _ (Eff.mk (some (144, _)) []) [], Ro.mk _ (Eff.mk (some (145, _)) []) [], Ro.mk _ (Eff.mk (some (146, _)) []) [], Ro.mk _ (Eff.mk (some (147, _)) []) [], Ro.mk _ (Eff.mk (some (148, _)) []) [], Ro.mk _ (Eff.mk (some (149, _)) []) [], Ro.mk _ (Eff.mk (some (150, _)) []) [], Ro.mk _ (Eff.mk (some (151, _)) []) [], Ro.mk _ (Eff.mk (some (152, _)) []) [], Ro.mk _ (Eff.mk (some (153, _)) []) []] rfl ⟨(fun _ _ => .move rfl rfl), (fun _ _ => .un rfl rfl rfl), (fun _ _ => .move rfl rfl), (.inr ⟨132, _, rfl, rfl, rfl, rfl, fun _ _ => .fieldp rfl rfl rfl rfl fo32_0⟩), (.inr ⟨132, _, rfl, rfl, rfl, rfl, fun _ _ => .fieldp rfl rfl rfl rfl fo30_1⟩), (.inr ⟨132, _, rfl, rfl, rfl, rfl, fun _ _ => .ldp rfl rfl rfl rfl rfl tk3⟩), (.inr ⟨132, _, rfl, rfl, rfl, rfl, fun _ _ => .move rfl rfl⟩), (.inr ⟨132, _, rfl, rfl, rfl, rfl, fun _ _ => .binv (.bool false) rfl rfl rfl rfl (congrArg (fun x => Value.bool (!x)) (decide_eq_true f2))⟩), (fun _ _ => .pick rfl rfl rfl), (fun _ _ => .move rfl rfl), (.inr ⟨139, _, rfl, rfl, rfl, rfl, fun _ _ => .fieldp rfl rfl rfl rfl fo32_1⟩), (.inr ⟨139, _, rfl, rfl, rfl, rfl, fun _ _ => .ldp rfl rfl rfl rfl rfl tk3⟩), (.inr ⟨139, _, rfl, rfl, rfl, rfl, fun _ _ => .move rfl rfl⟩), (.inr ⟨139, _, rfl, rfl, rfl, rfl, fun _ _ => .binv (.int .i64 (T + 1)) rfl rfl rfl rfl (congrArg _ (by rw [IntKind.wrap_i64]; omega))⟩), (.inr ⟨139, _, rfl, rfl, rfl, rfl, fun _ _ => .bin rfl rfl rfl rfl⟩), (.inr ⟨139, _, rfl, rfl, rfl, rfl, fun _ _ => .move rfl rfl⟩), (.inr ⟨139, _, rfl, rfl, rfl, rfl, fun _ _ => .move rfl rfl⟩), (.inr ⟨139, _, rfl, rfl, rfl, rfl, fun _ _ => .move rfl rfl⟩), (.inr ⟨139, _, rfl, rfl, rfl, rfl, fun _ _ => .idx (E[j]) rfl rfl rfl rfl et39 (fun _ => rfl) (Int.natCast_nonneg _) (get_nat hj)⟩), (.inr ⟨139, _, rfl, rfl, rfl, rfl, fun _ _ => .fielde rfl rfl rfl fo30_1⟩), (.inr ⟨139, _, rfl, rfl, rfl, rfl, fun _ _ => .lde rfl rfl rfl rfl tk3⟩), (.inr ⟨139, _, rfl, rfl, rfl, rfl, fun _ _ => .bin rfl rfl rfl rfl⟩), (.inr ⟨139, _, rfl, rfl, rfl, rfl, fun _ _ => .neb false rfl rfl rfl ub4 (neb_iff f3)⟩), (fun _ _ => .pick rfl rfl rfl), trivial⟩ (by kernel_rfl) ?_
         refine .next ?_
         refine .cond rfl (fun h13 => absurd h13 (by decide)) (fun h13 => ?_)
         refine .skip ?_
         refine TE.blk ?_
         refine .next ?_
         refine .region ?_
         refine .step rfl (.move rfl rfl) ?_
         refine .step rfl (.binv (.int .i64 ((v + 1 + 1 : Nat) : Int)) rfl rfl rfl rfl (congrArg _ (by (try dsimp only); rw [IntKind.wrap_i64]; omega))) ?_
         refine .step rfl (.assign rfl rfl) ?_
         refine .nil ?_
         refine TE.setv 16 (.int .i64 ((v + 1 + 1 : Nat) : Int)) rfl (congrArg _ (by first | rfl | (dsimp only; first | done | rfl | omega))) ?_
         exact TE.round id (fun _ _ e => e) (v + 1) (by omega) (by omega) ⟨⟨rfl, rfl⟩, ⟨rfl, rfl⟩, ⟨rfl, rfl⟩, ⟨rfl, rfl⟩, ⟨rfl, rfl⟩, ⟨rfl, rfl⟩, ⟨rfl, rfl⟩, trivial⟩ ⟨.inl rfl, trivial⟩
        ·skip
         have hv : ¬ (((v + 1 : Nat) : Int) ≤ E[j].ver) := by have q := of_decide_eq_false h12; (try dsimp only at q); omega
         refine .exit ?_
         refine TE.pass ?_
         refine TE.pass ?_
         refine TE.here ?_
         refine TE.blk ?_
         refine .next ?_
         refine .region ?_
         refine .step rfl (.move rfl rfl) ?_
         refine .step rfl (.binv (.int .i64 ((j + 1 : Nat) : Int)) rfl rfl rfl rfl (congrArg _ (by (try dsimp only); rw [IntKind.wrap_i64]; omega))) ?_
         refine .step rfl (.assign rfl rfl) ?_
         refine .nil ?_
         refine TE.setv 15 (.int .i64 ((j + 1 : Nat) : Int)) rfl (congrArg _ (by first | rfl | (dsimp only; first | done | rfl | omega))) ?_
         exact TE.round id (fun _ _ e => e) (j + 1) (by omega) (by omega) ⟨⟨rfl, rfl⟩, ⟨rfl, rfl⟩, ⟨rfl, rfl⟩, ⟨rfl, rfl⟩, ⟨rfl, rfl⟩, ⟨rfl, rfl⟩, trivial⟩ ⟨.inl rfl, trivial⟩
       ·skip
        have hj : ¬ (j < E.length) := by have q := of_decide_eq_false h11; (try dsimp only at q); omega
        refine .exit ?_
        refine TE.pass ?_
        refine TE.pass ?_
        refine TE.here ?_
        refine .next ?_
        refine .seq ?_
        refine .region ?_
        refine .step rfl (.assign rfl rfl) ?_
        refine .nil ?_
        refine .next ?_
        refine .ret ?_
        exact TE.retf rfl rfl rfl trivial

end Go.Proofs.Ythidepbffhhkmaa
