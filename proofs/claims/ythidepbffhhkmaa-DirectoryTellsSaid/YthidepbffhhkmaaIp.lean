/-
  DirectoryFinds.
-/
import Derived.Test.YthidepbffhhkmaaIo
namespace Go.Proofs.Ythidepbffhhkmaa
set_option linter.unusedVariables false
set_option linter.unusedSimpArgs false
open Go.RowKit Pl

theorem cf22 : cfn Try.prog 22 = true := by kernel_rfl

theorem find_at {D : List Kn} (hc : chainK none D) {i : Nat} (hi : i < D.length) : findP D D[i].nm D[i].ver = (D[i], true) := by
  have hs := chain_srt hc
  rw [findP_eq hs]
  exact findR_at hi (fun j hj hji q => by
    have := hs.get hji hi
    unfold ltK at this
    rw [q.1, q.2] at this
    exact ltN_irrefl this) ⟨rfl, rfl⟩
theorem lat_at {D : List Kn} (hc : chainK none D) {i : Nat} (hi : i < D.length) : latP D D[i].nm = ((latR D D[i].nm).1, true) := by
  rw [latP_eq (chain_srt hc) (fun k hk => (chain_ver hc k hk).2)]
  obtain ⟨j, hj, e, _⟩ := latR_some hi rfl
  rw [e]
theorem find_zero {D : List Kn} (hc : chainK none D) (nm : List UInt8) : findP D nm 0 = (zeroK, false) := by
  rw [findP_eq (chain_srt hc)]
  exact findR_none (fun j hj q => by have := chain_ver hc _ (List.getElem_mem hj); omega)
theorem find_next {D : List Kn} (hc : chainK none D) (nm : List UInt8) : findP D nm ((latR D nm).1.ver + 1) = (zeroK, false) := by
  rw [findP_eq (chain_srt hc)]
  exact findR_none (fun j hj q => by have := latR_le (List.getElem_mem hj) q.1; omega)
theorem lat_any {D : List Kn} (hc : chainK none D) (s : List UInt8) : (latP D s).2 = D.any (fun d => decide (d.nm = s)) := by
  rw [latP_eq (chain_srt hc) (fun k hk => (chain_ver hc k hk).2)]
  cases h : D.any (fun d => decide (d.nm = s)) with
  | true =>
    rw [List.any_eq_true] at h
    obtain ⟨k, hk, q⟩ := h
    obtain ⟨j, hj, rfl⟩ := List.getElem_of_mem hk
    obtain ⟨i, hi, e, _⟩ := latR_some hj (of_decide_eq_true q)
    rw [e]
  | false =>
    rw [latR_no (fun k hk q => by rw [List.any_eq_false] at h; exact h k hk (by simpa using q))]
theorem anyK_snoc {p : List Kn} {k : Nat} (h : k < p.length) (nm : List UInt8) : (p.take (k + 1)).any (fun d => decide (d.nm = nm)) = ((p.take k).any (fun d => decide (d.nm = nm)) || decide (p[k].nm = nm)) := by
  rw [take_snoc' h, List.any_append]; simp

set_option maxRecDepth 100000 in
set_option maxHeartbeats 1600000 in
theorem directoryFinds_pf (l : List UInt8) (s : List UInt8) (hs : s.length ≤ maxLen) : PF Try.prog 7 [slT bdv 1 l, .v (.string ⟨⟨s⟩⟩)] (.v (.bool true)) := by
  obtain ⟨D, hD⟩ : ∃ D, D = dirD l := ⟨_, rfl⟩
  have hc : chainK none D := hD ▸ dirD_chain l
  have hDl : D.length ≤ l.length := hD ▸ dirD_len l
  have hDf : epFit D := hD ▸ dirD_fit l
  have kd : ∀ (h : l.length ≤ 1048576), PC Try.prog 9 [slT bdv 1 l] (slT Kn.dv 4 D) := fun h => hD ▸ dir_pc l h
  have hD := Lib.hid hD
  refine PF.enter (fn := Try.f7) Try.func7 rfl Try.ntmps7 rfl (fun w0 => ?_)
  refine .seq ?_
  refine .region ?_
  refine .step rfl (.assign rfl rfl) ?_
  refine .nil ?_
  refine .next ?_
  refine .seq ?_
  refine .seq ?_
  refine .region ?_
  refine .step rfl (.callf rfl cf8 rfl trivial (known_pf)) ?_
  refine .step rfl (.un rfl rfl rfl) ?_
  refine .nil ?_
  refine .next ?_
  refine .cond rfl (fun h1 => absurd h1 (by decide)) (fun h1 => ?_)
  refine .skip ?_
  refine .next ?_
  refine .seq ?_
  refine .seq ?_
  by_cases h20 : 20 < l.length
  ·skip
   refine .region ?_
   refine .step rfl (.move rfl rfl) ?_
   refine .step rfl (.len rfl rfl ⟨_, _, rfl⟩ is22) ?_
   refine .step rfl (.binv (.bool true) rfl rfl rfl rfl (congrArg Value.bool (decide_eq_true (by omega)))) ?_
   refine .step rfl (.move rfl rfl) ?_
   refine .no 25 rfl rfl rfl rfl rfl rfl rfl ?_
   refine .no 25 rfl rfl rfl rfl rfl rfl rfl ?_
   refine .no 25 rfl rfl rfl rfl rfl rfl rfl ?_
   refine .step rfl (.pick rfl rfl rfl) ?_
   refine .nil ?_
   refine .next ?_
   refine .cond rfl (fun h3 => ?_) (fun h3 => absurd h3 (by decide))
   refine .seq ?_
   refine .region ?_
   refine .step rfl (.assign rfl rfl) ?_
   refine .nil ?_
   refine .next ?_
   refine .ret ?_
   exact TE.retf rfl rfl rfl trivial
  ·skip
   by_cases h40 : 40 < s.length
   ·skip
    refine .region ?_
    refine .step rfl (.move rfl rfl) ?_
    refine .step rfl (.len rfl rfl ⟨_, _, rfl⟩ is22) ?_
    refine .step rfl (.binv (.bool false) rfl rfl rfl rfl (congrArg Value.bool (decide_eq_false (by omega)))) ?_
    refine .step rfl (.move rfl rfl) ?_
    refine .go 25 rfl rfl rfl rfl (.move rfl rfl) ?_
    refine .go 25 rfl rfl rfl rfl (.lens rfl rfl is9) ?_
    refine .go 25 rfl rfl rfl rfl (.binv (.bool true) rfl rfl rfl rfl (congrArg Value.bool (decide_eq_true (by omega)))) ?_
    refine .step rfl (.pick rfl rfl rfl) ?_
    refine .nil ?_
    refine .next ?_
    refine .cond rfl (fun h5 => ?_) (fun h5 => absurd h5 (by decide))
    refine .seq ?_
    refine .region ?_
    refine .step rfl (.assign rfl rfl) ?_
    refine .nil ?_
    refine .next ?_
    refine .ret ?_
    exact TE.retf rfl rfl rfl trivial
   ·skip
    refine .region ?_
    refine .step rfl (.move rfl rfl) ?_
    refine .step rfl (.len rfl rfl ⟨_, _, rfl⟩ is22) ?_
    refine .step rfl (.binv (.bool false) rfl rfl rfl rfl (congrArg Value.bool (decide_eq_false (by omega)))) ?_
    refine .step rfl (.move rfl rfl) ?_
    refine .go 25 rfl rfl rfl rfl (.move rfl rfl) ?_
    refine .go 25 rfl rfl rfl rfl (.lens rfl rfl is9) ?_
    refine .go 25 rfl rfl rfl rfl (.binv (.bool false) rfl rfl rfl rfl (congrArg Value.bool (decide_eq_false (by omega)))) ?_
    refine .step rfl (.pick rfl rfl rfl) ?_
    refine .nil ?_
    refine .next ?_
    refine .cond rfl (fun h6 => absurd h6 (by decide)) (fun h6 => ?_)
    refine .skip ?_
    refine .next ?_
    refine .seq ?_
    refine .region ?_
    refine .step rfl (.move rfl rfl) ?_
    refine .step rfl (.callc rfl cf9 rfl (kd (by omega))) ?_
    refine .step rfl (.assign rfl rfl) ?_
    refine .nil ?_
    refine .next ?_
    refine .seq ?_
    refine .seq ?_
    refine .region ?_
    refine .step rfl (.assign rfl rfl) ?_
    refine .nil ?_
    refine TE.setv 6 (.int .i64 ((0 : Nat) : Int)) rfl (congrArg _ (by first | rfl | (dsimp only; first | done | rfl | omega))) ?_
    refine .next ?_
    refine .block ?_
    refine TC.loop (S := Nat) (fun i => i ≤ D.length) (fun i => D.length - i) (fun i => [(0, .d (slT bdv 1 l)), (1, .d (.v (.string ⟨⟨s⟩⟩))), (5, .d (slT Kn.dv 4 D)), (6, .d (.v (.int .i64 ((i : Nat) : Int))))]) (fun i => []) (0) (Nat.zero_le _) ⟨⟨rfl, rfl⟩, ⟨rfl, rfl⟩, ⟨rfl, rfl⟩, ⟨rfl, rfl⟩, trivial⟩ trivial (fun i hI => ?_)
    refine .seq ?_
    refine .seq ?_
    refine .region ?_
    refine .step rfl (.move rfl rfl) ?_
    refine .step rfl (.move rfl rfl) ?_
    refine .step rfl (.len rfl rfl ⟨_, _, rfl⟩ is24) ?_
    refine .step rfl (.bin rfl rfl rfl rfl) ?_
    refine .nil ?_
    refine .next ?_
    refine .cond rfl (fun h7 => ?_) (fun h7 => ?_)
    ·skip
     have hi : i < D.length := by have q := of_decide_eq_true h7; (try dsimp only at q); omega
     refine .skip ?_
     refine .next ?_
     refine .seq ?_
     refine .block ?_
     refine .seq ?_
     refine .region ?_
     refine .step rfl (.move rfl rfl) ?_
     refine .step rfl (.move rfl rfl) ?_
     refine .step rfl (.idx (D[i]) rfl rfl rfl rfl et24 (fun _ => rfl) (Int.natCast_nonneg _) (get_nat hi)) ?_
     refine .step rfl (.fielde rfl rfl rfl fo32_0) ?_
     refine .step rfl (.ldem (ds := En.dv ⟨D[i].nm, D[i].ver, D[i].key⟩) rfl rfl rfl rfl rfl tk30) ?_
     refine .step rfl (.alloc 1 rfl rfl zc30 rfl) ?_
     refine .step rfl (.store rfl rfl rfl sz30 rfl rfl) ?_
     refine .nil ?_
     refine .next ?_
     refine .seq ?_
     have c1 : PF Try.prog 22 [slT Kn.dv 4 D, .v (strV D[i].nm), .v (.int .i64 D[i].ver)] (.tp [.ag D[i].dv, .v (.bool true)]) := by have q := find_any D D[i].nm D[i].ver (by omega); rwa [find_at hc hi] at q
     have c2 : PF Try.prog 21 [slT Kn.dv 4 D, .v (strV D[i].nm)] (.tp [.ag (latR D D[i].nm).1.dv, .v (.bool true)]) := by have q := latest_any D D[i].nm (by omega); rwa [lat_at hc hi] at q
     have c3 : PF Try.prog 22 [slT Kn.dv 4 D, .v (strV D[i].nm), .v (.int .i64 0)] (.tp [.ag zeroK.dv, .v (.bool false)]) := by have q := find_any D D[i].nm 0 (by omega); rwa [find_zero hc] at q
     have c4 : PF Try.prog 22 [slT Kn.dv 4 D, .v (strV D[i].nm), .v (.int .i64 ((latR D D[i].nm).1.ver + 1))] (.tp [.ag zeroK.dv, .v (.bool false)]) := by have q := find_any D D[i].nm ((latR D D[i].nm).1.ver + 1) (by omega); rwa [find_next hc] at q
     have hlv := lat_ver hc D[i].nm
     have hle := latR_le (List.getElem_mem hi) (rfl : D[i].nm = D[i].nm)
     refine .region ?_
     refine .step rfl (.move rfl rfl) ?_
     refine .step rfl (.fieldp rfl rfl rfl rfl fo30_0) ?_
     refine .step rfl (.ldp rfl rfl rfl rfl rfl tk9) ?_
     refine .step rfl (.fieldp rfl rfl rfl rfl fo30_1) ?_
     refine .step rfl (.ldp rfl rfl rfl rfl rfl tk3) ?_
     refine .step rfl (.callf rfl cf22 rfl ⟨trivial, trivial, trivial, trivial⟩ (c1)) ?_
     refine .step rfl (.move rfl rfl) ?_
     refine .step rfl (.extract rfl rfl rfl rfl) ?_
     refine .step rfl (.extract rfl rfl rfl rfl) ?_
     refine .step rfl (.alloc 2 rfl rfl zc32 rfl) ?_
     refine .step rfl (.store rfl rfl rfl sz32 rfl rfl) ?_
     refine .step rfl (.assign rfl rfl) ?_
     refine .nil ?_
     refine .next ?_
     refine .seq ?_
     refine .region ?_
     refine .step rfl (.move rfl rfl) ?_
     refine .step rfl (.fieldp rfl rfl rfl rfl fo30_0) ?_
     refine .step rfl (.ldp rfl rfl rfl rfl rfl tk9) ?_
     refine .step rfl (.callf rfl cf21 rfl ⟨trivial, trivial, trivial⟩ (c2)) ?_
     refine .step rfl (.move rfl rfl) ?_
     refine .step rfl (.extract rfl rfl rfl rfl) ?_
     refine .step rfl (.extract rfl rfl rfl rfl) ?_
     refine .step rfl (.alloc 3 rfl rfl zc32 rfl) ?_
     refine .step rfl (.store rfl rfl rfl sz32 rfl rfl) ?_
     refine .step rfl (.assign rfl rfl) ?_
     refine .nil ?_
     refine .next ?_
     refine .seq ?_
     refine .region ?_
     refine .step rfl (.move rfl rfl) ?_
     refine .step rfl (.fieldp rfl rfl rfl rfl fo30_0) ?_
     refine .step rfl (.ldp rfl rfl rfl rfl rfl tk9) ?_
     refine .step rfl (.callf rfl cf22 rfl ⟨trivial, trivial, trivial, trivial⟩ (c3)) ?_
     refine .step rfl (.move rfl rfl) ?_
     refine .step rfl (.extract rfl rfl rfl rfl) ?_
     refine .step rfl (.extract rfl rfl rfl rfl) ?_
     refine .step rfl (.alloc 4 rfl rfl zc32 rfl) ?_
     refine .step rfl (.store rfl rfl rfl sz32 rfl rfl) ?_
     refine .step rfl (.assign rfl rfl) ?_
     refine .nil ?_
     refine .next ?_
     refine .seq ?_
     refine .seq ?_
     refine .draw mixed [Ro.mk _ (Eff.mk (some (66, _)) []) [], Ro.mk _ (Eff.mk (some (67, _)) []) [], Ro.mk _ (Eff.mk (some (68, _)) []) [], Ro.mk _ (Eff.mk (some (69, _)) []) [2], Ro.mk _ (Eff.mk (some (70, _)) []) [], Ro.mk _ (Eff.mk (some (71, _)) []) [], Ro.mk _ (Eff.mk (some (72, _)) []) [], Ro.mk _ (Eff.mk (some (73, _)) []) [], Ro.mk _ (Eff.mk (some (74, _)) []) [], Ro.mk _ (Eff.mk (some (75, _)) []) [], Ro.mk _ (Eff.mk (some (76, _)) []) [], Ro.mk _ (Eff.mk (some (77, _)) []) [], Ro.mk _ (Eff.mk (some (78, _)) []) [], Ro.mk _ (Eff.mk (some (79, _)) []) [], Ro.mk _ (Eff.mk (some (80, _)) []) [], Ro.mk _ (Eff.mk (some (81, _)) []) [3], Ro.mk _ (Eff.mk (some (82, _)) []) [3], Ro.mk _ (Eff.mk (some (83, _)) []) [3], Ro.mk _ (Eff.mk (some (84, _)) []) [1], Ro.mk _ (Eff.mk (some (85, _)) []) [1], Ro.mk _ (Eff.mk (some (86, _)) []) [], Ro.mk _ (Eff.mk (some (87, _)) []) [], Ro.mk _ (Eff.mk (some (88, _)) []) [], Ro.mk _ (Eff.mk (some (89, _)) []) [], Ro.mk _ (Eff.mk (some (90, _)) []) []] rfl ⟨(fun _ _ => .move rfl rfl), (fun _ _ => .un rfl rfl rfl), (fun _ _ => .move rfl rfl), (.inr ⟨68, _, rfl, rfl, rfl, rfl, fun _ _ => .ldpm (ds := D[i].dv) rfl rfl rfl rfl rfl rfl tk32⟩), (.inr ⟨68, _, rfl, rfl, rfl, rfl, fun _ _ => .move rfl rfl⟩), (.inr ⟨68, _, rfl, rfl, rfl, rfl, fun _ _ => .move rfl rfl⟩), (.inr ⟨68, _, rfl, rfl, rfl, rfl, fun _ _ => .idx (D[i]) rfl rfl rfl rfl et24 (fun _ => rfl) (Int.natCast_nonneg _) (get_nat hi)⟩), (.inr ⟨68, _, rfl, rfl, rfl, rfl, fun _ _ => .ldem (ds := D[i].dv) rfl rfl rfl rfl rfl tk32⟩), (.inr ⟨68, _, rfl, rfl, rfl, rfl, fun _ _ => .nek (a := D[i]) (b := D[i]) false (by simp) (kn_fit hc hDf _ (List.getElem_mem hi)) (kn_fit hc hDf _ (List.getElem_mem hi)) rfl rfl rfl qk32⟩), (fun _ _ => .pick rfl rfl rfl), (fun _ _ => .move rfl rfl), (.inr ⟨76, _, rfl, rfl, rfl, rfl, fun _ _ => .move rfl rfl⟩), (.inr ⟨76, _, rfl, rfl, rfl, rfl, fun _ _ => .un rfl rfl rfl⟩), (fun _ _ => .pick rfl rfl rfl), (fun _ _ => .move rfl rfl), (.inr ⟨80, _, rfl, rfl, rfl, rfl, fun _ _ => .fieldp rfl rfl rfl rfl fo32_0⟩), (.inr ⟨80, _, rfl, rfl, rfl, rfl, fun _ _ => .fieldp rfl rfl rfl rfl fo30_1⟩), (.inr ⟨80, _, rfl, rfl, rfl, rfl, fun _ _ => .ldp rfl rfl rfl rfl rfl tk3⟩), (.inr ⟨80, _, rfl, rfl, rfl, rfl, fun _ _ => .fieldp rfl rfl rfl rfl fo30_1⟩), (.inr ⟨80, _, rfl, rfl, rfl, rfl, fun _ _ => .ldp rfl rfl rfl rfl rfl tk3⟩), (.inr ⟨80, _, rfl, rfl, rfl, rfl, fun _ _ => .binv (.bool false) rfl rfl rfl rfl (congrArg Value.bool (decide_eq_false (by (try dsimp only); omega)))⟩), (fun _ _ => .pick rfl rfl rfl), (fun _ _ => .move rfl rfl), (.inr ⟨88, _, rfl, rfl, rfl, rfl, fun _ _ => .move rfl rfl⟩), (fun _ _ => .pick rfl rfl rfl), trivial⟩ (by kernel_rfl) ?_
     refine .next ?_
     refine .cond rfl (fun h8 => absurd h8 (by decide)) (fun h8 => ?_)
     refine .skip ?_
     refine .next ?_
     refine .seq ?_
     refine .region ?_
     refine .step rfl (.move rfl rfl) ?_
     refine .step rfl (.fieldp rfl rfl rfl rfl fo30_0) ?_
     refine .step rfl (.ldp rfl rfl rfl rfl rfl tk9) ?_
     refine .step rfl (.fieldp rfl rfl rfl rfl fo32_0) ?_
     refine .step rfl (.fieldp rfl rfl rfl rfl fo30_1) ?_
     refine .step rfl (.ldp rfl rfl rfl rfl rfl tk3) ?_
     refine .step rfl (.binv (.int .i64 ((latR D D[i].nm).1.ver + 1)) rfl rfl rfl rfl (congrArg _ (i64w_small hlv.1 (by omega)))) ?_
     refine .step rfl (.callf rfl cf22 rfl ⟨trivial, trivial, trivial, trivial⟩ (c4)) ?_
     refine .step rfl (.move rfl rfl) ?_
     refine .step rfl (.extract rfl rfl rfl rfl) ?_
     refine .step rfl (.extract rfl rfl rfl rfl) ?_
     refine .step rfl (.alloc 5 rfl rfl zc32 rfl) ?_
     refine .step rfl (.store rfl rfl rfl sz32 rfl rfl) ?_
     refine .step rfl (.assign rfl rfl) ?_
     refine .nil ?_
     refine .next ?_
     refine .seq ?_
     refine .region ?_
     refine .step rfl (.move rfl rfl) ?_
     refine .nil ?_
     refine .next ?_
     refine .cond rfl (fun h9 => absurd h9 (by decide)) (fun h9 => ?_)
     refine .skip ?_
     refine TE.blk ?_
     refine .next ?_
     refine .region ?_
     refine .step rfl (.move rfl rfl) ?_
     refine .step rfl (.binv (.int .i64 ((i + 1 : Nat) : Int)) rfl rfl rfl rfl (congrArg _ (by (try dsimp only); rw [IntKind.wrap_i64]; omega))) ?_
     refine .step rfl (.assign rfl rfl) ?_
     refine .nil ?_
     refine TE.setv 6 (.int .i64 ((i + 1 : Nat) : Int)) rfl (congrArg _ (by first | rfl | (dsimp only; first | done | rfl | omega))) ?_
     exact TE.round id (fun _ _ e => e) (i + 1) (by omega) (by omega) ⟨⟨rfl, rfl⟩, ⟨rfl, rfl⟩, ⟨rfl, rfl⟩, ⟨rfl, rfl⟩, trivial⟩ trivial
    ·skip
     have hi : ¬ (i < D.length) := by have q := of_decide_eq_false h7; (try dsimp only at q); omega
     refine .exit ?_
     refine TE.pass ?_
     refine TE.pass ?_
     refine TE.here ?_
     refine .next ?_
     refine .seq ?_
     refine .region ?_
     refine .step rfl (.assign rfl rfl) ?_
     refine .nil ?_
     refine TE.setv 16 (.bool false) rfl rfl ?_
     refine .next ?_
     refine .seq ?_
     refine .seq ?_
     refine .region ?_
     refine .step rfl (.assign rfl rfl) ?_
     refine .nil ?_
     refine TE.setv 17 (.int .i64 ((0 : Nat) : Int)) rfl (congrArg _ (by first | rfl | (dsimp only; first | done | rfl | omega))) ?_
     refine .next ?_
     refine .block ?_
     refine TC.loop (S := Nat × Bool) (fun x => x.1 ≤ D.length ∧ x.2 = (D.take x.1).any (fun d => decide (d.nm = s))) (fun x => D.length - x.1) (fun x => [(0, .d (slT bdv 1 l)), (1, .d (.v (.string ⟨⟨s⟩⟩))), (5, .d (slT Kn.dv 4 D)), (16, .d (.v (.bool x.2))), (17, .d (.v (.int .i64 ((x.1 : Nat) : Int))))]) (fun x => []) ((0, false)) ⟨Nat.zero_le _, rfl⟩ ⟨⟨rfl, rfl⟩, ⟨rfl, rfl⟩, ⟨rfl, rfl⟩, ⟨rfl, rfl⟩, ⟨rfl, rfl⟩, trivial⟩ trivial (fun x hI => ?_)
     obtain ⟨k, tk⟩ := x
     obtain ⟨k1, k2⟩ := hI
     have k1 : k ≤ D.length := k1
     have k2 : tk = (D.take k).any (fun d => decide (d.nm = s)) := k2
     refine .seq ?_
     refine .seq ?_
     refine .region ?_
     refine .step rfl (.move rfl rfl) ?_
     refine .step rfl (.move rfl rfl) ?_
     refine .step rfl (.len rfl rfl ⟨_, _, rfl⟩ is24) ?_
     refine .step rfl (.bin rfl rfl rfl rfl) ?_
     refine .nil ?_
     refine .next ?_
     refine .cond rfl (fun h10 => ?_) (fun h10 => ?_)
     ·skip
      have hkd : k < D.length := by have q := of_decide_eq_true h10; (try dsimp only at q); omega
      refine .skip ?_
      refine .next ?_
      refine .seq ?_
      refine .block ?_
      cases tk with
      | true =>
       refine .region ?_
       refine .step rfl (.move rfl rfl) ?_
       refine .step rfl (.move rfl rfl) ?_
       refine .no 110 rfl rfl rfl rfl rfl rfl rfl ?_
       refine .no 110 rfl rfl rfl rfl rfl rfl rfl ?_
       refine .no 110 rfl rfl rfl rfl rfl rfl rfl ?_
       refine .no 110 rfl rfl rfl rfl rfl rfl rfl ?_
       refine .no 110 rfl rfl rfl rfl rfl rfl rfl ?_
       refine .no 110 rfl rfl rfl rfl rfl rfl rfl ?_
       refine .no 110 rfl rfl rfl rfl rfl rfl rfl ?_
       refine .no 110 rfl rfl rfl rfl rfl rfl rfl ?_
       refine .step rfl (.pick rfl rfl rfl) ?_
       refine .step rfl (.assign rfl rfl) ?_
       refine .nil ?_
       refine TE.blk ?_
       refine .next ?_
       refine .region ?_
       refine .step rfl (.move rfl rfl) ?_
       refine .step rfl (.binv (.int .i64 ((k + 1 : Nat) : Int)) rfl rfl rfl rfl (congrArg _ (by (try dsimp only); rw [IntKind.wrap_i64]; omega))) ?_
       refine .step rfl (.assign rfl rfl) ?_
       refine .nil ?_
       refine TE.setv 16 (.bool ((D.take (k + 1)).any (fun d => decide (d.nm = s)))) rfl (congrArg Value.bool (by rw [anyK_snoc hkd, ← k2]; first | rfl | simp)) ?_
       refine TE.setv 17 (.int .i64 ((k + 1 : Nat) : Int)) rfl (congrArg _ (by first | rfl | (dsimp only; first | done | rfl | omega))) ?_
       exact TE.round id (fun _ _ e => e) ((k + 1, (D.take (k + 1)).any (fun d => decide (d.nm = s)))) ⟨hkd, rfl⟩ (by show D.length - (k + 1) < D.length - k; omega) ⟨⟨rfl, rfl⟩, ⟨rfl, rfl⟩, ⟨rfl, rfl⟩, ⟨rfl, rfl⟩, ⟨rfl, rfl⟩, trivial⟩ trivial
      | false =>
       refine .region ?_
       refine .step rfl (.move rfl rfl) ?_
       refine .step rfl (.move rfl rfl) ?_
       refine .go 110 rfl rfl rfl rfl (.move rfl rfl) ?_
       refine .go 110 rfl rfl rfl rfl (.move rfl rfl) ?_
       refine .go 110 rfl rfl rfl rfl (.idx (D[k]) rfl rfl rfl rfl et24 (fun _ => rfl) (Int.natCast_nonneg _) (get_nat hkd)) ?_
       refine .go 110 rfl rfl rfl rfl (.fielde rfl rfl rfl fo32_0) ?_
       refine .go 110 rfl rfl rfl rfl (.fielde rfl rfl rfl fo30_0) ?_
       refine .go 110 rfl rfl rfl rfl (.lde rfl rfl rfl rfl tk9) ?_
       refine .go 110 rfl rfl rfl rfl (.move rfl rfl) ?_
       refine .go 110 rfl rfl rfl rfl (.bin rfl rfl rfl rfl) ?_
       refine .step rfl (.pick rfl rfl rfl) ?_
       refine .step rfl (.assign rfl rfl) ?_
       refine .nil ?_
       refine TE.blk ?_
       refine .next ?_
       refine .region ?_
       refine .step rfl (.move rfl rfl) ?_
       refine .step rfl (.binv (.int .i64 ((k + 1 : Nat) : Int)) rfl rfl rfl rfl (congrArg _ (by (try dsimp only); rw [IntKind.wrap_i64]; omega))) ?_
       refine .step rfl (.assign rfl rfl) ?_
       refine .nil ?_
       refine TE.setv 16 (.bool ((D.take (k + 1)).any (fun d => decide (d.nm = s)))) rfl (congrArg Value.bool (by rw [anyK_snoc hkd, ← k2]; first | rfl | simp)) ?_
       refine TE.setv 17 (.int .i64 ((k + 1 : Nat) : Int)) rfl (congrArg _ (by first | rfl | (dsimp only; first | done | rfl | omega))) ?_
       exact TE.round id (fun _ _ e => e) ((k + 1, (D.take (k + 1)).any (fun d => decide (d.nm = s)))) ⟨hkd, rfl⟩ (by show D.length - (k + 1) < D.length - k; omega) ⟨⟨rfl, rfl⟩, ⟨rfl, rfl⟩, ⟨rfl, rfl⟩, ⟨rfl, rfl⟩, ⟨rfl, rfl⟩, trivial⟩ trivial
     ·skip
      have hkd : ¬ (k < D.length) := by have q := of_decide_eq_false h10; (try dsimp only at q); omega
      refine .exit ?_
      refine TE.pass ?_
      refine TE.pass ?_
      refine TE.here ?_
      refine .next ?_
      refine .seq ?_
      have hla : (latP D s).2 = tk := by rw [k2, lat_any hc, List.take_of_length_le (by omega)]
      refine .region ?_
      refine .step rfl (.move rfl rfl) ?_
      refine .step rfl (.move rfl rfl) ?_
      refine .step rfl (.callf rfl cf21 rfl ⟨trivial, trivial, trivial⟩ (latest_any D s (by omega))) ?_
      refine .step rfl (.move rfl rfl) ?_
      refine .step rfl (.extract rfl rfl rfl rfl) ?_
      refine .step rfl (.extract rfl rfl rfl rfl) ?_
      refine .step rfl (.alloc 6 rfl rfl zc32 rfl) ?_
      refine .step rfl (.store rfl rfl rfl sz32 rfl rfl) ?_
      refine .step rfl (.assign rfl rfl) ?_
      refine .nil ?_
      refine .next ?_
      refine .seq ?_
      have c5 : PF Try.prog 18 [slT Kn.dv 4 D] (.v (.bool true)) := by have q := right_pf D (by omega); rwa [right_iff.2 hc] at q
      refine .region ?_
      refine .step rfl (.move rfl rfl) ?_
      refine .step rfl (.move rfl rfl) ?_
      refine .step rfl (.eqb true rfl rfl rfl ub4 (by rw [hla]; simp)) ?_
      refine .step rfl (.move rfl rfl) ?_
      refine .go 129 rfl rfl rfl rfl (.move rfl rfl) ?_
      refine .go 129 rfl rfl rfl rfl (.callf rfl cf18 rfl ⟨trivial, trivial⟩ (c5)) ?_
      refine .step rfl (.pick rfl rfl rfl) ?_
      refine .step rfl (.assign rfl rfl) ?_
      refine .nil ?_
      refine .next ?_
      refine .ret ?_
      exact TE.retf rfl rfl rfl trivial

end Go.Proofs.Ythidepbffhhkmaa
