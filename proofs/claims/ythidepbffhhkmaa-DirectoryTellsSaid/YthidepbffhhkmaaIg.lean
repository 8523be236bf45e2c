/-
  The program's Add.
-/
import Derived.Test.YthidepbffhhkmaaIf
namespace Go.Proofs.Ythidepbffhhkmaa
set_option linter.unusedVariables false
set_option linter.unusedSimpArgs false
open Go.RowKit Pl

theorem cf21 : cfn Try.prog 21 = true := by kernel_rfl
theorem cf29 : cfn Try.prog 29 = true := by kernel_rfl
theorem cf30 : cfn Try.prog 30 = true := by kernel_rfl
theorem cf32 : cfn Try.prog 32 = true := by kernel_rfl
theorem cf34 : cfn Try.prog 34 = true := by kernel_rfl

/-- A batch's entry is laid into the list. -/
def insP (out : List Kn) (e : En) (ep : Int) : List Kn := out.take (bsI out e.nm e.ver) ++ ⟨e.nm, e.ver, e.key, ep⟩ :: out.drop (bsI out e.nm e.ver)
theorem insP_len (out : List Kn) (e : En) (ep : Int) : (insP out e ep).length = out.length + 1 := by
  have := bsI_le out e.nm e.ver
  unfold insP; simp only [List.length_append, List.length_take, List.length_cons, List.length_drop]; omega
theorem kn_take (out : List Kn) (i : Nat) (h : i ≤ out.length) : (out.take i).flatMap Kn.dv = (out.flatMap Kn.dv).take (i * 4) ∧ (out.drop i).flatMap Kn.dv = (out.flatMap Kn.dv).drop (i * 4) := by
  have e : out.flatMap Kn.dv = (out.take i).flatMap Kn.dv ++ (out.drop i).flatMap Kn.dv := by rw [← List.flatMap_append, List.take_append_drop]
  have hl : ((out.take i).flatMap Kn.dv).length = i * 4 := by rw [flat_length (sz := 4) (enc := Kn.dv) (fun _ => rfl), List.length_take, Nat.min_eq_left h]
  rw [e, ← hl, List.take_left, List.drop_left]
  exact ⟨rfl, rfl⟩
theorem insP_flat (out : List Kn) (e : En) (ep : Int) : (insP out e ep).flatMap Kn.dv = (out.flatMap Kn.dv).take (bsI out e.nm e.ver * 4) ++ Kn.dv ⟨e.nm, e.ver, e.key, ep⟩ ++ (out.flatMap Kn.dv).drop (bsI out e.nm e.ver * 4) := by
  obtain ⟨h1, h2⟩ := kn_take out _ (bsI_le out e.nm e.ver)
  unfold insP
  rw [List.flatMap_append, List.flatMap_cons, h1, h2, List.append_assoc]
def okP (out : List Kn) (e : En) (ep : Int) : Bool := !decide ((latP out e.nm).1.ep = ep) && (rightE e.nm e.ver e.key && decide (e.ver = i64w ((latP out e.nm).1.ver + 1)))
def addPGo (l : List Kn) (ep : Int) : List En → List Kn → List Kn × Bool
  | [], out => (out, true)
  | e :: r, out => if okP out e ep = true then addPGo l ep r (insP out e ep) else (l, false)
def addP (l : List Kn) (ep : Int) (b : List En) : List Kn × Bool := if ep < 1 ∨ 0 ≤ idxE ep l then (l, false) else addPGo l ep b l
theorem addPGo_step {l : List Kn} {ep : Int} {b : List En} {out : List Kn} {k : Nat} (h : k < b.length) (hok : okP out b[k] ep = true) : addPGo l ep (b.drop k) out = addPGo l ep (b.drop (k + 1)) (insP out b[k] ep) := by
  rw [← List.getElem_cons_drop h]; simp only [addPGo, if_pos hok]
theorem addPGo_stop {l : List Kn} {ep : Int} {b : List En} {out : List Kn} {k : Nat} (h : k < b.length) (hno : okP out b[k] ep = false) : addPGo l ep (b.drop k) out = (l, false) := by
  rw [← List.getElem_cons_drop h]; simp only [addPGo, hno]; rfl

set_option maxRecDepth 100000 in
set_option maxHeartbeats 1600000 in
theorem addp_pc (l : List Kn) (ep : Int) (b : List En) (hl : l.length ≤ 1048576) (hb : b.length ≤ 1048576) : PC Try.prog 15 [slT Kn.dv 4 l, .v (.int .i64 ep), slT En.dv 3 b] (.tp [slT Kn.dv 4 (addP l ep b).1, .v (.bool (addP l ep b).2)]) := by
  have hb' : b.length ≤ 140737488355328 := by omega
  refine PC.enter (fn := Try.f15) Try.func15 rfl Try.ntmps15 rfl (fun w0 K0 => ?_)
  refine .seq ?_
  refine .region ?_
  refine .step rfl (.box 1 rfl rfl rfl rfl) ?_
  refine .step rfl (.assign rfl rfl) ?_
  refine .step rfl (.assign rfl rfl) ?_
  refine .nil ?_
  refine TE.frzb 4 rfl rfl rfl rfl ?_
  refine .next ?_
  refine .seq ?_
  refine .region ?_
  refine .step rfl (.move rfl rfl) ?_
  refine .step rfl (.callo 2 rfl rfl cf29 rfl ⟨trivial, trivial⟩ (clk_po l hl)) ?_
  refine .step rfl (.assign rfl rfl) ?_
  refine .nil ?_
  refine .next ?_
  refine .seq ?_
  refine .seq ?_
  by_cases hep : ep < 1
  ·skip
   have e : addP l ep b = (l, false) := by unfold addP; rw [if_pos (.inl hep)]
   refine .region ?_
   refine .step rfl (.lde rfl rfl rfl rfl tk3) ?_
   refine .step rfl (.binv (.bool true) rfl rfl rfl rfl (congrArg Value.bool (decide_eq_true hep))) ?_
   refine .step rfl (.move rfl rfl) ?_
   refine .no 19 rfl rfl rfl rfl rfl rfl rfl ?_
   refine .no 19 rfl rfl rfl rfl rfl rfl rfl ?_
   refine .no 19 rfl rfl rfl rfl rfl rfl rfl ?_
   refine .step rfl (.pick rfl rfl rfl) ?_
   refine .nil ?_
   refine .next ?_
   refine .cond rfl (fun h2 => ?_) (fun h2 => absurd h2 (by decide))
   refine .seq ?_
   refine .region ?_
   refine .step rfl (.move rfl rfl) ?_
   refine .step rfl (.assign rfl rfl) ?_
   refine .step rfl (.assign rfl rfl) ?_
   refine .nil ?_
   refine .next ?_
   refine .ret ?_
   refine TE.frz 6 (slT Kn.dv 4 l) rfl rfl (flat_length (sz := 4) (enc := Kn.dv) (fun _ => rfl) _) rfl ?_
   rw [e]
   exact TE.rettc rfl rfl rfl
  ·skip
   refine .region ?_
   refine .step rfl (.lde rfl rfl rfl rfl tk3) ?_
   refine .step rfl (.binv (.bool false) rfl rfl rfl rfl (congrArg Value.bool (decide_eq_false hep))) ?_
   refine .step rfl (.move rfl rfl) ?_
   refine .go 19 rfl rfl rfl rfl (.move rfl rfl) ?_
   refine .go 19 rfl rfl rfl rfl (.mkfn rfl rfl) ?_
   refine .go 19 rfl rfl rfl rfl (.callf rfl cf30 rfl ⟨trivial, trivial, trivial⟩ (cont_pf l ep (by omega))) ?_
   refine .step rfl (.pick rfl rfl rfl) ?_
   refine .nil ?_
   refine .next ?_
   refine .cond rfl (fun h3 => ?_) (fun h3 => ?_)
   ·skip
    have hix : 0 ≤ idxE ep l := of_decide_eq_true h3
    have e : addP l ep b = (l, false) := by unfold addP; rw [if_pos (.inr hix)]
    refine .seq ?_
    refine .region ?_
    refine .step rfl (.move rfl rfl) ?_
    refine .step rfl (.assign rfl rfl) ?_
    refine .step rfl (.assign rfl rfl) ?_
    refine .nil ?_
    refine .next ?_
    refine .ret ?_
    refine TE.frz 6 (slT Kn.dv 4 l) rfl rfl (flat_length (sz := 4) (enc := Kn.dv) (fun _ => rfl) _) rfl ?_
    rw [e]
    exact TE.rettc rfl rfl rfl
   ·skip
    have hix : ¬ 0 ≤ idxE ep l := of_decide_eq_false h3
    have hgo : addPGo l ep b l = addP l ep b := by unfold addP; rw [if_neg (fun q => q.elim hep hix)]
    refine .skip ?_
    refine .next ?_
    refine .seq ?_
    refine .seq ?_
    refine .region ?_
    refine .step rfl (.move rfl rfl) ?_
    refine .step rfl (.len rfl rfl ⟨_, _, rfl⟩ is39) ?_
    refine .step rfl (.move rfl rfl) ?_
    refine .nil ?_
    refine .next ?_
    refine .block ?_
    refine TC.loop (S := Nat × List Kn) (fun x => x.1 ≤ b.length ∧ x.2.length = l.length + x.1 ∧ addPGo l ep (b.drop x.1) x.2 = addP l ep b) (fun x => b.length - x.1) (fun x => [(0, .d (slT Kn.dv 4 l)), (1, .d (.v (.int .i64 ep))), (2, .d (slT En.dv 3 b)), (4, .d (.el [.v (.int .i64 ep)])), (8, .ow 2 x.2.length 4), (25, .d (slT En.dv 3 b)), (26, .f (.v (.int .i64 b.length))), (27, .f (.v (.int .i64 x.1)))]) (fun x => [(1, .dead), (2, .row 32 4 (x.2.flatMap Kn.dv))]) ((0, l)) ⟨Nat.zero_le _, rfl, hgo⟩ ⟨⟨rfl, rfl⟩, ⟨rfl, rfl⟩, ⟨rfl, rfl⟩, ⟨rfl, rfl⟩, ⟨rfl, rfl⟩, ⟨rfl, rfl⟩, ⟨rfl, rfl⟩, ⟨rfl, rfl⟩, trivial⟩ ⟨.inl rfl, .inr rfl, trivial⟩ (fun x hI => ?_)
    obtain ⟨k, out⟩ := x
    obtain ⟨i1, i2, i3⟩ := hI
    have i1 : k ≤ b.length := i1
    have i2 : out.length = l.length + k := i2
    have i3 : addPGo l ep (b.drop k) out = addP l ep b := i3
    refine .seq ?_
    refine .region ?_
    refine .step rfl (.bin rfl rfl rfl rfl) ?_
    refine .nil ?_
    refine .next ?_
    refine .seq ?_
    refine .cond rfl (fun h4 => ?_) (fun h4 => ?_)
    ·skip
     have hkb : k < b.length := by have q : (k : Int) < (b.length : Int) := of_decide_eq_true h4; omega
     refine .skip ?_
     refine .next ?_
     refine .seq ?_
     refine .block ?_
     refine .seq ?_
     refine .region ?_
     refine .step rfl (.idx (b[k]) rfl rfl rfl rfl et39 (fun _ => rfl) (Int.natCast_nonneg k) (get_nat hkb)) ?_
     refine .step rfl (.ldem rfl rfl rfl rfl rfl tk30) ?_
     refine .step rfl (.alloc 3 rfl rfl zc30 rfl) ?_
     refine .step rfl (.store rfl rfl rfl sz30 rfl rfl) ?_
     refine .nil ?_
     refine .next ?_
     refine .seq ?_
     refine .region ?_
     refine .step rfl (.move rfl rfl) ?_
     refine .step rfl (.fieldp rfl rfl rfl rfl fo30_0) ?_
     refine .step rfl (.ldp rfl rfl rfl rfl rfl tk9) ?_
     refine .step rfl (.callf rfl cf21 rfl ⟨(okA_len rfl (flat_length (sz := 4) (enc := Kn.dv) (fun _ => rfl) _)), trivial, trivial⟩ (latest_any out b[k].nm (by omega))) ?_
     refine .step rfl (.move rfl rfl) ?_
     refine .step rfl (.extract rfl rfl rfl rfl) ?_
     refine .step rfl (.extract rfl rfl rfl rfl) ?_
     refine .step rfl (.alloc 4 rfl rfl zc32 rfl) ?_
     refine .step rfl (.store rfl rfl rfl sz32 rfl rfl) ?_
     refine .step rfl (.assign rfl rfl) ?_
     refine .nil ?_
     refine .next ?_
     refine .seq ?_
     refine .seq ?_
     by_cases hq : (latP out b[k].nm).1.ep = ep
     ·skip
      have hno : okP out b[k] ep = false := by unfold okP; rw [decide_eq_true hq]; rfl
      refine .region ?_
      refine .step rfl (.fieldp rfl rfl rfl rfl fo32_1) ?_
      refine .step rfl (.ldp rfl rfl rfl rfl rfl tk3) ?_
      refine .step rfl (.lde rfl rfl rfl rfl tk3) ?_
      refine .step rfl (.binv (.bool true) rfl rfl rfl rfl (congrArg Value.bool (decide_eq_true hq))) ?_
      refine .step rfl (.move rfl rfl) ?_
      refine .no 42 rfl rfl rfl rfl rfl rfl rfl ?_
      refine .no 42 rfl rfl rfl rfl rfl rfl rfl ?_
      refine .no 42 rfl rfl rfl rfl rfl rfl rfl ?_
      refine .step rfl (.pick rfl rfl rfl) ?_
      refine .step rfl (.move rfl rfl) ?_
      refine .no 47 rfl rfl rfl rfl rfl rfl rfl ?_
      refine .no 47 rfl rfl rfl rfl rfl rfl rfl ?_
      refine .no 47 rfl rfl rfl rfl rfl rfl rfl ?_
      refine .no 47 rfl rfl rfl rfl rfl rfl rfl ?_
      refine .no 47 rfl rfl rfl rfl rfl rfl rfl ?_
      refine .no 47 rfl rfl rfl rfl rfl rfl rfl ?_
      refine .no 47 rfl rfl rfl rfl rfl rfl rfl ?_
      refine .step rfl (.pick rfl rfl rfl) ?_
      refine .nil ?_
      refine .next ?_
      refine .cond rfl (fun h6 => ?_) (fun h6 => absurd h6 (by decide))
      refine .seq ?_
      refine .region ?_
      refine .step rfl (.move rfl rfl) ?_
      refine .step rfl (.callo 5 rfl rfl cf29 rfl ⟨trivial, trivial⟩ (clk_po l hl)) ?_
      refine .step rfl (.assign rfl rfl) ?_
      refine .step rfl (.assign rfl rfl) ?_
      refine .nil ?_
      refine .next ?_
      refine .ret ?_
      refine TE.frz 6 (slT Kn.dv 4 l) rfl rfl (flat_length (sz := 4) (enc := Kn.dv) (fun _ => rfl) _) rfl ?_
      have e : addP l ep b = (l, false) := by rw [← i3, addPGo_stop hkb hno]
      rw [e]
      exact TE.rettc rfl rfl rfl
     ·skip
      refine .region ?_
      refine .step rfl (.fieldp rfl rfl rfl rfl fo32_1) ?_
      refine .step rfl (.ldp rfl rfl rfl rfl rfl tk3) ?_
      refine .step rfl (.lde rfl rfl rfl rfl tk3) ?_
      refine .step rfl (.binv (.bool false) rfl rfl rfl rfl (congrArg Value.bool (decide_eq_false hq))) ?_
      refine .step rfl (.move rfl rfl) ?_
      refine .go 42 rfl rfl rfl rfl (.ldpm rfl rfl rfl rfl rfl rfl tk30) ?_
      refine .go 42 rfl rfl rfl rfl (.callf rfl cf32 rfl ⟨trivial, trivial⟩ (dmay_pf b[k])) ?_
      refine .case 44 rfl (fun h7 => ?_) (fun h7 => ?_)
      ·skip
       have hR : rightE b[k].nm b[k].ver b[k].key = true := h7
       refine .go 42 rfl rfl rfl rfl (.un rfl rfl rfl) ?_
       refine .step rfl (.pick rfl rfl rfl) ?_
       refine .step rfl (.move rfl rfl) ?_
       refine .go 47 rfl rfl rfl rfl (.fieldp rfl rfl rfl rfl fo30_1) ?_
       refine .go 47 rfl rfl rfl rfl (.ldp rfl rfl rfl rfl rfl tk3) ?_
       refine .go 47 rfl rfl rfl rfl (.fieldp rfl rfl rfl rfl fo32_0) ?_
       refine .go 47 rfl rfl rfl rfl (.fieldp rfl rfl rfl rfl fo30_1) ?_
       refine .go 47 rfl rfl rfl rfl (.ldp rfl rfl rfl rfl rfl tk3) ?_
       refine .go 47 rfl rfl rfl rfl (.bin rfl rfl rfl rfl) ?_
       refine .go 47 rfl rfl rfl rfl (.bin rfl rfl rfl rfl) ?_
       refine .step rfl (.pick rfl rfl rfl) ?_
       refine .nil ?_
       refine .next ?_
       refine .cond rfl (fun h8 => ?_) (fun h8 => ?_)
       ·skip
        have hv : ¬ b[k].ver = i64w ((latP out b[k].nm).1.ver + 1) := by have h0 : (!decide (b[k].ver = i64w ((latP out b[k].nm).1.ver + 1))) = true := h8; simpa using h0
        have hno : okP out b[k] ep = false := by unfold okP; rw [decide_eq_false hv]; simp
        refine .seq ?_
        refine .region ?_
        refine .step rfl (.move rfl rfl) ?_
        refine .step rfl (.callo 6 rfl rfl cf29 rfl ⟨trivial, trivial⟩ (clk_po l hl)) ?_
        refine .step rfl (.assign rfl rfl) ?_
        refine .step rfl (.assign rfl rfl) ?_
        refine .nil ?_
        refine .next ?_
        refine .ret ?_
        refine TE.frz 6 (slT Kn.dv 4 l) rfl rfl (flat_length (sz := 4) (enc := Kn.dv) (fun _ => rfl) _) rfl ?_
        have e : addP l ep b = (l, false) := by rw [← i3, addPGo_stop hkb hno]
        rw [e]
        exact TE.rettc rfl rfl rfl
       ·skip
        have hv : b[k].ver = i64w ((latP out b[k].nm).1.ver + 1) := by have h0 : (!decide (b[k].ver = i64w ((latP out b[k].nm).1.ver + 1))) = false := h8; simpa using h0
        have hok : okP out b[k] ep = true := by unfold okP; rw [decide_eq_false hq, hR, decide_eq_true hv]; rfl
        refine .skip ?_
        refine .next ?_
        refine .seq ?_
        refine .region ?_
        refine .step rfl (.move rfl rfl) ?_
        refine .step rfl (.fieldp rfl rfl rfl rfl fo30_0) ?_
        refine .step rfl (.ldp rfl rfl rfl rfl rfl tk9) ?_
        refine .step rfl (.fieldp rfl rfl rfl rfl fo30_1) ?_
        refine .step rfl (.ldp rfl rfl rfl rfl rfl tk3) ?_
        refine .step rfl (.callf rfl cf33 rfl ⟨(okA_len rfl (flat_length (sz := 4) (enc := Kn.dv) (fun _ => rfl) _)), trivial, trivial, trivial⟩ (place_any out b[k].nm b[k].ver (by omega))) ?_
        refine .step rfl (.move rfl rfl) ?_
        refine .step rfl (.extract rfl rfl rfl rfl) ?_
        refine .step rfl (.extract rfl rfl rfl rfl) ?_
        refine .step rfl (.assign rfl rfl) ?_
        refine .step rfl (.assign rfl rfl) ?_
        refine .nil ?_
        refine .next ?_
        refine .region ?_
        refine .step rfl (.move rfl rfl) ?_
        refine .step rfl (.move rfl rfl) ?_
        refine .step rfl (.ldpm rfl rfl rfl rfl rfl rfl tk30) ?_
        refine .step rfl (.lde rfl rfl rfl rfl tk3) ?_
        refine .step rfl (.build (ds := Kn.dv ⟨b[k].nm, b[k].ver, b[k].key, ep⟩) rfl rfl sp32 rfl rfl) ?_
        refine .step rfl (.buildsl 7 rfl rfl rfl ap24 zc32 rfl rfl rfl) ?_
        refine .frz 72 (.sl 4 1 (Kn.dv ⟨b[k].nm, b[k].ver, b[k].key, ep⟩)) rfl rfl rfl rfl ?_
        refine .step rfl (.calla 2 8 rfl cf34 rfl rfl rfl (ins_any (out.flatMap Kn.dv) (Kn.dv ⟨b[k].nm, b[k].ver, b[k].key, ep⟩) ((insP out b[k] ep).flatMap Kn.dv) (bsI out b[k].nm b[k].ver) out.length (flat_length (sz := 4) (enc := Kn.dv) (fun _ => rfl) _) rfl (bsI_le _ _ _) (by omega) (insP_flat _ _ _) (pl_flat pl_kn _))) ?_
        refine .step rfl (.assign rfl rfl) ?_
        refine .nil ?_
        refine TE.set 8 (.ow 8 (insP out b[k] ep).length 4) rfl (by rw [insP_len]) ?_
        refine TE.blk ?_
        refine .next ?_
        refine .region ?_
        refine .step rfl (.binv (.int .i64 ((k + 1 : Nat) : Int)) rfl rfl rfl rfl (congrArg _ (wrap_succ hkb hb'))) ?_
        refine .step rfl (.move rfl rfl) ?_
        refine .nil ?_
        exact TE.round (swp 2 8) (swp_inj 2 8) ((k + 1, insP out b[k] ep)) ⟨hkb, by show (insP out b[k] ep).length = l.length + (k + 1); rw [insP_len]; omega, by show addPGo l ep (b.drop (k + 1)) (insP out b[k] ep) = _; rw [← addPGo_step hkb hok]; exact i3⟩ (by show b.length - (k + 1) < b.length - k; omega) ⟨⟨rfl, rfl⟩, ⟨rfl, rfl⟩, ⟨rfl, rfl⟩, ⟨rfl, rfl⟩, ⟨(by simp [AV.ren, swp]; rfl), rfl⟩, ⟨rfl, rfl⟩, ⟨rfl, rfl⟩, ⟨rfl, rfl⟩, trivial⟩ ⟨.inl rfl, .inr (by simp [swp]; rfl), trivial⟩
      ·skip
       have hR : rightE b[k].nm b[k].ver b[k].key = false := h7
       have hno : okP out b[k] ep = false := by unfold okP; rw [hR]; simp
       refine .go 42 rfl rfl rfl rfl (.un rfl rfl rfl) ?_
       refine .step rfl (.pick rfl rfl rfl) ?_
       refine .step rfl (.move rfl rfl) ?_
       refine .no 47 rfl rfl rfl rfl rfl rfl rfl ?_
       refine .no 47 rfl rfl rfl rfl rfl rfl rfl ?_
       refine .no 47 rfl rfl rfl rfl rfl rfl rfl ?_
       refine .no 47 rfl rfl rfl rfl rfl rfl rfl ?_
       refine .no 47 rfl rfl rfl rfl rfl rfl rfl ?_
       refine .no 47 rfl rfl rfl rfl rfl rfl rfl ?_
       refine .no 47 rfl rfl rfl rfl rfl rfl rfl ?_
       refine .step rfl (.pick rfl rfl rfl) ?_
       refine .nil ?_
       refine .next ?_
       refine .cond rfl (fun h9 => ?_) (fun h9 => absurd h9 (by decide))
       refine .seq ?_
       refine .region ?_
       refine .step rfl (.move rfl rfl) ?_
       refine .step rfl (.callo 9 rfl rfl cf29 rfl ⟨trivial, trivial⟩ (clk_po l hl)) ?_
       refine .step rfl (.assign rfl rfl) ?_
       refine .step rfl (.assign rfl rfl) ?_
       refine .nil ?_
       refine .next ?_
       refine .ret ?_
       refine TE.frz 6 (slT Kn.dv 4 l) rfl rfl (flat_length (sz := 4) (enc := Kn.dv) (fun _ => rfl) _) rfl ?_
       have e : addP l ep b = (l, false) := by rw [← i3, addPGo_stop hkb hno]
       rw [e]
       exact TE.rettc rfl rfl rfl
    ·skip
     have hge : k = b.length := by have q : ¬ ((k : Int) < (b.length : Int)) := of_decide_eq_false h4; omega
     refine .exit ?_
     refine TE.pass ?_
     refine TE.pass ?_
     refine TE.here ?_
     refine .next ?_
     refine .seq ?_
     refine .region ?_
     refine .step rfl (.move rfl rfl) ?_
     refine .step rfl (.assign rfl rfl) ?_
     refine .step rfl (.assign rfl rfl) ?_
     refine .nil ?_
     refine .next ?_
     refine .ret ?_
     refine TE.frz 6 (slT Kn.dv 4 out) rfl rfl (flat_length (sz := 4) (enc := Kn.dv) (fun _ => rfl) _) rfl ?_
     have e : addP l ep b = (out, true) := by rw [← i3, hge, List.drop_length]; rfl
     rw [e]
     exact TE.rettc rfl rfl rfl

end Go.Proofs.Ythidepbffhhkmaa
