import Derived.Test.YtmjokdhhniblgaaGreatYIf
import Derived.Test.YtmjokdhhniblgaaGreatYEv
/-
  The program's Add.
-/
namespace Go.Proofs.YtmjokdhhniblgaaGreat
set_option linter.unusedVariables false
set_option linter.unusedSimpArgs false
open Go.RowKit Pl
set_option maxRecDepth 100000
set_option maxHeartbeats 3200000
theorem cf82 : cfn Tryz.prog 82 = true := by kernel_rfl
theorem cf84 : cfn Tryz.prog 84 = true := by kernel_rfl
theorem cf85 : cfn Tryz.prog 85 = true := by kernel_rfl
/-- A batch's entry is laid into the list. -/
def insP (out : List Kn) (e : En) (ep : Int) : List Kn := out.take (bsI out e.nm e.ver) ++ ⟨e.nm, e.ver, e.key, ep⟩ :: out.drop (bsI out e.nm e.ver)
theorem insP_len (out : List Kn) (e : En) (ep : Int) : (insP out e ep).length = out.length + 1 := by
  have := bsI_le out e.nm e.ver
  unfold insP; simp only [List.length_append, List.length_take, List.length_cons, List.length_drop]; omega
theorem kn_take (out : List Kn) (i : Nat) (h : i ≤ out.length) : (out.take i).flatMap Kn.dv = (out.flatMap Kn.dv).take (i * 4) ∧ (out.drop i).flatMap Kn.dv = (out.flatMap Kn.dv).drop (i * 4) := by
  have e : out.flatMap Kn.dv = (out.take i).flatMap Kn.dv ++ (out.drop i).flatMap Kn.dv := by rw [← List.flatMap_append, List.take_append_drop]
  have hl : ((out.take i).flatMap Kn.dv).length = i * 4 := by rw [flat_length (sz := 4) (enc := Kn.dv) (fun _ => rfl), List.length_take, Nat.min_eq_left h]
  rw [e, ← hl, List.take_left, List.drop_left]
  exact ⟨rfl, rfl⟩
theorem insP_flat (out : List Kn) (e : En) (ep : Int) : (insP out e ep).flatMap Kn.dv = (out.flatMap Kn.dv).take (bsI out e.nm e.ver * 4) ++ Kn.dv ⟨e.nm, e.ver, e.key, ep⟩ ++ (out.flatMap Kn.dv).drop (bsI out e.nm e.ver * 4) := by
  obtain ⟨h1, h2⟩ := kn_take out _ (bsI_le out e.nm e.ver)
  unfold insP
  rw [List.flatMap_append, List.flatMap_cons, h1, h2, List.append_assoc]
def okP (out : List Kn) (e : En) (ep : Int) : Bool := !decide ((latP out e.nm).1.ep = ep) && (rightE e.nm e.ver e.key && decide (e.ver = i64w ((latP out e.nm).1.ver + 1)))
def addPGo (l : List Kn) (ep : Int) : List En → List Kn → List Kn × Bool
  | [], out => (out, true)
  | e :: r, out => if okP out e ep = true then addPGo l ep r (insP out e ep) else (l, false)
def addP (l : List Kn) (ep : Int) (b : List En) : List Kn × Bool := if ep < 1 ∨ 0 ≤ idxE ep l then (l, false) else addPGo l ep b l
theorem addPGo_step {l : List Kn} {ep : Int} {b : List En} {out : List Kn} {k : Nat} (h : k < b.length) (hok : okP out b[k] ep = true) : addPGo l ep (b.drop k) out = addPGo l ep (b.drop (k + 1)) (insP out b[k] ep) := by
  rw [← List.getElem_cons_drop h]; simp only [addPGo, if_pos hok]
theorem addPGo_stop {l : List Kn} {ep : Int} {b : List En} {out : List Kn} {k : Nat} (h : k < b.length) (hno : okP out b[k] ep = false) : addPGo l ep (b.drop k) out = (l, false) := by
  rw [← List.getElem_cons_drop h]; simp only [addPGo, hno]; rfl
theorem addp_pc (l : List Kn) (ep : Int) (b : List En) (hl : l.length ≤ 1048576) (hb : b.length ≤ 1048576) : PC Tryz.prog 50 [slT Kn.dv 4 l, .v (.int .i64 ep), slT En.dv 3 b] (.tp [slT Kn.dv 4 (addP l ep b).1, .v (.bool (addP l ep b).2)]) := by
 have hb' : b.length ≤ 140737488355328 := by omega
 refine PC.enter (fn := Tryz.f50) Tryz.func50 rfl Tryz.ntmps50 rfl (fun w0 K0 => .w ?_)
 refine .g 3 1 rfl ?_
 refine TE.frzb 4 rfl rfl rfl rfl ?_
 refine .t 1 2 rfl rfl (.co 2 (clk_po l hl) rfl) ?_
 by_cases hep : ep < 1
 ·skip
  have e : addP l ep b = (l, false) := by unfold addP; rw [if_pos (.inl hep)]
  refine .t 2 3 rfl rfl (.bv (.bool true) rfl (congrArg Value.bool (decide_eq_true hep))) ?_
  refine .g 9 3 rfl ?_
  refine TE.frz 6 (slT Kn.dv 4 l) rfl rfl (flat_length (sz := 4) (enc := Kn.dv) (fun _ => rfl) _) rfl ?_
  rw [e]
  exact .z 0 3 rfl (TE.rettc rfl rfl rfl)
 ·skip
  refine .t 2 3 rfl rfl (.bv (.bool false) rfl (congrArg Value.bool (decide_eq_false hep))) ?_
  refine .t 2 3 rfl rfl (.mkfn rfl rfl) ?_
  refine .t 0 3 rfl rfl (.cf (cont_pf l ep (by omega)) rfl) ?_
  refine .q 1 3 rfl rfl (fun h3 => ?_) (fun h3 => ?_)
  ·skip
   have hix : 0 ≤ idxE ep l := of_decide_eq_true h3
   have e : addP l ep b = (l, false) := by unfold addP; rw [if_pos (.inr hix)]
   refine .g 3 3 rfl ?_
   refine TE.frz 6 (slT Kn.dv 4 l) rfl rfl (flat_length (sz := 4) (enc := Kn.dv) (fun _ => rfl) _) rfl ?_
   rw [e]
   exact .z 0 3 rfl (TE.rettc rfl rfl rfl)
  ·skip
   have hix : ¬ 0 ≤ idxE ep l := of_decide_eq_false h3
   have hgo : addPGo l ep b l = addP l ep b := by unfold addP; rw [if_neg (fun q => q.elim hep hix)]
   refine .lo (T := Nat × List Kn) 3 3 rfl (fun x => x.1 ≤ b.length ∧ x.2.length = l.length + x.1 ∧ addPGo l ep (b.drop x.1) x.2 = addP l ep b) (fun x => b.length - x.1) [0, 1, 2] [] (fun x => [(4, .d (.el [.v (.int .i64 ep)])), (8, .ow 2 x.2.length 4), (25, .d (slT En.dv 3 b)), (26, .f (.v (.int .i64 b.length))), (27, .f (.v (.int .i64 x.1)))]) (fun x => [(2, .row 40 4 (x.2.flatMap Kn.dv))]) ((0, l)) rfl rfl ⟨Nat.zero_le _, rfl, hgo⟩ rfl rfl rfl (fun x hI => ?_)
   obtain ⟨k, out⟩ := x
   obtain ⟨i1, i2, i3⟩ := hI
   have i1 : k ≤ b.length := i1
   have i2 : out.length = l.length + k := i2
   have i3 : addPGo l ep (b.drop k) out = addP l ep b := i3
   refine .q 1 3 rfl rfl (fun h4 => ?_) (fun h4 => ?_)
   ·skip
    have hkb : k < b.length := by have q : (k : Int) < (b.length : Int) := of_decide_eq_true h4; omega
    refine .t 0 3 rfl rfl (.idx (b[k]) rfl rfl rfl rfl et23 (fun _ => rfl) (Int.natCast_nonneg k) (get_nat hkb)) ?_
    refine .t 6 3 rfl rfl (.callf rfl cf82 rfl ⟨(okA_len rfl (flat_length (sz := 4) (enc := Kn.dv) (fun _ => rfl) _)), trivial, trivial⟩ (latest_any out b[k].nm (by omega))) ?_
    by_cases hq : (latP out b[k].nm).1.ep = ep
    ·skip
     have hno : okP out b[k] ep = false := by unfold okP; rw [decide_eq_true hq]; rfl
     refine .t 9 4 rfl rfl (.bv (.bool true) rfl (congrArg Value.bool (decide_eq_true hq))) ?_
     refine .t 16 5 rfl rfl (.co 5 (clk_po l hl) rfl) ?_
     refine .g 2 6 rfl ?_
     refine TE.frz 6 (slT Kn.dv 4 l) rfl rfl (flat_length (sz := 4) (enc := Kn.dv) (fun _ => rfl) _) rfl ?_
     have e : addP l ep b = (l, false) := by rw [← i3, addPGo_stop hkb hno]
     rw [e]
     exact .z 0 6 rfl (TE.rettc rfl rfl rfl)
    ·skip
     refine .t 9 4 rfl rfl (.bv (.bool false) rfl (congrArg Value.bool (decide_eq_false hq))) ?_
     refine .t 2 6 rfl rfl (.cf (dmay_pf b[k]) rfl) ?_
     refine .case 44 rfl (fun h7 => ?_) (fun h7 => ?_)
     ·skip
      have hR : rightE b[k].nm b[k].ver b[k].key = true := h7
      refine .q 11 6 rfl rfl (fun h8 => ?_) (fun h8 => ?_)
      ·skip
       have hv : ¬ b[k].ver = i64w ((latP out b[k].nm).1.ver + 1) := by have h0 : (!decide (b[k].ver = i64w ((latP out b[k].nm).1.ver + 1))) = true := h8; simpa using h0
       have hno : okP out b[k] ep = false := by unfold okP; rw [decide_eq_false hv]; simp
       refine .t 1 6 rfl rfl (.co 6 (clk_po l hl) rfl) ?_
       refine .g 2 7 rfl ?_
       refine TE.frz 6 (slT Kn.dv 4 l) rfl rfl (flat_length (sz := 4) (enc := Kn.dv) (fun _ => rfl) _) rfl ?_
       have e : addP l ep b = (l, false) := by rw [← i3, addPGo_stop hkb hno]
       rw [e]
       exact .z 0 7 rfl (TE.rettc rfl rfl rfl)
      ·skip
       have hv : b[k].ver = i64w ((latP out b[k].nm).1.ver + 1) := by have h0 : (!decide (b[k].ver = i64w ((latP out b[k].nm).1.ver + 1))) = false := h8; simpa using h0
       have hok : okP out b[k] ep = true := by unfold okP; rw [decide_eq_false hq, hR, decide_eq_true hv]; rfl
       refine .t 5 7 rfl rfl (.callf rfl cf84 rfl ⟨(okA_len rfl (flat_length (sz := 4) (enc := Kn.dv) (fun _ => rfl) _)), trivial, trivial, trivial⟩ (place_any out b[k].nm b[k].ver (by omega))) ?_
       refine .t 9 7 rfl rfl (.bd (Kn.dv ⟨b[k].nm, b[k].ver, b[k].key, ep⟩) rfl) ?_
       refine .t 0 7 rfl rfl (.ba 7 rfl) ?_
       refine .frz 72 (.sl 4 1 (Kn.dv ⟨b[k].nm, b[k].ver, b[k].key, ep⟩)) rfl rfl rfl rfl ?_
       refine .t 0 8 rfl rfl (.calla 2 8 rfl cf85 rfl rfl rfl (ins_any (out.flatMap Kn.dv) (Kn.dv ⟨b[k].nm, b[k].ver, b[k].key, ep⟩) ((insP out b[k] ep).flatMap Kn.dv) (bsI out b[k].nm b[k].ver) out.length (flat_length (sz := 4) (enc := Kn.dv) (fun _ => rfl) _) rfl (bsI_le _ _ _) (by omega) (insP_flat _ _ _) (pl_flat pl_kn _))) ?_
       refine .g 1 9 rfl ?_
       refine TE.set 8 (.ow 8 (insP out b[k] ep).length 4) rfl (by rw [insP_len]) ?_
       refine .t 0 9 rfl rfl (.bv (.int .i64 ((k + 1 : Nat) : Int)) rfl (congrArg _ (wrap_succ hkb hb'))) ?_
       exact .rd 1 9 (swp 2 8) (swp_inj 2 8) rfl ((k + 1, insP out b[k] ep)) ⟨hkb, by show (insP out b[k] ep).length = l.length + (k + 1); rw [insP_len]; omega, by show addPGo l ep (b.drop (k + 1)) (insP out b[k] ep) = _; rw [← addPGo_step hkb hok]; exact i3⟩ (by show b.length - (k + 1) < b.length - k; omega) rfl rfl rfl
     ·skip
      have hR : rightE b[k].nm b[k].ver b[k].key = false := h7
      have hno : okP out b[k] ep = false := by unfold okP; rw [hR]; simp
      refine .t 13 9 rfl rfl (.co 9 (clk_po l hl) rfl) ?_
      refine .g 2 10 rfl ?_
      refine TE.frz 6 (slT Kn.dv 4 l) rfl rfl (flat_length (sz := 4) (enc := Kn.dv) (fun _ => rfl) _) rfl ?_
      have e : addP l ep b = (l, false) := by rw [← i3, addPGo_stop hkb hno]
      rw [e]
      exact .z 0 10 rfl (TE.rettc rfl rfl rfl)
   ·skip
    have hge : k = b.length := by have q : ¬ ((k : Int) < (b.length : Int)) := of_decide_eq_false h4; omega
    refine .g 3 10 rfl ?_
    refine TE.frz 6 (slT Kn.dv 4 out) rfl rfl (flat_length (sz := 4) (enc := Kn.dv) (fun _ => rfl) _) rfl ?_
    have e : addP l ep b = (out, true) := by rw [← i3, hge, List.drop_length]; rfl
    rw [e]
    exact .z 0 10 rfl (TE.rettc rfl rfl rfl)
end Go.Proofs.YtmjokdhhniblgaaGreat

