/-
  The seat's directory.
-/
import Derived.Test.YthidepbffhhkmaaIi
namespace Go.Proofs.Ythidepbffhhkmaa
set_option linter.unusedVariables false
set_option linter.unusedSimpArgs false
open Go.RowKit Pl

theorem ap39 : apt Try.prog 39 = some (30, 3, 32) := by kernel_rfl
theorem cf14 : cfn Try.prog 14 = true := by kernel_rfl
theorem cf20 : cfn Try.prog 20 = true := by kernel_rfl
theorem et22 : elt Try.prog 22 = some (5, 1) := by kernel_rfl
theorem is22 : isSl Try.prog 22 = some true := by kernel_rfl

/-- A batch without a name's second mention. -/
def dedG : List En → List En → List En
  | _, [] => []
  | s, e :: r => if s.any (fun d => decide (d.nm = e.nm)) = true then dedG (s ++ [e]) r else e :: dedG (s ++ [e]) r
theorem dedG_step {p : List En} {j : Nat} (h : j < p.length) : dedG (p.take j) (p.drop j) = (if (p.take j).any (fun d => decide (d.nm = p[j].nm)) = true then [] else [p[j]]) ++ dedG (p.take (j + 1)) (p.drop (j + 1)) := by
  rw [← List.getElem_cons_drop h, dedG, ← take_snoc' h]
  split <;> rfl
theorem dedG_len : ∀ (s r : List En), (dedG s r).length ≤ r.length
  | _, [] => Nat.le_refl _
  | s, e :: r => by
    have := dedG_len (s ++ [e]) r
    unfold dedG; split <;> simp <;> omega
theorem any_snoc {p : List En} {k : Nat} (h : k < p.length) (nm : List UInt8) : (p.take (k + 1)).any (fun d => decide (d.nm = nm)) = ((p.take k).any (fun d => decide (d.nm = nm)) || decide (p[k].nm = nm)) := by
  rw [take_snoc' h, List.any_append]; simp
def pendE (out : List Kn) (b : UInt8) : En := seatE b (i64w ((latR out (nameL ((b.toNat : Nat) : Int))).1.ver + 1))
/-- The directory that bytes tell: what is known, the epoch, what waits. -/
def dirG : List UInt8 → List Kn → Int → List En → List Kn
  | [], out, _, _ => out
  | b :: r, out, ep, p => if 0 < b.toNat % 3 ∧ 0 < r.length then dirG r out ep (p ++ [pendE out b]) else dirG r (addR out ep (dedG [] (p ++ [pendE out b]))).1 (i64w (ep + 1)) []
theorem dirG_on {l : List UInt8} {i : Nat} (h : i < l.length) {out : List Kn} {ep : Int} {p : List En} (h1 : 0 < l[i].toNat % 3) (h2 : i + 1 < l.length) : dirG (l.drop i) out ep p = dirG (l.drop (i + 1)) out ep (p ++ [pendE out l[i]]) := by
  rw [← List.getElem_cons_drop h, dirG, if_pos ⟨h1, by rw [List.length_drop]; omega⟩]
theorem dirG_add {l : List UInt8} {i : Nat} (h : i < l.length) {out : List Kn} {ep : Int} {p : List En} (hn : ¬ (0 < l[i].toNat % 3 ∧ i + 1 < l.length)) : dirG (l.drop i) out ep p = dirG (l.drop (i + 1)) (addR out ep (dedG [] (p ++ [pendE out l[i]]))).1 (i64w (ep + 1)) [] := by
  rw [← List.getElem_cons_drop h, dirG, if_neg (fun q => hn ⟨q.1, by have := q.2; rw [List.length_drop] at this; omega⟩)]
def dirD (l : List UInt8) : List Kn := dirG l [] 1 []

set_option maxRecDepth 100000 in
set_option maxHeartbeats 1600000 in
theorem dir_pc (l : List UInt8) (hl : l.length ≤ 1048576) : PC Try.prog 9 [slT bdv 1 l] (slT Kn.dv 4 (dirD l)) := by
  refine PC.enter (fn := Try.f9) Try.func9 rfl Try.ntmps9 rfl (fun w0 K0 => ?_)
  refine .seq ?_
  refine .region ?_
  refine .step rfl (.assign rfl rfl) ?_
  refine .nil ?_
  refine .next ?_
  refine .seq ?_
  refine .region ?_
  refine .step rfl (.assign rfl rfl) ?_
  refine .nil ?_
  refine TE.own0 3 1 32 4 rfl rfl ?_
  refine TE.frz 3 (slT Kn.dv 4 ([])) rfl rfl rfl rfl ?_
  refine .next ?_
  refine .seq ?_
  refine .region ?_
  refine .step rfl (.assign rfl rfl) ?_
  refine .nil ?_
  refine TE.setv 4 (.int .i64 1) rfl rfl ?_
  refine .next ?_
  refine .seq ?_
  refine .region ?_
  refine .step rfl (.assign rfl rfl) ?_
  refine .nil ?_
  refine TE.own0 5 2 30 3 rfl rfl ?_
  refine .next ?_
  refine .seq ?_
  refine .seq ?_
  refine .region ?_
  refine .step rfl (.assign rfl rfl) ?_
  refine .nil ?_
  refine TE.setv 6 (.int .i64 ((0 : Nat) : Int)) rfl (congrArg _ (by first | rfl | (dsimp only; first | done | rfl | omega))) ?_
  refine .next ?_
  refine .block ?_
  refine TC.loop (S := Nat × List Kn × Int × List En) (fun x => x.1 ≤ l.length ∧ x.2.1.length ≤ x.1 ∧ x.2.2.2.length ≤ x.1 ∧ x.2.1.length + x.2.2.2.length ≤ x.1 ∧ dirG (l.drop x.1) x.2.1 x.2.2.1 x.2.2.2 = dirD l) (fun x => l.length - x.1) (fun x => [(0, .d (slT bdv 1 l)), (3, .d (slT Kn.dv 4 (x.2.1))), (4, .d (.v (.int .i64 x.2.2.1))), (5, .ow 2 x.2.2.2.length 3), (6, .d (.v (.int .i64 ((x.1 : Nat) : Int))))]) (fun x => [(1, .dead), (2, .row 30 3 ((x.2.2.2).flatMap En.dv))]) ((0, [], 1, [])) ⟨Nat.zero_le _, Nat.zero_le _, Nat.zero_le _, Nat.zero_le _, rfl⟩ ⟨⟨rfl, rfl⟩, ⟨rfl, rfl⟩, ⟨rfl, rfl⟩, ⟨rfl, rfl⟩, ⟨rfl, rfl⟩, trivial⟩ ⟨.inl rfl, .inr rfl, trivial⟩ (fun x hI => ?_)
  obtain ⟨i, out, ep, p⟩ := x
  obtain ⟨i1, i2, i3, i4, i5⟩ := hI
  have i1 : i ≤ l.length := i1
  have i2 : out.length ≤ i := i2
  have i3 : p.length ≤ i := i3
  have i4 : out.length + p.length ≤ i := i4
  have i5 : dirG (l.drop i) out ep p = dirD l := i5
  refine .seq ?_
  refine .seq ?_
  refine .region ?_
  refine .step rfl (.move rfl rfl) ?_
  refine .step rfl (.move rfl rfl) ?_
  refine .step rfl (.len rfl rfl ⟨_, _, rfl⟩ is22) ?_
  refine .step rfl (.bin rfl rfl rfl rfl) ?_
  refine .nil ?_
  refine .next ?_
  refine .cond rfl (fun h1 => ?_) (fun h1 => ?_)
  ·skip
   have hi : i < l.length := by have q := of_decide_eq_true h1; (try dsimp only at q); omega
   refine .skip ?_
   refine .next ?_
   refine .seq ?_
   refine .block ?_
   refine .seq ?_
   refine .region ?_
   refine .step rfl (.move rfl rfl) ?_
   refine .step rfl (.move rfl rfl) ?_
   refine .step rfl (.move rfl rfl) ?_
   refine .step rfl (.idx (l[i]) rfl rfl rfl rfl et22 (fun _ => rfl) (Int.natCast_nonneg i) (get_nat hi)) ?_
   refine .step rfl (.lde rfl rfl rfl rfl tk5) ?_
   refine .step rfl (.callf rfl cf13 rfl ⟨trivial, trivial⟩ (name_pf l[i])) ?_
   refine .step rfl (.callf rfl cf12 rfl ⟨trivial, trivial, trivial⟩ (rlatest_any out (nameL ((l[i].toNat : Nat) : Int)) (by omega))) ?_
   refine .step rfl (.move rfl rfl) ?_
   refine .step rfl (.extract rfl rfl rfl rfl) ?_
   refine .step rfl (.extract rfl rfl rfl rfl) ?_
   refine .step rfl (.alloc 3 rfl rfl zc32 rfl) ?_
   refine .step rfl (.store rfl rfl rfl sz32 rfl rfl) ?_
   refine .step rfl (.assign rfl rfl) ?_
   refine .nil ?_
   refine .next ?_
   refine .seq ?_
   refine .draw mixed [Ro.mk _ (Eff.mk (some (29, _)) []) [], Ro.mk _ (Eff.mk (some (30, _)) []) [], Ro.mk _ (Eff.mk (some (31, _)) []) [], Ro.mk _ (Eff.mk (some (32, _)) []) [], Ro.mk _ (Eff.mk (some (33, _)) []) [], Ro.mk _ (Eff.mk (some (34, _)) []) [3], Ro.mk _ (Eff.mk (some (35, _)) []) [3], Ro.mk _ (Eff.mk (some (36, _)) []) [3], Ro.mk _ (Eff.mk (some (37, _)) []) [], Ro.mk _ (Eff.mk (some (38, _)) []) [], Ro.mk _ (Eff.mk (some (39, _)) [(4, _)]) [4], Ro.mk _ (Eff.mk (some (40, _)) [(2, .dead), (5, _)]) [2, 4, 5], Ro.mk _ (Eff.mk (some (5, _)) []) []] rfl ⟨(fun _ _ => .move rfl rfl), (fun _ _ => .move rfl rfl), (fun _ _ => .move rfl rfl), (fun _ _ => .idx (l[i]) rfl rfl rfl rfl et22 (fun _ => rfl) (Int.natCast_nonneg i) (get_nat hi)), (fun _ _ => .lde rfl rfl rfl rfl tk5), (fun _ _ => .fieldp rfl rfl rfl rfl fo32_0), (fun _ _ => .fieldp rfl rfl rfl rfl fo30_1), (fun _ _ => .ldp rfl rfl rfl rfl rfl tk3), (fun _ _ => .bin rfl rfl rfl rfl), (fun _ _ => .callf rfl cf14 rfl ⟨trivial, trivial, trivial⟩ (entry_pf l[i] (i64w ((latR out (nameL ((l[i].toNat : Nat) : Int))).1.ver + 1)))), (fun _ _ => .buildsl (ds := (pendE out l[i]).dv) 4 rfl rfl rfl ap39 zc30 rfl rfl rfl), (fun _ _ => .append 5 rfl rfl rfl (flat_length (sz := 3) (enc := En.dv) (fun _ => rfl) _) rfl ap39 rfl rfl (okA_len rfl rfl) rfl (by omega) (by omega)), (fun _ _ => .assign rfl rfl), trivial⟩ (by kernel_rfl) ?_
   refine .next ?_
   refine .seq ?_
   refine .seq ?_
   by_cases hm : 0 < l[i].toNat % 3
   ·skip
    by_cases hn2 : i + 1 < l.length
    ·skip
     refine .region ?_
     refine .step rfl (.move rfl rfl) ?_
     refine .step rfl (.move rfl rfl) ?_
     refine .step rfl (.idx (l[i]) rfl rfl rfl rfl et22 (fun _ => rfl) (Int.natCast_nonneg i) (get_nat hi)) ?_
     refine .step rfl (.lde rfl rfl rfl rfl tk5) ?_
     refine .step rfl (.rem (((l[i].toNat % 3 : Nat) : Int)) rfl rfl rfl (by decide) (by rw [Int.tmod_eq_emod_of_nonneg (by omega)]; omega)) ?_
     refine .step rfl (.binv (.bool true) rfl rfl rfl rfl (congrArg Value.bool (decide_eq_true (by omega)))) ?_
     refine .step rfl (.move rfl rfl) ?_
     refine .go 47 rfl rfl rfl rfl (.move rfl rfl) ?_
     refine .go 47 rfl rfl rfl rfl (.binv (.int .i64 ((i + 1 : Nat) : Int)) rfl rfl rfl rfl (congrArg _ (by (try dsimp only); rw [IntKind.wrap_i64]; omega))) ?_
     refine .go 47 rfl rfl rfl rfl (.move rfl rfl) ?_
     refine .go 47 rfl rfl rfl rfl (.len rfl rfl ⟨_, _, rfl⟩ is22) ?_
     refine .go 47 rfl rfl rfl rfl (.binv (.bool true) rfl rfl rfl rfl (congrArg Value.bool (decide_eq_true (by omega)))) ?_
     refine .step rfl (.pick rfl rfl rfl) ?_
     refine .nil ?_
     refine .next ?_
     refine .cond rfl (fun h4 => ?_) (fun h4 => absurd h4 (by decide))
     refine .exit ?_
     refine TE.pass ?_
     refine TE.here ?_
     refine .next ?_
     refine .region ?_
     refine .step rfl (.move rfl rfl) ?_
     refine .step rfl (.binv (.int .i64 ((i + 1 : Nat) : Int)) rfl rfl rfl rfl (congrArg _ (by (try dsimp only); rw [IntKind.wrap_i64]; omega))) ?_
     refine .step rfl (.assign rfl rfl) ?_
     refine .nil ?_
     refine TE.set 5 (.ow 5 (p ++ [pendE out l[i]]).length 3) rfl (by rw [List.length_append]; simp) ?_
     refine TE.obj 5 (.row 30 3 (((p ++ [pendE out l[i]])).flatMap En.dv)) rfl (by simp [List.flatMap_append]) ?_
     refine TE.setv 6 (.int .i64 ((i + 1 : Nat) : Int)) rfl (congrArg _ (by first | rfl | (dsimp only; first | done | rfl | omega))) ?_
     exact TE.round (swp 2 5) (swp_inj 2 5) ((i + 1, out, ep, (p ++ [pendE out l[i]]))) ⟨hi, Nat.le_succ_of_le i2, by show (p ++ [pendE out l[i]]).length ≤ i + 1; rw [List.length_append]; simp; omega, by show out.length + (p ++ [pendE out l[i]]).length ≤ i + 1; rw [List.length_append]; simp; omega, by show dirG (l.drop (i + 1)) out ep (p ++ [pendE out l[i]]) = dirD l; rw [← dirG_on hi hm hn2]; exact i5⟩ (by show l.length - (i + 1) < l.length - i; omega) ⟨⟨rfl, rfl⟩, ⟨rfl, rfl⟩, ⟨rfl, rfl⟩, ⟨rfl, rfl⟩, ⟨rfl, rfl⟩, trivial⟩ ⟨.inl rfl, .inr rfl, trivial⟩
    ·skip
     have hnot : ¬ (0 < l[i].toNat % 3 ∧ i + 1 < l.length) := fun q => hn2 q.2
     refine .region ?_
     refine .step rfl (.move rfl rfl) ?_
     refine .step rfl (.move rfl rfl) ?_
     refine .step rfl (.idx (l[i]) rfl rfl rfl rfl et22 (fun _ => rfl) (Int.natCast_nonneg i) (get_nat hi)) ?_
     refine .step rfl (.lde rfl rfl rfl rfl tk5) ?_
     refine .step rfl (.rem (((l[i].toNat % 3 : Nat) : Int)) rfl rfl rfl (by decide) (by rw [Int.tmod_eq_emod_of_nonneg (by omega)]; omega)) ?_
     refine .step rfl (.binv (.bool true) rfl rfl rfl rfl (congrArg Value.bool (decide_eq_true (by omega)))) ?_
     refine .step rfl (.move rfl rfl) ?_
     refine .go 47 rfl rfl rfl rfl (.move rfl rfl) ?_
     refine .go 47 rfl rfl rfl rfl (.binv (.int .i64 ((i + 1 : Nat) : Int)) rfl rfl rfl rfl (congrArg _ (by (try dsimp only); rw [IntKind.wrap_i64]; omega))) ?_
     refine .go 47 rfl rfl rfl rfl (.move rfl rfl) ?_
     refine .go 47 rfl rfl rfl rfl (.len rfl rfl ⟨_, _, rfl⟩ is22) ?_
     refine .go 47 rfl rfl rfl rfl (.binv (.bool false) rfl rfl rfl rfl (congrArg Value.bool (decide_eq_false (by omega)))) ?_
     refine .step rfl (.pick rfl rfl rfl) ?_
     refine .nil ?_
     obtain ⟨q, hq⟩ : ∃ q, q = (p ++ [pendE out l[i]]) := ⟨_, rfl⟩
     have hql : q.length ≤ i + 1 := by rw [hq, List.length_append]; simp; omega
     have hdl : (dedG [] q).length ≤ 1048576 := by have := dedG_len [] q; omega
     refine TE.frz 5 (slT En.dv 3 (q)) rfl rfl (by simp [flat_length (sz := 3) (enc := En.dv) (fun _ => rfl), en_len]; omega) (by rw [hq]; show DV.sl _ _ _ = DV.sl _ _ _; rw [List.length_append, List.flatMap_append]; rfl) ?_
     refine .next ?_
     refine .cond rfl (fun h5 => absurd h5 (by decide)) (fun h5 => ?_)
     refine .skip ?_
     refine .next ?_
     refine .seq ?_
     refine .region ?_
     refine .step rfl (.assign rfl rfl) ?_
     refine .nil ?_
     refine TE.own0 9 6 30 3 rfl rfl ?_
     refine .next ?_
     refine .seq ?_
     refine .seq ?_
     refine .region ?_
     refine .step rfl (.assign rfl rfl) ?_
     refine .nil ?_
     refine TE.setv 10 (.int .i64 ((0 : Nat) : Int)) rfl (congrArg _ (by first | rfl | (dsimp only; first | done | rfl | omega))) ?_
     refine .next ?_
     refine .block ?_
     refine TC.loop (S := Nat × List En) (fun y => y.1 ≤ q.length ∧ y.2.length ≤ y.1 ∧ y.2 ++ dedG (q.take y.1) (q.drop y.1) = dedG [] q) (fun y => q.length - y.1) (fun y => [(0, .d (slT bdv 1 l)), (3, .d (slT Kn.dv 4 (out))), (4, .d (.v (.int .i64 ep))), (5, .d (slT En.dv 3 (q))), (6, .d (.v (.int .i64 ((i : Nat) : Int)))), (9, .ow 6 y.2.length 3), (10, .d (.v (.int .i64 ((y.1 : Nat) : Int))))]) (fun y => [(1, .dead), (2, .dead), (3, .dead), (4, .dead), (5, .dead), (6, .row 30 3 ((y.2).flatMap En.dv))]) ((0, [])) ⟨Nat.zero_le _, Nat.zero_le _, rfl⟩ ⟨⟨rfl, rfl⟩, ⟨rfl, rfl⟩, ⟨rfl, rfl⟩, ⟨rfl, rfl⟩, ⟨rfl, rfl⟩, ⟨rfl, rfl⟩, ⟨rfl, rfl⟩, trivial⟩ ⟨.inl rfl, .inl rfl, .inl rfl, .inl rfl, .inl rfl, .inr rfl, trivial⟩ (fun y hI => ?_)
     obtain ⟨j, one⟩ := y
     obtain ⟨j1, j2, j3⟩ := hI
     have j1 : j ≤ q.length := j1
     have j2 : one.length ≤ j := j2
     have j3 : one ++ dedG (q.take j) (q.drop j) = dedG [] q := j3
     refine .seq ?_
     refine .seq ?_
     refine .region ?_
     refine .step rfl (.move rfl rfl) ?_
     refine .step rfl (.move rfl rfl) ?_
     refine .step rfl (.len rfl rfl ⟨_, _, rfl⟩ is39) ?_
     refine .step rfl (.bin rfl rfl rfl rfl) ?_
     refine .nil ?_
     refine .next ?_
     refine .cond rfl (fun h6 => ?_) (fun h6 => ?_)
     ·skip
      have hj : j < q.length := by have q := of_decide_eq_true h6; (try dsimp only at q); omega
      refine .skip ?_
      refine .next ?_
      refine .seq ?_
      refine .block ?_
      refine .seq ?_
      refine .region ?_
      refine .step rfl (.assign rfl rfl) ?_
      refine .nil ?_
      refine TE.setv 11 (.bool false) rfl rfl ?_
      refine .next ?_
      refine .seq ?_
      refine .seq ?_
      refine .region ?_
      refine .step rfl (.assign rfl rfl) ?_
      refine .nil ?_
      refine TE.setv 12 (.int .i64 ((0 : Nat) : Int)) rfl (congrArg _ (by first | rfl | (dsimp only; first | done | rfl | omega))) ?_
      refine .next ?_
      refine .block ?_
      refine TC.loop (S := Nat × Bool) (fun z => z.1 ≤ j ∧ z.2 = (q.take (z.1)).any (fun d => decide (d.nm = q[j].nm))) (fun z => j - z.1) (fun z => [(0, .d (slT bdv 1 l)), (3, .d (slT Kn.dv 4 (out))), (4, .d (.v (.int .i64 ep))), (5, .d (slT En.dv 3 (q))), (6, .d (.v (.int .i64 ((i : Nat) : Int)))), (9, .ow 6 one.length 3), (10, .d (.v (.int .i64 ((j : Nat) : Int)))), (11, .d (.v (.bool z.2))), (12, .d (.v (.int .i64 ((z.1 : Nat) : Int))))]) (fun z => [(1, .dead), (2, .dead), (3, .dead), (4, .dead), (5, .dead), (6, .row 30 3 ((one).flatMap En.dv))]) ((0, false)) ⟨Nat.zero_le _, rfl⟩ ⟨⟨rfl, rfl⟩, ⟨rfl, rfl⟩, ⟨rfl, rfl⟩, ⟨rfl, rfl⟩, ⟨rfl, rfl⟩, ⟨rfl, rfl⟩, ⟨rfl, rfl⟩, ⟨rfl, rfl⟩, ⟨rfl, rfl⟩, trivial⟩ ⟨.inl rfl, .inl rfl, .inl rfl, .inl rfl, .inl rfl, .inr rfl, trivial⟩ (fun z hI => ?_)
      obtain ⟨k, tk⟩ := z
      obtain ⟨k1, k2⟩ := hI
      have k1 : k ≤ j := k1
      have k2 : tk = (q.take (k)).any (fun d => decide (d.nm = q[j].nm)) := k2
      refine .seq ?_
      refine .seq ?_
      refine .region ?_
      refine .step rfl (.move rfl rfl) ?_
      refine .step rfl (.move rfl rfl) ?_
      refine .step rfl (.bin rfl rfl rfl rfl) ?_
      refine .nil ?_
      refine .next ?_
      refine .cond rfl (fun h7 => ?_) (fun h7 => ?_)
      ·skip
       have hkj : k < j := by have q := of_decide_eq_true h7; (try dsimp only at q); omega
       have hkq : k < q.length := by omega
       refine .skip ?_
       refine .next ?_
       refine .seq ?_
       refine .block ?_
       cases tk with
       | true =>
        refine .draw mixed [Ro.mk _ (Eff.mk (some (65, _)) []) [], Ro.mk _ (Eff.mk (some (66, _)) []) [], Ro.mk _ (Eff.mk (some (67, _)) []) [], Ro.mk _ (Eff.mk (some (68, _)) []) [], Ro.mk _ (Eff.mk (some (69, _)) []) [], Ro.mk _ (Eff.mk (some (70, _)) []) [], Ro.mk _ (Eff.mk (some (71, _)) []) [], Ro.mk _ (Eff.mk (some (72, _)) []) [], Ro.mk _ (Eff.mk (some (73, _)) []) [], Ro.mk _ (Eff.mk (some (74, _)) []) [], Ro.mk _ (Eff.mk (some (75, _)) []) [], Ro.mk _ (Eff.mk (some (76, _)) []) [], Ro.mk _ (Eff.mk (some (77, _)) []) [], Ro.mk _ (Eff.mk (some (78, _)) []) [], Ro.mk _ (Eff.mk (some (11, _)) []) []] rfl ⟨(fun _ _ => .move rfl rfl), (fun _ _ => .move rfl rfl), (.inr ⟨66, _, rfl, rfl, rfl, rfl, 67, rfl, rfl, rfl⟩), (.inr ⟨66, _, rfl, rfl, rfl, rfl, 68, rfl, rfl, rfl⟩), (.inr ⟨66, _, rfl, rfl, rfl, rfl, 69, rfl, rfl, rfl⟩), (.inr ⟨66, _, rfl, rfl, rfl, rfl, 70, rfl, rfl, rfl⟩), (.inr ⟨66, _, rfl, rfl, rfl, rfl, 71, rfl, rfl, rfl⟩), (.inr ⟨66, _, rfl, rfl, rfl, rfl, 72, rfl, rfl, rfl⟩), (.inr ⟨66, _, rfl, rfl, rfl, rfl, 73, rfl, rfl, rfl⟩), (.inr ⟨66, _, rfl, rfl, rfl, rfl, 74, rfl, rfl, rfl⟩), (.inr ⟨66, _, rfl, rfl, rfl, rfl, 75, rfl, rfl, rfl⟩), (.inr ⟨66, _, rfl, rfl, rfl, rfl, 76, rfl, rfl, rfl⟩), (.inr ⟨66, _, rfl, rfl, rfl, rfl, 77, rfl, rfl, rfl⟩), (fun _ _ => .pick rfl rfl rfl), (fun _ _ => .assign rfl rfl), trivial⟩ (by kernel_rfl) ?_
        refine TE.blk ?_
        refine .next ?_
        refine .region ?_
        refine .step rfl (.move rfl rfl) ?_
        refine .step rfl (.binv (.int .i64 ((k + 1 : Nat) : Int)) rfl rfl rfl rfl (congrArg _ (by (try dsimp only); rw [IntKind.wrap_i64]; omega))) ?_
        refine .step rfl (.assign rfl rfl) ?_
        refine .nil ?_
        refine TE.setv 11 (.bool ((q.take (k + 1)).any (fun d => decide (d.nm = q[j].nm)))) rfl (congrArg Value.bool (by rw [any_snoc hkq, ← k2]; first | rfl | simp)) ?_
        refine TE.setv 12 (.int .i64 ((k + 1 : Nat) : Int)) rfl (congrArg _ (by first | rfl | (dsimp only; first | done | rfl | omega))) ?_
        exact TE.round id (fun _ _ e => e) ((k + 1, (q.take (k + 1)).any (fun d => decide (d.nm = q[j].nm)))) ⟨hkj, rfl⟩ (by show j - (k + 1) < j - k; omega) ⟨⟨rfl, rfl⟩, ⟨rfl, rfl⟩, ⟨rfl, rfl⟩, ⟨rfl, rfl⟩, ⟨rfl, rfl⟩, ⟨rfl, rfl⟩, ⟨rfl, rfl⟩, ⟨rfl, rfl⟩, ⟨rfl, rfl⟩, trivial⟩ ⟨.inl rfl, .inl rfl, .inl rfl, .inl rfl, .inl rfl, .inr rfl, trivial⟩
       | false =>
        refine .draw mixed [Ro.mk _ (Eff.mk (some (65, _)) []) [], Ro.mk _ (Eff.mk (some (66, _)) []) [], Ro.mk _ (Eff.mk (some (67, _)) []) [], Ro.mk _ (Eff.mk (some (68, _)) []) [], Ro.mk _ (Eff.mk (some (69, _)) []) [], Ro.mk _ (Eff.mk (some (70, _)) []) [], Ro.mk _ (Eff.mk (some (71, _)) []) [], Ro.mk _ (Eff.mk (some (72, _)) []) [], Ro.mk _ (Eff.mk (some (73, _)) []) [], Ro.mk _ (Eff.mk (some (74, _)) []) [], Ro.mk _ (Eff.mk (some (75, _)) []) [], Ro.mk _ (Eff.mk (some (76, _)) []) [], Ro.mk _ (Eff.mk (some (77, _)) []) [], Ro.mk _ (Eff.mk (some (78, _)) []) [], Ro.mk _ (Eff.mk (some (11, _)) []) []] rfl ⟨(fun _ _ => .move rfl rfl), (fun _ _ => .move rfl rfl), (.inr ⟨66, _, rfl, rfl, rfl, rfl, fun _ _ => .move rfl rfl⟩), (.inr ⟨66, _, rfl, rfl, rfl, rfl, fun _ _ => .move rfl rfl⟩), (.inr ⟨66, _, rfl, rfl, rfl, rfl, fun _ _ => .idx (q[k]) rfl rfl rfl rfl et39 (fun _ => rfl) (Int.natCast_nonneg _) (get_nat hkq)⟩), (.inr ⟨66, _, rfl, rfl, rfl, rfl, fun _ _ => .fielde rfl rfl rfl fo30_0⟩), (.inr ⟨66, _, rfl, rfl, rfl, rfl, fun _ _ => .lde rfl rfl rfl rfl tk9⟩), (.inr ⟨66, _, rfl, rfl, rfl, rfl, fun _ _ => .move rfl rfl⟩), (.inr ⟨66, _, rfl, rfl, rfl, rfl, fun _ _ => .move rfl rfl⟩), (.inr ⟨66, _, rfl, rfl, rfl, rfl, fun _ _ => .idx (q[j]) rfl rfl rfl rfl et39 (fun _ => rfl) (Int.natCast_nonneg _) (get_nat hj)⟩), (.inr ⟨66, _, rfl, rfl, rfl, rfl, fun _ _ => .fielde rfl rfl rfl fo30_0⟩), (.inr ⟨66, _, rfl, rfl, rfl, rfl, fun _ _ => .lde rfl rfl rfl rfl tk9⟩), (.inr ⟨66, _, rfl, rfl, rfl, rfl, fun _ _ => .bin rfl rfl rfl rfl⟩), (fun _ _ => .pick rfl rfl rfl), (fun _ _ => .assign rfl rfl), trivial⟩ (by kernel_rfl) ?_
        refine TE.blk ?_
        refine .next ?_
        refine .region ?_
        refine .step rfl (.move rfl rfl) ?_
        refine .step rfl (.binv (.int .i64 ((k + 1 : Nat) : Int)) rfl rfl rfl rfl (congrArg _ (by (try dsimp only); rw [IntKind.wrap_i64]; omega))) ?_
        refine .step rfl (.assign rfl rfl) ?_
        refine .nil ?_
        refine TE.setv 11 (.bool ((q.take (k + 1)).any (fun d => decide (d.nm = q[j].nm)))) rfl (congrArg Value.bool (by rw [any_snoc hkq, ← k2]; first | rfl | simp)) ?_
        refine TE.setv 12 (.int .i64 ((k + 1 : Nat) : Int)) rfl (congrArg _ (by first | rfl | (dsimp only; first | done | rfl | omega))) ?_
        exact TE.round id (fun _ _ e => e) ((k + 1, (q.take (k + 1)).any (fun d => decide (d.nm = q[j].nm)))) ⟨hkj, rfl⟩ (by show j - (k + 1) < j - k; omega) ⟨⟨rfl, rfl⟩, ⟨rfl, rfl⟩, ⟨rfl, rfl⟩, ⟨rfl, rfl⟩, ⟨rfl, rfl⟩, ⟨rfl, rfl⟩, ⟨rfl, rfl⟩, ⟨rfl, rfl⟩, ⟨rfl, rfl⟩, trivial⟩ ⟨.inl rfl, .inl rfl, .inl rfl, .inl rfl, .inl rfl, .inr rfl, trivial⟩
      ·skip
       have hkj : ¬ (k < j) := by have q := of_decide_eq_false h7; (try dsimp only at q); omega
       have k3 : tk = (q.take (j)).any (fun d => decide (d.nm = q[j].nm)) := by rw [k2, show k = j by omega]
       refine .exit ?_
       refine TE.pass ?_
       refine TE.pass ?_
       refine TE.here ?_
       refine .next ?_
       refine .seq ?_
       refine .region ?_
       refine .step rfl (.move rfl rfl) ?_
       refine .step rfl (.un rfl rfl rfl) ?_
       refine .nil ?_
       refine .next ?_
       refine .cond rfl (fun h9 => ?_) (fun h9 => ?_)
       ·skip
        have htk : ¬ (q.take (j)).any (fun d => decide (d.nm = q[j].nm)) = true := by rw [← k3]; simpa using h9
        refine .region ?_
        refine .step rfl (.move rfl rfl) ?_
        refine .step rfl (.move rfl rfl) ?_
        refine .step rfl (.move rfl rfl) ?_
        refine .step rfl (.idx (q[j]) rfl rfl rfl rfl et39 (fun _ => rfl) (Int.natCast_nonneg _) (get_nat hj)) ?_
        refine .step rfl (.ldem (ds := q[j].dv) rfl rfl rfl rfl rfl tk30) ?_
        refine .step rfl (.buildsl (ds := q[j].dv) 7 rfl rfl rfl ap39 zc30 rfl rfl rfl) ?_
        refine .step rfl (.append 8 rfl rfl rfl (flat_length (sz := 3) (enc := En.dv) (fun _ => rfl) _) rfl ap39 rfl rfl (okA_len rfl rfl) rfl (by omega) (by omega)) ?_
        refine .step rfl (.assign rfl rfl) ?_
        refine .nil ?_
        refine TE.blk ?_
        refine .next ?_
        refine .region ?_
        refine .step rfl (.move rfl rfl) ?_
        refine .step rfl (.binv (.int .i64 ((j + 1 : Nat) : Int)) rfl rfl rfl rfl (congrArg _ (by (try dsimp only); rw [IntKind.wrap_i64]; omega))) ?_
        refine .step rfl (.assign rfl rfl) ?_
        refine .nil ?_
        refine TE.set 9 (.ow 8 (one ++ [q[j]]).length 3) rfl (by rw [List.length_append]; rfl) ?_
        refine TE.obj 8 (.row 30 3 ((one ++ [q[j]]).flatMap En.dv)) rfl (by simp [List.flatMap_append]) ?_
        refine TE.setv 10 (.int .i64 ((j + 1 : Nat) : Int)) rfl (congrArg _ (by first | rfl | (dsimp only; first | done | rfl | omega))) ?_
        exact TE.round (swp 6 8) (swp_inj 6 8) ((j + 1, one ++ [q[j]])) ⟨hj, by show (one ++ [q[j]]).length ≤ j + 1; rw [List.length_append]; simp; omega, by show (one ++ [q[j]]) ++ dedG (q.take (j + 1)) (q.drop (j + 1)) = _; rw [← j3, dedG_step hj, if_neg htk, List.append_assoc]⟩ (by show q.length - (j + 1) < q.length - j; omega) ⟨⟨rfl, rfl⟩, ⟨rfl, rfl⟩, ⟨rfl, rfl⟩, ⟨rfl, rfl⟩, ⟨rfl, rfl⟩, ⟨rfl, rfl⟩, ⟨rfl, rfl⟩, trivial⟩ ⟨.inl rfl, .inl rfl, .inl rfl, .inl rfl, .inl rfl, .inr rfl, trivial⟩
       ·skip
        have htk : (q.take (j)).any (fun d => decide (d.nm = q[j].nm)) = true := by rw [← k3]; simpa using h9
        refine .skip ?_
        refine TE.blk ?_
        refine .next ?_
        refine .region ?_
        refine .step rfl (.move rfl rfl) ?_
        refine .step rfl (.binv (.int .i64 ((j + 1 : Nat) : Int)) rfl rfl rfl rfl (congrArg _ (by (try dsimp only); rw [IntKind.wrap_i64]; omega))) ?_
        refine .step rfl (.assign rfl rfl) ?_
        refine .nil ?_
        refine TE.setv 10 (.int .i64 ((j + 1 : Nat) : Int)) rfl (congrArg _ (by first | rfl | (dsimp only; first | done | rfl | omega))) ?_
        exact TE.round id (fun _ _ e => e) ((j + 1, one)) ⟨hj, Nat.le_succ_of_le j2, by show one ++ dedG (q.take (j + 1)) (q.drop (j + 1)) = _; rw [← j3, dedG_step hj, if_pos htk]; rfl⟩ (by show q.length - (j + 1) < q.length - j; omega) ⟨⟨rfl, rfl⟩, ⟨rfl, rfl⟩, ⟨rfl, rfl⟩, ⟨rfl, rfl⟩, ⟨rfl, rfl⟩, ⟨rfl, rfl⟩, ⟨rfl, rfl⟩, trivial⟩ ⟨.inl rfl, .inl rfl, .inl rfl, .inl rfl, .inl rfl, .inr rfl, trivial⟩
     ·skip
      have hj : ¬ (j < q.length) := by have q := of_decide_eq_false h6; (try dsimp only at q); omega
      have e1 : one = dedG [] q := by rw [← j3, List.drop_eq_nil_of_le (by omega)]; simp [dedG]
      refine .exit ?_
      refine TE.pass ?_
      refine TE.pass ?_
      refine TE.here ?_
      refine .next ?_
      refine .seq ?_
      subst e1
      refine TC.frz 9 (slT En.dv 3 (dedG [] q)) rfl rfl (flat_length (sz := 3) (enc := En.dv) (fun _ => rfl) _) rfl ?_
      refine .region ?_
      refine .step rfl (.move rfl rfl) ?_
      refine .step rfl (.move rfl rfl) ?_
      refine .step rfl (.move rfl rfl) ?_
      refine .step rfl (.callc rfl cf20 rfl (add_pc out ep (dedG [] q) (by omega) hdl)) ?_
      refine .step rfl (.move rfl rfl) ?_
      refine .step rfl (.extract rfl rfl rfl rfl) ?_
      refine .step rfl (.extract rfl rfl rfl rfl) ?_
      refine .step rfl (.assign rfl rfl) ?_
      refine .nil ?_
      refine .next ?_
      refine .region ?_
      refine .step rfl (.move rfl rfl) ?_
      refine .step rfl (.bin rfl rfl rfl rfl) ?_
      refine .step rfl (.assign rfl rfl) ?_
      refine .step rfl (.assign rfl rfl) ?_
      refine .nil ?_
      refine TE.setv 4 (.int .i64 (i64w (ep + 1))) rfl rfl ?_
      refine TE.own0 5 9 30 3 rfl rfl ?_
      subst hq
      refine TE.blk ?_
      refine .next ?_
      refine .region ?_
      refine .step rfl (.move rfl rfl) ?_
      refine .step rfl (.binv (.int .i64 ((i + 1 : Nat) : Int)) rfl rfl rfl rfl (congrArg _ (by (try dsimp only); rw [IntKind.wrap_i64]; omega))) ?_
      refine .step rfl (.assign rfl rfl) ?_
      refine .nil ?_
      refine TE.setv 6 (.int .i64 ((i + 1 : Nat) : Int)) rfl (congrArg _ (by first | rfl | (dsimp only; first | done | rfl | omega))) ?_
      exact TE.round (swp 2 9) (swp_inj 2 9) ((i + 1, (addR out ep (dedG [] (p ++ [pendE out l[i]]))).1, i64w (ep + 1), [])) ⟨hi, by show (addR out ep (dedG [] (p ++ [pendE out l[i]]))).1.length ≤ i + 1; have q := addR_len out ep (dedG [] (p ++ [pendE out l[i]])); have q2 := dedG_len [] (p ++ [pendE out l[i]]); rw [List.length_append] at q2; simp at q2; omega, Nat.zero_le _, by show (addR out ep (dedG [] (p ++ [pendE out l[i]]))).1.length + 0 ≤ i + 1; have q := addR_len out ep (dedG [] (p ++ [pendE out l[i]])); have q2 := dedG_len [] (p ++ [pendE out l[i]]); rw [List.length_append] at q2; simp at q2; omega, by show dirG (l.drop (i + 1)) (addR out ep (dedG [] (p ++ [pendE out l[i]]))).1 (i64w (ep + 1)) [] = dirD l; rw [← dirG_add hi hnot]; exact i5⟩ (by show l.length - (i + 1) < l.length - i; omega) ⟨⟨rfl, rfl⟩, ⟨rfl, rfl⟩, ⟨rfl, rfl⟩, ⟨rfl, rfl⟩, ⟨rfl, rfl⟩, trivial⟩ ⟨.inl rfl, .inr rfl, trivial⟩
   ·skip
    have hnot : ¬ (0 < l[i].toNat % 3 ∧ i + 1 < l.length) := fun q => hm q.1
    refine .region ?_
    refine .step rfl (.move rfl rfl) ?_
    refine .step rfl (.move rfl rfl) ?_
    refine .step rfl (.idx (l[i]) rfl rfl rfl rfl et22 (fun _ => rfl) (Int.natCast_nonneg i) (get_nat hi)) ?_
    refine .step rfl (.lde rfl rfl rfl rfl tk5) ?_
    refine .step rfl (.rem (((l[i].toNat % 3 : Nat) : Int)) rfl rfl rfl (by decide) (by rw [Int.tmod_eq_emod_of_nonneg (by omega)]; omega)) ?_
    refine .step rfl (.binv (.bool false) rfl rfl rfl rfl (congrArg Value.bool (decide_eq_false (by omega)))) ?_
    refine .step rfl (.move rfl rfl) ?_
    refine .no 47 rfl rfl rfl rfl rfl rfl rfl ?_
    refine .no 47 rfl rfl rfl rfl rfl rfl rfl ?_
    refine .no 47 rfl rfl rfl rfl rfl rfl rfl ?_
    refine .no 47 rfl rfl rfl rfl rfl rfl rfl ?_
    refine .no 47 rfl rfl rfl rfl rfl rfl rfl ?_
    refine .step rfl (.pick rfl rfl rfl) ?_
    refine .nil ?_
    obtain ⟨q, hq⟩ : ∃ q, q = (p ++ [pendE out l[i]]) := ⟨_, rfl⟩
    have hql : q.length ≤ i + 1 := by rw [hq, List.length_append]; simp; omega
    have hdl : (dedG [] q).length ≤ 1048576 := by have := dedG_len [] q; omega
    refine TE.frz 5 (slT En.dv 3 (q)) rfl rfl (by simp [flat_length (sz := 3) (enc := En.dv) (fun _ => rfl), en_len]; omega) (by rw [hq]; show DV.sl _ _ _ = DV.sl _ _ _; rw [List.length_append, List.flatMap_append]; rfl) ?_
    refine .next ?_
    refine .cond rfl (fun h10 => absurd h10 (by decide)) (fun h10 => ?_)
    refine .skip ?_
    refine .next ?_
    refine .seq ?_
    refine .region ?_
    refine .step rfl (.assign rfl rfl) ?_
    refine .nil ?_
    refine TE.own0 9 10 30 3 rfl rfl ?_
    refine .next ?_
    refine .seq ?_
    refine .seq ?_
    refine .region ?_
    refine .step rfl (.assign rfl rfl) ?_
    refine .nil ?_
    refine TE.setv 10 (.int .i64 ((0 : Nat) : Int)) rfl (congrArg _ (by first | rfl | (dsimp only; first | done | rfl | omega))) ?_
    refine .next ?_
    refine .block ?_
    refine TC.loop (S := Nat × List En) (fun y => y.1 ≤ q.length ∧ y.2.length ≤ y.1 ∧ y.2 ++ dedG (q.take y.1) (q.drop y.1) = dedG [] q) (fun y => q.length - y.1) (fun y => [(0, .d (slT bdv 1 l)), (3, .d (slT Kn.dv 4 (out))), (4, .d (.v (.int .i64 ep))), (5, .d (slT En.dv 3 (q))), (6, .d (.v (.int .i64 ((i : Nat) : Int)))), (9, .ow 10 y.2.length 3), (10, .d (.v (.int .i64 ((y.1 : Nat) : Int))))]) (fun y => [(1, .dead), (2, .dead), (3, .dead), (4, .dead), (5, .dead), (10, .row 30 3 ((y.2).flatMap En.dv))]) ((0, [])) ⟨Nat.zero_le _, Nat.zero_le _, rfl⟩ ⟨⟨rfl, rfl⟩, ⟨rfl, rfl⟩, ⟨rfl, rfl⟩, ⟨rfl, rfl⟩, ⟨rfl, rfl⟩, ⟨rfl, rfl⟩, ⟨rfl, rfl⟩, trivial⟩ ⟨.inl rfl, .inl rfl, .inl rfl, .inl rfl, .inl rfl, .inr rfl, trivial⟩ (fun y hI => ?_)
    obtain ⟨j, one⟩ := y
    obtain ⟨j1, j2, j3⟩ := hI
    have j1 : j ≤ q.length := j1
    have j2 : one.length ≤ j := j2
    have j3 : one ++ dedG (q.take j) (q.drop j) = dedG [] q := j3
    refine .seq ?_
    refine .seq ?_
    refine .region ?_
    refine .step rfl (.move rfl rfl) ?_
    refine .step rfl (.move rfl rfl) ?_
    refine .step rfl (.len rfl rfl ⟨_, _, rfl⟩ is39) ?_
    refine .step rfl (.bin rfl rfl rfl rfl) ?_
    refine .nil ?_
    refine .next ?_
    refine .cond rfl (fun h11 => ?_) (fun h11 => ?_)
    ·skip
     have hj : j < q.length := by have q := of_decide_eq_true h11; (try dsimp only at q); omega
     refine .skip ?_
     refine .next ?_
     refine .seq ?_
     refine .block ?_
     refine .seq ?_
     refine .region ?_
     refine .step rfl (.assign rfl rfl) ?_
     refine .nil ?_
     refine TE.setv 11 (.bool false) rfl rfl ?_
     refine .next ?_
     refine .seq ?_
     refine .seq ?_
     refine .region ?_
     refine .step rfl (.assign rfl rfl) ?_
     refine .nil ?_
     refine TE.setv 12 (.int .i64 ((0 : Nat) : Int)) rfl (congrArg _ (by first | rfl | (dsimp only; first | done | rfl | omega))) ?_
     refine .next ?_
     refine .block ?_
     refine TC.loop (S := Nat × Bool) (fun z => z.1 ≤ j ∧ z.2 = (q.take (z.1)).any (fun d => decide (d.nm = q[j].nm))) (fun z => j - z.1) (fun z => [(0, .d (slT bdv 1 l)), (3, .d (slT Kn.dv 4 (out))), (4, .d (.v (.int .i64 ep))), (5, .d (slT En.dv 3 (q))), (6, .d (.v (.int .i64 ((i : Nat) : Int)))), (9, .ow 10 one.length 3), (10, .d (.v (.int .i64 ((j : Nat) : Int)))), (11, .d (.v (.bool z.2))), (12, .d (.v (.int .i64 ((z.1 : Nat) : Int))))]) (fun z => [(1, .dead), (2, .dead), (3, .dead), (4, .dead), (5, .dead), (10, .row 30 3 ((one).flatMap En.dv))]) ((0, false)) ⟨Nat.zero_le _, rfl⟩ ⟨⟨rfl, rfl⟩, ⟨rfl, rfl⟩, ⟨rfl, rfl⟩, ⟨rfl, rfl⟩, ⟨rfl, rfl⟩, ⟨rfl, rfl⟩, ⟨rfl, rfl⟩, ⟨rfl, rfl⟩, ⟨rfl, rfl⟩, trivial⟩ ⟨.inl rfl, .inl rfl, .inl rfl, .inl rfl, .inl rfl, .inr rfl, trivial⟩ (fun z hI => ?_)
     obtain ⟨k, tk⟩ := z
     obtain ⟨k1, k2⟩ := hI
     have k1 : k ≤ j := k1
     have k2 : tk = (q.take (k)).any (fun d => decide (d.nm = q[j].nm)) := k2
     refine .seq ?_
     refine .seq ?_
     refine .region ?_
     refine .step rfl (.move rfl rfl) ?_
     refine .step rfl (.move rfl rfl) ?_
     refine .step rfl (.bin rfl rfl rfl rfl) ?_
     refine .nil ?_
     refine .next ?_
     refine .cond rfl (fun h12 => ?_) (fun h12 => ?_)
     ·skip
      have hkj : k < j := by have q := of_decide_eq_true h12; (try dsimp only at q); omega
      have hkq : k < q.length := by omega
      refine .skip ?_
      refine .next ?_
      refine .seq ?_
      refine .block ?_
      cases tk with
      | true =>
       refine .draw mixed [Ro.mk _ (Eff.mk (some (65, _)) []) [], Ro.mk _ (Eff.mk (some (66, _)) []) [], Ro.mk _ (Eff.mk (some (67, _)) []) [], Ro.mk _ (Eff.mk (some (68, _)) []) [], Ro.mk _ (Eff.mk (some (69, _)) []) [], Ro.mk _ (Eff.mk (some (70, _)) []) [], Ro.mk _ (Eff.mk (some (71, _)) []) [], Ro.mk _ (Eff.mk (some (72, _)) []) [], Ro.mk _ (Eff.mk (some (73, _)) []) [], Ro.mk _ (Eff.mk (some (74, _)) []) [], Ro.mk _ (Eff.mk (some (75, _)) []) [], Ro.mk _ (Eff.mk (some (76, _)) []) [], Ro.mk _ (Eff.mk (some (77, _)) []) [], Ro.mk _ (Eff.mk (some (78, _)) []) [], Ro.mk _ (Eff.mk (some (11, _)) []) []] rfl ⟨(fun _ _ => .move rfl rfl), (fun _ _ => .move rfl rfl), (.inr ⟨66, _, rfl, rfl, rfl, rfl, 67, rfl, rfl, rfl⟩), (.inr ⟨66, _, rfl, rfl, rfl, rfl, 68, rfl, rfl, rfl⟩), (.inr ⟨66, _, rfl, rfl, rfl, rfl, 69, rfl, rfl, rfl⟩), (.inr ⟨66, _, rfl, rfl, rfl, rfl, 70, rfl, rfl, rfl⟩), (.inr ⟨66, _, rfl, rfl, rfl, rfl, 71, rfl, rfl, rfl⟩), (.inr ⟨66, _, rfl, rfl, rfl, rfl, 72, rfl, rfl, rfl⟩), (.inr ⟨66, _, rfl, rfl, rfl, rfl, 73, rfl, rfl, rfl⟩), (.inr ⟨66, _, rfl, rfl, rfl, rfl, 74, rfl, rfl, rfl⟩), (.inr ⟨66, _, rfl, rfl, rfl, rfl, 75, rfl, rfl, rfl⟩), (.inr ⟨66, _, rfl, rfl, rfl, rfl, 76, rfl, rfl, rfl⟩), (.inr ⟨66, _, rfl, rfl, rfl, rfl, 77, rfl, rfl, rfl⟩), (fun _ _ => .pick rfl rfl rfl), (fun _ _ => .assign rfl rfl), trivial⟩ (by kernel_rfl) ?_
       refine TE.blk ?_
       refine .next ?_
       refine .region ?_
       refine .step rfl (.move rfl rfl) ?_
       refine .step rfl (.binv (.int .i64 ((k + 1 : Nat) : Int)) rfl rfl rfl rfl (congrArg _ (by (try dsimp only); rw [IntKind.wrap_i64]; omega))) ?_
       refine .step rfl (.assign rfl rfl) ?_
       refine .nil ?_
       refine TE.setv 11 (.bool ((q.take (k + 1)).any (fun d => decide (d.nm = q[j].nm)))) rfl (congrArg Value.bool (by rw [any_snoc hkq, ← k2]; first | rfl | simp)) ?_
       refine TE.setv 12 (.int .i64 ((k + 1 : Nat) : Int)) rfl (congrArg _ (by first | rfl | (dsimp only; first | done | rfl | omega))) ?_
       exact TE.round id (fun _ _ e => e) ((k + 1, (q.take (k + 1)).any (fun d => decide (d.nm = q[j].nm)))) ⟨hkj, rfl⟩ (by show j - (k + 1) < j - k; omega) ⟨⟨rfl, rfl⟩, ⟨rfl, rfl⟩, ⟨rfl, rfl⟩, ⟨rfl, rfl⟩, ⟨rfl, rfl⟩, ⟨rfl, rfl⟩, ⟨rfl, rfl⟩, ⟨rfl, rfl⟩, ⟨rfl, rfl⟩, trivial⟩ ⟨.inl rfl, .inl rfl, .inl rfl, .inl rfl, .inl rfl, .inr rfl, trivial⟩
      | false =>
       refine .draw mixed [Ro.mk _ (Eff.mk (some (65, _)) []) [], Ro.mk _ (Eff.mk (some (66, _)) []) [], Ro.mk _ (Eff.mk (some (67, _)) []) [], Ro.mk _ (Eff.mk (some (68, _)) []) [], Ro.mk _ (Eff.mk (some (69, _)) []) [], Ro.mk _ (Eff.mk (some (70, _)) []) [], Ro.mk _ (Eff.mk (some (71, _)) []) [], Ro.mk _ (Eff.mk (some (72, _)) []) [], Ro.mk _ (Eff.mk (some (73, _)) []) [], Ro.mk _ (Eff.mk (some (74, _)) []) [], Ro.mk _ (Eff.mk (some (75, _)) []) [], Ro.mk _ (Eff.mk (some (76, _)) []) [], Ro.mk _ (Eff.mk (some (77, _)) []) [], Ro.mk _ (Eff.mk (some (78, _)) []) [], Ro.mk _ (Eff.mk (some (11, _)) []) []] rfl ⟨(fun _ _ => .move rfl rfl), (fun _ _ => .move rfl rfl), (.inr ⟨66, _, rfl, rfl, rfl, rfl, fun _ _ => .move rfl rfl⟩), (.inr ⟨66, _, rfl, rfl, rfl, rfl, fun _ _ => .move rfl rfl⟩), (.inr ⟨66, _, rfl, rfl, rfl, rfl, fun _ _ => .idx (q[k]) rfl rfl rfl rfl et39 (fun _ => rfl) (Int.natCast_nonneg _) (get_nat hkq)⟩), (.inr ⟨66, _, rfl, rfl, rfl, rfl, fun _ _ => .fielde rfl rfl rfl fo30_0⟩), (.inr ⟨66, _, rfl, rfl, rfl, rfl, fun _ _ => .lde rfl rfl rfl rfl tk9⟩), (.inr ⟨66, _, rfl, rfl, rfl, rfl, fun _ _ => .move rfl rfl⟩), (.inr ⟨66, _, rfl, rfl, rfl, rfl, fun _ _ => .move rfl rfl⟩), (.inr ⟨66, _, rfl, rfl, rfl, rfl, fun _ _ => .idx (q[j]) rfl rfl rfl rfl et39 (fun _ => rfl) (Int.natCast_nonneg _) (get_nat hj)⟩), (.inr ⟨66, _, rfl, rfl, rfl, rfl, fun _ _ => .fielde rfl rfl rfl fo30_0⟩), (.inr ⟨66, _, rfl, rfl, rfl, rfl, fun _ _ => .lde rfl rfl rfl rfl tk9⟩), (.inr ⟨66, _, rfl, rfl, rfl, rfl, fun _ _ => .bin rfl rfl rfl rfl⟩), (fun _ _ => .pick rfl rfl rfl), (fun _ _ => .assign rfl rfl), trivial⟩ (by kernel_rfl) ?_
       refine TE.blk ?_
       refine .next ?_
       refine .region ?_
       refine .step rfl (.move rfl rfl) ?_
       refine .step rfl (.binv (.int .i64 ((k + 1 : Nat) : Int)) rfl rfl rfl rfl (congrArg _ (by (try dsimp only); rw [IntKind.wrap_i64]; omega))) ?_
       refine .step rfl (.assign rfl rfl) ?_
       refine .nil ?_
       refine TE.setv 11 (.bool ((q.take (k + 1)).any (fun d => decide (d.nm = q[j].nm)))) rfl (congrArg Value.bool (by rw [any_snoc hkq, ← k2]; first | rfl | simp)) ?_
       refine TE.setv 12 (.int .i64 ((k + 1 : Nat) : Int)) rfl (congrArg _ (by first | rfl | (dsimp only; first | done | rfl | omega))) ?_
       exact TE.round id (fun _ _ e => e) ((k + 1, (q.take (k + 1)).any (fun d => decide (d.nm = q[j].nm)))) ⟨hkj, rfl⟩ (by show j - (k + 1) < j - k; omega) ⟨⟨rfl, rfl⟩, ⟨rfl, rfl⟩, ⟨rfl, rfl⟩, ⟨rfl, rfl⟩, ⟨rfl, rfl⟩, ⟨rfl, rfl⟩, ⟨rfl, rfl⟩, ⟨rfl, rfl⟩, ⟨rfl, rfl⟩, trivial⟩ ⟨.inl rfl, .inl rfl, .inl rfl, .inl rfl, .inl rfl, .inr rfl, trivial⟩
     ·skip
      have hkj : ¬ (k < j) := by have q := of_decide_eq_false h12; (try dsimp only at q); omega
      have k3 : tk = (q.take (j)).any (fun d => decide (d.nm = q[j].nm)) := by rw [k2, show k = j by omega]
      refine .exit ?_
      refine TE.pass ?_
      refine TE.pass ?_
      refine TE.here ?_
      refine .next ?_
      refine .seq ?_
      refine .region ?_
      refine .step rfl (.move rfl rfl) ?_
      refine .step rfl (.un rfl rfl rfl) ?_
      refine .nil ?_
      refine .next ?_
      refine .cond rfl (fun h14 => ?_) (fun h14 => ?_)
      ·skip
       have htk : ¬ (q.take (j)).any (fun d => decide (d.nm = q[j].nm)) = true := by rw [← k3]; simpa using h14
       refine .region ?_
       refine .step rfl (.move rfl rfl) ?_
       refine .step rfl (.move rfl rfl) ?_
       refine .step rfl (.move rfl rfl) ?_
       refine .step rfl (.idx (q[j]) rfl rfl rfl rfl et39 (fun _ => rfl) (Int.natCast_nonneg _) (get_nat hj)) ?_
       refine .step rfl (.ldem (ds := q[j].dv) rfl rfl rfl rfl rfl tk30) ?_
       refine .step rfl (.buildsl (ds := q[j].dv) 11 rfl rfl rfl ap39 zc30 rfl rfl rfl) ?_
       refine .step rfl (.append 12 rfl rfl rfl (flat_length (sz := 3) (enc := En.dv) (fun _ => rfl) _) rfl ap39 rfl rfl (okA_len rfl rfl) rfl (by omega) (by omega)) ?_
       refine .step rfl (.assign rfl rfl) ?_
       refine .nil ?_
       refine TE.blk ?_
       refine .next ?_
       refine .region ?_
       refine .step rfl (.move rfl rfl) ?_
       refine .step rfl (.binv (.int .i64 ((j + 1 : Nat) : Int)) rfl rfl rfl rfl (congrArg _ (by (try dsimp only); rw [IntKind.wrap_i64]; omega))) ?_
       refine .step rfl (.assign rfl rfl) ?_
       refine .nil ?_
       refine TE.set 9 (.ow 12 (one ++ [q[j]]).length 3) rfl (by rw [List.length_append]; rfl) ?_
       refine TE.obj 12 (.row 30 3 ((one ++ [q[j]]).flatMap En.dv)) rfl (by simp [List.flatMap_append]) ?_
       refine TE.setv 10 (.int .i64 ((j + 1 : Nat) : Int)) rfl (congrArg _ (by first | rfl | (dsimp only; first | done | rfl | omega))) ?_
       exact TE.round (swp 10 12) (swp_inj 10 12) ((j + 1, one ++ [q[j]])) ⟨hj, by show (one ++ [q[j]]).length ≤ j + 1; rw [List.length_append]; simp; omega, by show (one ++ [q[j]]) ++ dedG (q.take (j + 1)) (q.drop (j + 1)) = _; rw [← j3, dedG_step hj, if_neg htk, List.append_assoc]⟩ (by show q.length - (j + 1) < q.length - j; omega) ⟨⟨rfl, rfl⟩, ⟨rfl, rfl⟩, ⟨rfl, rfl⟩, ⟨rfl, rfl⟩, ⟨rfl, rfl⟩, ⟨rfl, rfl⟩, ⟨rfl, rfl⟩, trivial⟩ ⟨.inl rfl, .inl rfl, .inl rfl, .inl rfl, .inl rfl, .inr rfl, trivial⟩
      ·skip
       have htk : (q.take (j)).any (fun d => decide (d.nm = q[j].nm)) = true := by rw [← k3]; simpa using h14
       refine .skip ?_
       refine TE.blk ?_
       refine .next ?_
       refine .region ?_
       refine .step rfl (.move rfl rfl) ?_
       refine .step rfl (.binv (.int .i64 ((j + 1 : Nat) : Int)) rfl rfl rfl rfl (congrArg _ (by (try dsimp only); rw [IntKind.wrap_i64]; omega))) ?_
       refine .step rfl (.assign rfl rfl) ?_
       refine .nil ?_
       refine TE.setv 10 (.int .i64 ((j + 1 : Nat) : Int)) rfl (congrArg _ (by first | rfl | (dsimp only; first | done | rfl | omega))) ?_
       exact TE.round id (fun _ _ e => e) ((j + 1, one)) ⟨hj, Nat.le_succ_of_le j2, by show one ++ dedG (q.take (j + 1)) (q.drop (j + 1)) = _; rw [← j3, dedG_step hj, if_pos htk]; rfl⟩ (by show q.length - (j + 1) < q.length - j; omega) ⟨⟨rfl, rfl⟩, ⟨rfl, rfl⟩, ⟨rfl, rfl⟩, ⟨rfl, rfl⟩, ⟨rfl, rfl⟩, ⟨rfl, rfl⟩, ⟨rfl, rfl⟩, trivial⟩ ⟨.inl rfl, .inl rfl, .inl rfl, .inl rfl, .inl rfl, .inr rfl, trivial⟩
    ·skip
     have hj : ¬ (j < q.length) := by have q := of_decide_eq_false h11; (try dsimp only at q); omega
     have e1 : one = dedG [] q := by rw [← j3, List.drop_eq_nil_of_le (by omega)]; simp [dedG]
     refine .exit ?_
     refine TE.pass ?_
     refine TE.pass ?_
     refine TE.here ?_
     refine .next ?_
     refine .seq ?_
     subst e1
     refine TC.frz 9 (slT En.dv 3 (dedG [] q)) rfl rfl (flat_length (sz := 3) (enc := En.dv) (fun _ => rfl) _) rfl ?_
     refine .region ?_
     refine .step rfl (.move rfl rfl) ?_
     refine .step rfl (.move rfl rfl) ?_
     refine .step rfl (.move rfl rfl) ?_
     refine .step rfl (.callc rfl cf20 rfl (add_pc out ep (dedG [] q) (by omega) hdl)) ?_
     refine .step rfl (.move rfl rfl) ?_
     refine .step rfl (.extract rfl rfl rfl rfl) ?_
     refine .step rfl (.extract rfl rfl rfl rfl) ?_
     refine .step rfl (.assign rfl rfl) ?_
     refine .nil ?_
     refine .next ?_
     refine .region ?_
     refine .step rfl (.move rfl rfl) ?_
     refine .step rfl (.bin rfl rfl rfl rfl) ?_
     refine .step rfl (.assign rfl rfl) ?_
     refine .step rfl (.assign rfl rfl) ?_
     refine .nil ?_
     refine TE.setv 4 (.int .i64 (i64w (ep + 1))) rfl rfl ?_
     refine TE.own0 5 13 30 3 rfl rfl ?_
     subst hq
     refine TE.blk ?_
     refine .next ?_
     refine .region ?_
     refine .step rfl (.move rfl rfl) ?_
     refine .step rfl (.binv (.int .i64 ((i + 1 : Nat) : Int)) rfl rfl rfl rfl (congrArg _ (by (try dsimp only); rw [IntKind.wrap_i64]; omega))) ?_
     refine .step rfl (.assign rfl rfl) ?_
     refine .nil ?_
     refine TE.setv 6 (.int .i64 ((i + 1 : Nat) : Int)) rfl (congrArg _ (by first | rfl | (dsimp only; first | done | rfl | omega))) ?_
     exact TE.round (swp 2 13) (swp_inj 2 13) ((i + 1, (addR out ep (dedG [] (p ++ [pendE out l[i]]))).1, i64w (ep + 1), [])) ⟨hi, by show (addR out ep (dedG [] (p ++ [pendE out l[i]]))).1.length ≤ i + 1; have q := addR_len out ep (dedG [] (p ++ [pendE out l[i]])); have q2 := dedG_len [] (p ++ [pendE out l[i]]); rw [List.length_append] at q2; simp at q2; omega, Nat.zero_le _, by show (addR out ep (dedG [] (p ++ [pendE out l[i]]))).1.length + 0 ≤ i + 1; have q := addR_len out ep (dedG [] (p ++ [pendE out l[i]])); have q2 := dedG_len [] (p ++ [pendE out l[i]]); rw [List.length_append] at q2; simp at q2; omega, by show dirG (l.drop (i + 1)) (addR out ep (dedG [] (p ++ [pendE out l[i]]))).1 (i64w (ep + 1)) [] = dirD l; rw [← dirG_add hi hnot]; exact i5⟩ (by show l.length - (i + 1) < l.length - i; omega) ⟨⟨rfl, rfl⟩, ⟨rfl, rfl⟩, ⟨rfl, rfl⟩, ⟨rfl, rfl⟩, ⟨rfl, rfl⟩, trivial⟩ ⟨.inl rfl, .inr rfl, trivial⟩
  ·skip
   have hi : ¬ (i < l.length) := by have q := of_decide_eq_false h1; (try dsimp only at q); omega
   have e : dirD l = out := by rw [← i5, List.drop_eq_nil_of_le (by omega)]; rfl
   refine .exit ?_
   refine TE.pass ?_
   refine TE.pass ?_
   refine TE.here ?_
   refine .next ?_
   refine .seq ?_
   refine .region ?_
   refine .step rfl (.move rfl rfl) ?_
   refine .step rfl (.assign rfl rfl) ?_
   refine .nil ?_
   refine .next ?_
   refine .ret ?_
   rw [e]
   exact TE.retc rfl rfl rfl

end Go.Proofs.Ythidepbffhhkmaa
