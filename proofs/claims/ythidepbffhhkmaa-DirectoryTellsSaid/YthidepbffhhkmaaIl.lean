/-
  The program's Right.
-/
import Derived.Test.YthidepbffhhkmaaIk
namespace Go.Proofs.Ythidepbffhhkmaa
set_option linter.unusedVariables false
set_option linter.unusedSimpArgs false
open Go.RowKit Pl


/-- One step of a right directory. -/
def stepB (p : Option Kn) (k : Kn) : Bool := rightE k.nm k.ver k.key && (decide (1 ≤ k.ep) && (match p with
  | none => decide (k.ver = 1)
  | some q => if q.nm = k.nm then decide (k.ver = i64w (q.ver + 1)) && decide (q.ep < k.ep) else !(Op.bytesLess k.nm q.nm) && decide (k.ver = 1)))
def stepAt (l : List Kn) (i : Nat) : Bool := match l[i]? with
  | some k => stepB (if i = 0 then none else l[i - 1]?) k
  | none => true
def rightK (l : List Kn) : Bool := (List.range l.length).all (stepAt l)
theorem rightK_true {l : List Kn} (h : ∀ j, j < l.length → stepAt l j = true) : rightK l = true := by
  unfold rightK; rw [List.all_eq_true]; exact fun j hj => h j (List.mem_range.1 hj)
theorem rightK_false {l : List Kn} {i : Nat} (hi : i < l.length) (h : stepAt l i = false) : rightK l = false := by
  unfold rightK; rw [List.all_eq_false]; exact ⟨i, List.mem_range.2 hi, by rw [h]; simp⟩
theorem stepAt_zero {l : List Kn} {i : Nat} (hi : i < l.length) (h0 : i = 0) : stepAt l i = stepB none l[i] := by
  unfold stepAt; rw [List.getElem?_eq_getElem hi]; simp only [if_pos h0]
theorem stepAt_prev {l : List Kn} {i : Nat} (hi : i < l.length) (h0 : ¬ i = 0) (hi1 : i - 1 < l.length) : stepAt l i = stepB (some l[i - 1]) l[i] := by
  unfold stepAt; rw [List.getElem?_eq_getElem hi, List.getElem?_eq_getElem hi1]; simp only [if_neg h0]
theorem stepAt_right {l : List Kn} {i : Nat} (hi : i < l.length) (h : rightE l[i].nm l[i].ver l[i].key = false) : stepAt l i = false := by
  unfold stepAt; rw [List.getElem?_eq_getElem hi]; simp [stepB, h]
theorem stepB_first {k : Kn} (hR : rightE k.nm k.ver k.key = true) (hep : 1 ≤ k.ep) (hv : k.ver = 1) : stepB none k = true := by
  unfold stepB; rw [hR, decide_eq_true hep, decide_eq_true hv]; rfl
theorem stepB_new {q k : Kn} (hR : rightE k.nm k.ver k.key = true) (hep : 1 ≤ k.ep) (hn : ¬ q.nm = k.nm) (hb : Op.bytesLess k.nm q.nm = false) (hv : k.ver = 1) : stepB (some q) k = true := by
  unfold stepB; simp only [if_neg hn]; rw [hR, decide_eq_true hep, hb, decide_eq_true hv]; rfl
theorem stepB_next {q k : Kn} (hR : rightE k.nm k.ver k.key = true) (hep : 1 ≤ k.ep) (hn : q.nm = k.nm) (hv : k.ver = i64w (q.ver + 1)) (he : q.ep < k.ep) : stepB (some q) k = true := by
  unfold stepB; simp only [if_pos hn]; rw [hR, decide_eq_true hep, decide_eq_true hv, decide_eq_true he]; rfl
theorem bl_gtr (a b : List UInt8) : (!(Op.bytesLess a b || decide (a = b))) = Op.bytesLess b a := by
  rcases bl_tri a b with h | h | h
  · rw [h, bl_asym h]; rfl
  · subst h
    cases h : Op.bytesLess a a with
    | true => rw [bl_asym h] at h; cases h
    | false => simp
  · rw [bl_asym h, h]
    by_cases e : a = b
    · subst e; rw [bl_asym h] at h; cases h
    · simp [e]
theorem stepAt_ep {l : List Kn} {i : Nat} (hi : i < l.length) (h : ¬ 1 ≤ l[i].ep) : stepAt l i = false := by
  unfold stepAt; rw [List.getElem?_eq_getElem hi]; simp [stepB, h]

set_option maxRecDepth 100000 in
set_option maxHeartbeats 1600000 in
theorem right_pf (l : List Kn) (hl : l.length ≤ 1048577) : PF Try.prog 18 [slT Kn.dv 4 l] (.v (.bool (rightK l))) := by
  refine PF.enter (fn := Try.f18) Try.func18 rfl Try.ntmps18 rfl (fun w0 => ?_)
  refine .seq ?_
  refine .region ?_
  refine .step rfl (.assign rfl rfl) ?_
  refine .nil ?_
  refine .next ?_
  refine .seq ?_
  refine .seq ?_
  refine .region ?_
  refine .step rfl (.move rfl rfl) ?_
  refine .step rfl (.len rfl rfl ⟨_, _, rfl⟩ is24) ?_
  refine .step rfl (.move rfl rfl) ?_
  refine .nil ?_
  refine TE.setv 8 (.int .i64 ((0 : Nat) : Int)) rfl (congrArg _ (by first | rfl | (dsimp only; first | done | rfl | omega))) ?_
  refine .next ?_
  refine .block ?_
  refine TC.loop (S := Nat) (fun i => i ≤ l.length ∧ ∀ j, j < i → stepAt l j = true) (fun i => l.length - i) (fun i => [(0, .d (slT Kn.dv 4 l)), (6, .d (slT Kn.dv 4 l)), (7, .f (.v (.int .i64 ((l.length : Nat) : Int)))), (8, .d (.v (.int .i64 ((i : Nat) : Int))))]) (fun i => []) (0) ⟨Nat.zero_le _, fun j h => absurd h (Nat.not_lt_zero j)⟩ ⟨⟨rfl, rfl⟩, ⟨rfl, rfl⟩, ⟨rfl, rfl⟩, ⟨rfl, rfl⟩, trivial⟩ trivial (fun i hI => ?_)
  obtain ⟨i1, i2⟩ := hI
  refine .seq ?_
  refine .region ?_
  refine .step rfl (.bin rfl rfl rfl rfl) ?_
  refine .nil ?_
  refine .next ?_
  refine .seq ?_
  refine .cond rfl (fun h1 => ?_) (fun h1 => ?_)
  ·skip
   have hi : i < l.length := by have q := of_decide_eq_true h1; (try dsimp only at q); omega
   refine .skip ?_
   refine .next ?_
   refine .seq ?_
   refine .block ?_
   refine .seq ?_
   refine .region ?_
   refine .step rfl (.move rfl rfl) ?_
   refine .step rfl (.idx (l[i]) rfl rfl rfl rfl et24 (fun _ => rfl) (Int.natCast_nonneg i) (get_nat hi)) ?_
   refine .step rfl (.ldem (ds := l[i].dv) rfl rfl rfl rfl rfl tk32) ?_
   refine .step rfl (.alloc 1 rfl rfl zc32 rfl) ?_
   refine .step rfl (.assign rfl rfl) ?_
   refine .step rfl (.store rfl rfl rfl sz32 rfl rfl) ?_
   refine .nil ?_
   refine .next ?_
   refine .seq ?_
   by_cases h0 : i = 0
   ·skip
    refine .draw mixed [Ro.mk _ (Eff.mk (some (13, _)) []) [], Ro.mk _ (Eff.mk (some (14, _)) []) [], Ro.mk _ (Eff.mk (some (15, _)) []) [], Ro.mk _ (Eff.mk (some (16, _)) []) [], Ro.mk _ (Eff.mk (some (17, _)) []) [], Ro.mk _ (Eff.mk (some (18, _)) []) [], Ro.mk _ (Eff.mk (some (19, _)) []) [], Ro.mk _ (Eff.mk (some (20, _)) []) [], Ro.mk _ (Eff.mk (some (21, _)) []) [], Ro.mk _ (Eff.mk (some (22, _)) []) [], Ro.mk _ (Eff.mk (some (23, _)) []) [], Ro.mk _ (Eff.mk (some (24, _)) []) [], Ro.mk _ (Eff.mk (some (25, _)) []) [], Ro.mk _ (Eff.mk (some (26, _)) []) [], Ro.mk _ (Eff.mk (some (27, _)) []) [], Ro.mk _ (Eff.mk (some (5, _)) []) []] rfl ⟨(fun _ _ => .move rfl rfl), (fun _ _ => .binv (.bool true) rfl rfl rfl rfl (congrArg Value.bool (decide_eq_true (by omega)))), (fun _ _ => .move rfl rfl), (.inr ⟨15, _, rfl, rfl, rfl, rfl, 16, rfl, rfl, rfl⟩), (.inr ⟨15, _, rfl, rfl, rfl, rfl, 17, rfl, rfl, rfl⟩), (.inr ⟨15, _, rfl, rfl, rfl, rfl, 18, rfl, rfl, rfl⟩), (.inr ⟨15, _, rfl, rfl, rfl, rfl, 19, rfl, rfl, rfl⟩), (.inr ⟨15, _, rfl, rfl, rfl, rfl, 20, rfl, rfl, rfl⟩), (.inr ⟨15, _, rfl, rfl, rfl, rfl, 21, rfl, rfl, rfl⟩), (.inr ⟨15, _, rfl, rfl, rfl, rfl, 22, rfl, rfl, rfl⟩), (.inr ⟨15, _, rfl, rfl, rfl, rfl, 23, rfl, rfl, rfl⟩), (.inr ⟨15, _, rfl, rfl, rfl, rfl, 24, rfl, rfl, rfl⟩), (.inr ⟨15, _, rfl, rfl, rfl, rfl, 25, rfl, rfl, rfl⟩), (.inr ⟨15, _, rfl, rfl, rfl, rfl, 26, rfl, rfl, rfl⟩), (fun _ _ => .pick rfl rfl rfl), (fun _ _ => .assign rfl rfl), trivial⟩ (by kernel_rfl) ?_
    refine .next ?_
    refine .block ?_
    refine .seq ?_
    refine .region ?_
    refine .step rfl (.fieldp rfl rfl rfl rfl fo32_0) ?_
    refine .step rfl (.ldpm rfl rfl rfl rfl rfl rfl tk30) ?_
    refine .step rfl (.callf rfl cf32 rfl ⟨trivial, trivial⟩ (dmay_pf ⟨l[i].nm, l[i].ver, l[i].key⟩)) ?_
    refine .case 31 rfl (fun h3 => ?_) (fun h3 => ?_)
    ·skip
     have hR : rightE l[i].nm l[i].ver l[i].key = true := h3
     refine .step rfl (.un rfl rfl rfl) ?_
     refine .step rfl (.move rfl rfl) ?_
     refine .go 33 rfl rfl rfl rfl (.fieldp rfl rfl rfl rfl fo32_1) ?_
     refine .go 33 rfl rfl rfl rfl (.ldp rfl rfl rfl rfl rfl tk3) ?_
     refine .go 33 rfl rfl rfl rfl (.bin rfl rfl rfl rfl) ?_
     refine .step rfl (.pick rfl rfl rfl) ?_
     refine .step rfl (.assign rfl rfl) ?_
     refine .nil ?_
     refine .next ?_
     refine .cond rfl (fun h4 => ?_) (fun h4 => ?_)
     ·skip
      have hep : ¬ 1 ≤ l[i].ep := by have q : l[i].ep < 1 := of_decide_eq_true h4; omega
      have hs := stepAt_ep hi hep
      refine .seq ?_
      refine .region ?_
      refine .step rfl (.assign rfl rfl) ?_
      refine .nil ?_
      refine .next ?_
      refine .ret ?_
      rw [rightK_false hi hs]
      exact TE.retf rfl rfl rfl trivial
     ·skip
      have hep : 1 ≤ l[i].ep := by have q : ¬ l[i].ep < 1 := of_decide_eq_false h4; omega
      refine .seq ?_
      by_cases hv1 : l[i].ver = 1
      ·skip
       have hs : stepAt l i = true := by rw [stepAt_zero hi h0]; exact stepB_first hR hep hv1
       refine .draw mixed [Ro.mk _ (Eff.mk (some (39, _)) []) [], Ro.mk _ (Eff.mk (some (40, _)) []) [], Ro.mk _ (Eff.mk (some (41, _)) []) [1], Ro.mk _ (Eff.mk (some (42, _)) []) [1], Ro.mk _ (Eff.mk (some (43, _)) []) [1], Ro.mk _ (Eff.mk (some (44, _)) []) [], Ro.mk _ (Eff.mk (some (45, _)) []) [], Ro.mk _ (Eff.mk (some (46, _)) []) [], Ro.mk _ (Eff.mk (some (47, _)) []) [], Ro.mk _ (Eff.mk (some (48, _)) []) [], Ro.mk _ (Eff.mk (some (49, _)) []) [], Ro.mk _ (Eff.mk (some (50, _)) []) [], Ro.mk _ (Eff.mk (some (51, _)) []) [], Ro.mk _ (Eff.mk (some (52, _)) []) [], Ro.mk _ (Eff.mk (some (53, _)) []) [], Ro.mk _ (Eff.mk (some (54, _)) []) [], Ro.mk _ (Eff.mk (some (55, _)) []) [], Ro.mk _ (Eff.mk (some (56, _)) []) [], Ro.mk _ (Eff.mk (some (57, _)) []) [], Ro.mk _ (Eff.mk (some (58, _)) []) [], Ro.mk _ (Eff.mk (some (59, _)) []) [], Ro.mk _ (Eff.mk (some (60, _)) []) [], Ro.mk _ (Eff.mk (some (61, _)) []) [], Ro.mk _ (Eff.mk (some (62, _)) []) [], Ro.mk _ (Eff.mk (some (38, _)) []) []] rfl ⟨(fun _ _ => .move rfl rfl), (fun _ _ => .move rfl rfl), (.inr ⟨40, _, rfl, rfl, rfl, rfl, fun _ _ => .fieldp rfl rfl rfl rfl fo32_0⟩), (.inr ⟨40, _, rfl, rfl, rfl, rfl, fun _ _ => .fieldp rfl rfl rfl rfl fo30_1⟩), (.inr ⟨40, _, rfl, rfl, rfl, rfl, fun _ _ => .ldp rfl rfl rfl rfl rfl tk3⟩), (.inr ⟨40, _, rfl, rfl, rfl, rfl, fun _ _ => .binv (.bool false) rfl rfl rfl rfl (congrArg (fun x => Value.bool (!x)) (decide_eq_true hv1))⟩), (.inr ⟨40, _, rfl, rfl, rfl, rfl, fun _ _ => .move rfl rfl⟩), (.inr ⟨45, _, rfl, rfl, rfl, rfl, fun _ _ => .move rfl rfl⟩), (.inr ⟨45, _, rfl, rfl, rfl, rfl, fun _ _ => .binv (.bool false) rfl rfl rfl rfl (congrArg Value.bool (decide_eq_false (by omega)))⟩), (.inr ⟨45, _, rfl, rfl, rfl, rfl, fun _ _ => .move rfl rfl⟩), (.inr ⟨48, _, rfl, rfl, rfl, rfl, 49, rfl, rfl, rfl⟩), (.inr ⟨48, _, rfl, rfl, rfl, rfl, 50, rfl, rfl, rfl⟩), (.inr ⟨48, _, rfl, rfl, rfl, rfl, 51, rfl, rfl, rfl⟩), (.inr ⟨48, _, rfl, rfl, rfl, rfl, 52, rfl, rfl, rfl⟩), (.inr ⟨48, _, rfl, rfl, rfl, rfl, 53, rfl, rfl, rfl⟩), (.inr ⟨48, _, rfl, rfl, rfl, rfl, 54, rfl, rfl, rfl⟩), (.inr ⟨48, _, rfl, rfl, rfl, rfl, 55, rfl, rfl, rfl⟩), (.inr ⟨48, _, rfl, rfl, rfl, rfl, 56, rfl, rfl, rfl⟩), (.inr ⟨48, _, rfl, rfl, rfl, rfl, 57, rfl, rfl, rfl⟩), (.inr ⟨48, _, rfl, rfl, rfl, rfl, 58, rfl, rfl, rfl⟩), (.inr ⟨48, _, rfl, rfl, rfl, rfl, 59, rfl, rfl, rfl⟩), (.inr ⟨45, _, rfl, rfl, rfl, rfl, fun _ _ => .pick rfl rfl rfl⟩), (.inr ⟨40, _, rfl, rfl, rfl, rfl, fun _ _ => .pick rfl rfl rfl⟩), (fun _ _ => .pick rfl rfl rfl), (fun _ _ => .assign rfl rfl), trivial⟩ (by kernel_rfl) ?_
       refine .next ?_
       refine .cond rfl (fun h6 => absurd h6 (by decide)) (fun h6 => ?_)
       refine .seq ?_
       refine .draw mixed [Ro.mk _ (Eff.mk (some (64, _)) []) [], Ro.mk _ (Eff.mk (some (65, _)) []) [], Ro.mk _ (Eff.mk (some (66, _)) []) [], Ro.mk _ (Eff.mk (some (67, _)) []) [], Ro.mk _ (Eff.mk (some (68, _)) []) [], Ro.mk _ (Eff.mk (some (69, _)) []) [], Ro.mk _ (Eff.mk (some (70, _)) []) [], Ro.mk _ (Eff.mk (some (71, _)) []) [], Ro.mk _ (Eff.mk (some (72, _)) []) [], Ro.mk _ (Eff.mk (some (73, _)) []) [], Ro.mk _ (Eff.mk (some (74, _)) []) [], Ro.mk _ (Eff.mk (some (75, _)) []) [], Ro.mk _ (Eff.mk (some (76, _)) []) [], Ro.mk _ (Eff.mk (some (77, _)) []) [], Ro.mk _ (Eff.mk (some (78, _)) []) [], Ro.mk _ (Eff.mk (some (79, _)) []) [], Ro.mk _ (Eff.mk (some (80, _)) []) [], Ro.mk _ (Eff.mk (some (81, _)) []) [], Ro.mk _ (Eff.mk (some (82, _)) []) [], Ro.mk _ (Eff.mk (some (83, _)) []) [], Ro.mk _ (Eff.mk (some (84, _)) []) [], Ro.mk _ (Eff.mk (some (85, _)) []) [], Ro.mk _ (Eff.mk (some (86, _)) []) [], Ro.mk _ (Eff.mk (some (87, _)) []) [], Ro.mk _ (Eff.mk (some (88, _)) []) [], Ro.mk _ (Eff.mk (some (89, _)) []) [], Ro.mk _ (Eff.mk (some (90, _)) []) [], Ro.mk _ (Eff.mk (some (63, _)) []) []] rfl ⟨(fun _ _ => .move rfl rfl), (fun _ _ => .un rfl rfl rfl), (fun _ _ => .move rfl rfl), (.inr ⟨66, _, rfl, rfl, rfl, rfl, 67, rfl, rfl, rfl⟩), (.inr ⟨66, _, rfl, rfl, rfl, rfl, 68, rfl, rfl, rfl⟩), (.inr ⟨66, _, rfl, rfl, rfl, rfl, 69, rfl, rfl, rfl⟩), (.inr ⟨66, _, rfl, rfl, rfl, rfl, 70, rfl, rfl, rfl⟩), (.inr ⟨66, _, rfl, rfl, rfl, rfl, 71, rfl, rfl, rfl⟩), (.inr ⟨66, _, rfl, rfl, rfl, rfl, 72, rfl, rfl, rfl⟩), (.inr ⟨66, _, rfl, rfl, rfl, rfl, 73, rfl, rfl, rfl⟩), (.inr ⟨66, _, rfl, rfl, rfl, rfl, 74, rfl, rfl, rfl⟩), (.inr ⟨66, _, rfl, rfl, rfl, rfl, 75, rfl, rfl, rfl⟩), (.inr ⟨66, _, rfl, rfl, rfl, rfl, 76, rfl, rfl, rfl⟩), (.inr ⟨66, _, rfl, rfl, rfl, rfl, 77, rfl, rfl, rfl⟩), (.inr ⟨66, _, rfl, rfl, rfl, rfl, 78, rfl, rfl, rfl⟩), (.inr ⟨66, _, rfl, rfl, rfl, rfl, 79, rfl, rfl, rfl⟩), (.inl ⟨79, _, rfl, rfl, rfl, rfl, rfl, rfl⟩), (.inl ⟨79, _, rfl, rfl, rfl, rfl, rfl, rfl⟩), (.inl ⟨79, _, rfl, rfl, rfl, rfl, rfl, rfl⟩), (.inl ⟨79, _, rfl, rfl, rfl, rfl, rfl, rfl⟩), (.inl ⟨79, _, rfl, rfl, rfl, rfl, rfl, rfl⟩), (.inl ⟨79, _, rfl, rfl, rfl, rfl, rfl, rfl⟩), (.inl ⟨79, _, rfl, rfl, rfl, rfl, rfl, rfl⟩), (.inl ⟨79, _, rfl, rfl, rfl, rfl, rfl, rfl⟩), (.inl ⟨79, _, rfl, rfl, rfl, rfl, rfl, rfl⟩), (.inr ⟨66, _, rfl, rfl, rfl, rfl, 89, rfl, rfl, rfl⟩), (fun _ _ => .pick rfl rfl rfl), (fun _ _ => .assign rfl rfl), trivial⟩ (by kernel_rfl) ?_
       refine .next ?_
       refine .cond rfl (fun h7 => absurd h7 (by decide)) (fun h7 => ?_)
       refine .skip ?_
       refine TE.blk ?_
       refine TE.blk ?_
       refine .next ?_
       refine .region ?_
       refine .step rfl (.binv (.int .i64 ((i + 1 : Nat) : Int)) rfl rfl rfl rfl (congrArg _ (by (try dsimp only); rw [IntKind.wrap_i64]; omega))) ?_
       refine .step rfl (.move rfl rfl) ?_
       refine .nil ?_
       refine TE.setv 8 (.int .i64 ((i + 1 : Nat) : Int)) rfl (congrArg _ (by first | rfl | (dsimp only; first | done | rfl | omega))) ?_
       exact TE.round id (fun _ _ e => e) (i + 1) ⟨hi, fun j hj => (Nat.lt_or_eq_of_le (Nat.le_of_lt_succ hj)).elim (i2 j) (fun e => by subst e; exact hs)⟩ (by omega) ⟨⟨rfl, rfl⟩, ⟨rfl, rfl⟩, ⟨rfl, rfl⟩, ⟨rfl, rfl⟩, trivial⟩ trivial
      ·skip
       have hs : stepAt l i = false := by rw [stepAt_zero hi h0]; simp [stepB, hv1]
       refine .draw mixed [Ro.mk _ (Eff.mk (some (39, _)) []) [], Ro.mk _ (Eff.mk (some (40, _)) []) [], Ro.mk _ (Eff.mk (some (41, _)) []) [1], Ro.mk _ (Eff.mk (some (42, _)) []) [1], Ro.mk _ (Eff.mk (some (43, _)) []) [1], Ro.mk _ (Eff.mk (some (44, _)) []) [], Ro.mk _ (Eff.mk (some (45, _)) []) [], Ro.mk _ (Eff.mk (some (46, _)) []) [], Ro.mk _ (Eff.mk (some (47, _)) []) [], Ro.mk _ (Eff.mk (some (48, _)) []) [], Ro.mk _ (Eff.mk (some (49, _)) []) [], Ro.mk _ (Eff.mk (some (50, _)) []) [], Ro.mk _ (Eff.mk (some (51, _)) []) [], Ro.mk _ (Eff.mk (some (52, _)) []) [], Ro.mk _ (Eff.mk (some (53, _)) []) [], Ro.mk _ (Eff.mk (some (54, _)) []) [], Ro.mk _ (Eff.mk (some (55, _)) []) [], Ro.mk _ (Eff.mk (some (56, _)) []) [], Ro.mk _ (Eff.mk (some (57, _)) []) [], Ro.mk _ (Eff.mk (some (58, _)) []) [], Ro.mk _ (Eff.mk (some (59, _)) []) [], Ro.mk _ (Eff.mk (some (60, _)) []) [], Ro.mk _ (Eff.mk (some (61, _)) []) [], Ro.mk _ (Eff.mk (some (62, _)) []) [], Ro.mk _ (Eff.mk (some (38, _)) []) []] rfl ⟨(fun _ _ => .move rfl rfl), (fun _ _ => .move rfl rfl), (.inr ⟨40, _, rfl, rfl, rfl, rfl, fun _ _ => .fieldp rfl rfl rfl rfl fo32_0⟩), (.inr ⟨40, _, rfl, rfl, rfl, rfl, fun _ _ => .fieldp rfl rfl rfl rfl fo30_1⟩), (.inr ⟨40, _, rfl, rfl, rfl, rfl, fun _ _ => .ldp rfl rfl rfl rfl rfl tk3⟩), (.inr ⟨40, _, rfl, rfl, rfl, rfl, fun _ _ => .binv (.bool true) rfl rfl rfl rfl (congrArg (fun x => Value.bool (!x)) (decide_eq_false hv1))⟩), (.inr ⟨40, _, rfl, rfl, rfl, rfl, fun _ _ => .move rfl rfl⟩), (.inr ⟨45, _, rfl, rfl, rfl, rfl, 46, rfl, rfl, rfl⟩), (.inr ⟨45, _, rfl, rfl, rfl, rfl, 47, rfl, rfl, rfl⟩), (.inr ⟨45, _, rfl, rfl, rfl, rfl, 48, rfl, rfl, rfl⟩), (.inl ⟨48, _, rfl, rfl, rfl, rfl, rfl, rfl⟩), (.inl ⟨48, _, rfl, rfl, rfl, rfl, rfl, rfl⟩), (.inl ⟨48, _, rfl, rfl, rfl, rfl, rfl, rfl⟩), (.inl ⟨48, _, rfl, rfl, rfl, rfl, rfl, rfl⟩), (.inl ⟨48, _, rfl, rfl, rfl, rfl, rfl, rfl⟩), (.inl ⟨48, _, rfl, rfl, rfl, rfl, rfl, rfl⟩), (.inl ⟨48, _, rfl, rfl, rfl, rfl, rfl, rfl⟩), (.inl ⟨48, _, rfl, rfl, rfl, rfl, rfl, rfl⟩), (.inl ⟨48, _, rfl, rfl, rfl, rfl, rfl, rfl⟩), (.inl ⟨48, _, rfl, rfl, rfl, rfl, rfl, rfl⟩), (.inl ⟨48, _, rfl, rfl, rfl, rfl, rfl, rfl⟩), (.inr ⟨45, _, rfl, rfl, rfl, rfl, 60, rfl, rfl, rfl⟩), (.inr ⟨40, _, rfl, rfl, rfl, rfl, fun _ _ => .pick rfl rfl rfl⟩), (fun _ _ => .pick rfl rfl rfl), (fun _ _ => .assign rfl rfl), trivial⟩ (by kernel_rfl) ?_
       refine .next ?_
       refine .cond rfl (fun h8 => ?_) (fun h8 => absurd h8 (by decide))
       refine .seq ?_
       refine .region ?_
       refine .step rfl (.assign rfl rfl) ?_
       refine .nil ?_
       refine .next ?_
       refine .ret ?_
       rw [rightK_false hi hs]
       exact TE.retf rfl rfl rfl trivial
    ·skip
     have hR : rightE l[i].nm l[i].ver l[i].key = false := h3
     have hs := stepAt_right hi hR
     refine .step rfl (.un rfl rfl rfl) ?_
     refine .step rfl (.move rfl rfl) ?_
     refine .no 33 rfl rfl rfl rfl rfl rfl rfl ?_
     refine .no 33 rfl rfl rfl rfl rfl rfl rfl ?_
     refine .no 33 rfl rfl rfl rfl rfl rfl rfl ?_
     refine .step rfl (.pick rfl rfl rfl) ?_
     refine .step rfl (.assign rfl rfl) ?_
     refine .nil ?_
     refine .next ?_
     refine .cond rfl (fun h9 => ?_) (fun h9 => absurd h9 (by decide))
     refine .seq ?_
     refine .region ?_
     refine .step rfl (.assign rfl rfl) ?_
     refine .nil ?_
     refine .next ?_
     refine .ret ?_
     rw [rightK_false hi hs]
     exact TE.retf rfl rfl rfl trivial
   ·skip
    have hi1 : i - 1 < l.length := by omega
    by_cases hnm : l[i - 1].nm = l[i].nm
    ·skip
     refine .draw mixed [Ro.mk _ (Eff.mk (some (13, _)) []) [], Ro.mk _ (Eff.mk (some (14, _)) []) [], Ro.mk _ (Eff.mk (some (15, _)) []) [], Ro.mk _ (Eff.mk (some (16, _)) []) [], Ro.mk _ (Eff.mk (some (17, _)) []) [], Ro.mk _ (Eff.mk (some (18, _)) []) [], Ro.mk _ (Eff.mk (some (19, _)) []) [], Ro.mk _ (Eff.mk (some (20, _)) []) [], Ro.mk _ (Eff.mk (some (21, _)) []) [], Ro.mk _ (Eff.mk (some (22, _)) []) [], Ro.mk _ (Eff.mk (some (23, _)) []) [1], Ro.mk _ (Eff.mk (some (24, _)) []) [1], Ro.mk _ (Eff.mk (some (25, _)) []) [1], Ro.mk _ (Eff.mk (some (26, _)) []) [], Ro.mk _ (Eff.mk (some (27, _)) []) [], Ro.mk _ (Eff.mk (some (5, _)) []) []] rfl ⟨(fun _ _ => .move rfl rfl), (fun _ _ => .binv (.bool false) rfl rfl rfl rfl (congrArg Value.bool (decide_eq_false (by omega)))), (fun _ _ => .move rfl rfl), (.inr ⟨15, _, rfl, rfl, rfl, rfl, fun _ _ => .move rfl rfl⟩), (.inr ⟨15, _, rfl, rfl, rfl, rfl, fun _ _ => .move rfl rfl⟩), (.inr ⟨15, _, rfl, rfl, rfl, rfl, fun _ _ => .binv (.int .i64 ((i - 1 : Nat) : Int)) rfl rfl rfl rfl (congrArg _ (by (try dsimp only); rw [IntKind.wrap_i64]; omega))⟩), (.inr ⟨15, _, rfl, rfl, rfl, rfl, fun _ _ => .idx (l[i - 1]) rfl rfl rfl rfl et24 (fun _ => rfl) (Int.natCast_nonneg _) (get_nat hi1)⟩), (.inr ⟨15, _, rfl, rfl, rfl, rfl, fun _ _ => .fielde rfl rfl rfl fo32_0⟩), (.inr ⟨15, _, rfl, rfl, rfl, rfl, fun _ _ => .fielde rfl rfl rfl fo30_0⟩), (.inr ⟨15, _, rfl, rfl, rfl, rfl, fun _ _ => .lde rfl rfl rfl rfl tk9⟩), (.inr ⟨15, _, rfl, rfl, rfl, rfl, fun _ _ => .fieldp rfl rfl rfl rfl fo32_0⟩), (.inr ⟨15, _, rfl, rfl, rfl, rfl, fun _ _ => .fieldp rfl rfl rfl rfl fo30_0⟩), (.inr ⟨15, _, rfl, rfl, rfl, rfl, fun _ _ => .ldp rfl rfl rfl rfl rfl tk9⟩), (.inr ⟨15, _, rfl, rfl, rfl, rfl, fun _ _ => .binv (.bool false) rfl rfl rfl rfl (congrArg (fun x => Value.bool (!x)) (decide_eq_true hnm))⟩), (fun _ _ => .pick rfl rfl rfl), (fun _ _ => .assign rfl rfl), trivial⟩ (by kernel_rfl) ?_
     refine .next ?_
     refine .block ?_
     refine .seq ?_
     refine .region ?_
     refine .step rfl (.fieldp rfl rfl rfl rfl fo32_0) ?_
     refine .step rfl (.ldpm rfl rfl rfl rfl rfl rfl tk30) ?_
     refine .step rfl (.callf rfl cf32 rfl ⟨trivial, trivial⟩ (dmay_pf ⟨l[i].nm, l[i].ver, l[i].key⟩)) ?_
     refine .case 31 rfl (fun h11 => ?_) (fun h11 => ?_)
     ·skip
      have hR : rightE l[i].nm l[i].ver l[i].key = true := h11
      refine .step rfl (.un rfl rfl rfl) ?_
      refine .step rfl (.move rfl rfl) ?_
      refine .go 33 rfl rfl rfl rfl (.fieldp rfl rfl rfl rfl fo32_1) ?_
      refine .go 33 rfl rfl rfl rfl (.ldp rfl rfl rfl rfl rfl tk3) ?_
      refine .go 33 rfl rfl rfl rfl (.bin rfl rfl rfl rfl) ?_
      refine .step rfl (.pick rfl rfl rfl) ?_
      refine .step rfl (.assign rfl rfl) ?_
      refine .nil ?_
      refine .next ?_
      refine .cond rfl (fun h12 => ?_) (fun h12 => ?_)
      ·skip
       have hep : ¬ 1 ≤ l[i].ep := by have q : l[i].ep < 1 := of_decide_eq_true h12; omega
       have hs := stepAt_ep hi hep
       refine .seq ?_
       refine .region ?_
       refine .step rfl (.assign rfl rfl) ?_
       refine .nil ?_
       refine .next ?_
       refine .ret ?_
       rw [rightK_false hi hs]
       exact TE.retf rfl rfl rfl trivial
      ·skip
       have hep : 1 ≤ l[i].ep := by have q : ¬ l[i].ep < 1 := of_decide_eq_false h12; omega
       refine .seq ?_
       refine .draw mixed [Ro.mk _ (Eff.mk (some (39, _)) []) [], Ro.mk _ (Eff.mk (some (40, _)) []) [], Ro.mk _ (Eff.mk (some (41, _)) []) [], Ro.mk _ (Eff.mk (some (42, _)) []) [], Ro.mk _ (Eff.mk (some (43, _)) []) [], Ro.mk _ (Eff.mk (some (44, _)) []) [], Ro.mk _ (Eff.mk (some (45, _)) []) [], Ro.mk _ (Eff.mk (some (46, _)) []) [], Ro.mk _ (Eff.mk (some (47, _)) []) [], Ro.mk _ (Eff.mk (some (48, _)) []) [], Ro.mk _ (Eff.mk (some (49, _)) []) [], Ro.mk _ (Eff.mk (some (50, _)) []) [], Ro.mk _ (Eff.mk (some (51, _)) []) [], Ro.mk _ (Eff.mk (some (52, _)) []) [], Ro.mk _ (Eff.mk (some (53, _)) []) [], Ro.mk _ (Eff.mk (some (54, _)) []) [], Ro.mk _ (Eff.mk (some (55, _)) []) [], Ro.mk _ (Eff.mk (some (56, _)) []) [], Ro.mk _ (Eff.mk (some (57, _)) []) [], Ro.mk _ (Eff.mk (some (58, _)) []) [], Ro.mk _ (Eff.mk (some (59, _)) []) [], Ro.mk _ (Eff.mk (some (60, _)) []) [], Ro.mk _ (Eff.mk (some (61, _)) []) [], Ro.mk _ (Eff.mk (some (62, _)) []) [], Ro.mk _ (Eff.mk (some (38, _)) []) []] rfl ⟨(fun _ _ => .move rfl rfl), (fun _ _ => .move rfl rfl), (.inr ⟨40, _, rfl, rfl, rfl, rfl, 41, rfl, rfl, rfl⟩), (.inr ⟨40, _, rfl, rfl, rfl, rfl, 42, rfl, rfl, rfl⟩), (.inr ⟨40, _, rfl, rfl, rfl, rfl, 43, rfl, rfl, rfl⟩), (.inr ⟨40, _, rfl, rfl, rfl, rfl, 44, rfl, rfl, rfl⟩), (.inr ⟨40, _, rfl, rfl, rfl, rfl, 45, rfl, rfl, rfl⟩), (.inl ⟨45, _, rfl, rfl, rfl, rfl, rfl, rfl⟩), (.inl ⟨45, _, rfl, rfl, rfl, rfl, rfl, rfl⟩), (.inl ⟨45, _, rfl, rfl, rfl, rfl, rfl, rfl⟩), (.inl ⟨48, _, rfl, rfl, rfl, rfl, rfl, rfl⟩), (.inl ⟨48, _, rfl, rfl, rfl, rfl, rfl, rfl⟩), (.inl ⟨48, _, rfl, rfl, rfl, rfl, rfl, rfl⟩), (.inl ⟨48, _, rfl, rfl, rfl, rfl, rfl, rfl⟩), (.inl ⟨48, _, rfl, rfl, rfl, rfl, rfl, rfl⟩), (.inl ⟨48, _, rfl, rfl, rfl, rfl, rfl, rfl⟩), (.inl ⟨48, _, rfl, rfl, rfl, rfl, rfl, rfl⟩), (.inl ⟨48, _, rfl, rfl, rfl, rfl, rfl, rfl⟩), (.inl ⟨48, _, rfl, rfl, rfl, rfl, rfl, rfl⟩), (.inl ⟨48, _, rfl, rfl, rfl, rfl, rfl, rfl⟩), (.inl ⟨48, _, rfl, rfl, rfl, rfl, rfl, rfl⟩), (.inl ⟨45, _, rfl, rfl, rfl, rfl, rfl, rfl⟩), (.inr ⟨40, _, rfl, rfl, rfl, rfl, 61, rfl, rfl, rfl⟩), (fun _ _ => .pick rfl rfl rfl), (fun _ _ => .assign rfl rfl), trivial⟩ (by kernel_rfl) ?_
       refine .next ?_
       refine .cond rfl (fun h13 => absurd h13 (by decide)) (fun h13 => ?_)
       refine .seq ?_
       by_cases hv2 : l[i].ver = i64w (l[i - 1].ver + 1)
       ·skip
        refine .draw mixed [Ro.mk _ (Eff.mk (some (64, _)) []) [], Ro.mk _ (Eff.mk (some (65, _)) []) [], Ro.mk _ (Eff.mk (some (66, _)) []) [], Ro.mk _ (Eff.mk (some (67, _)) []) [1], Ro.mk _ (Eff.mk (some (68, _)) []) [1], Ro.mk _ (Eff.mk (some (69, _)) []) [1], Ro.mk _ (Eff.mk (some (70, _)) []) [], Ro.mk _ (Eff.mk (some (71, _)) []) [], Ro.mk _ (Eff.mk (some (72, _)) []) [], Ro.mk _ (Eff.mk (some (73, _)) []) [], Ro.mk _ (Eff.mk (some (74, _)) []) [], Ro.mk _ (Eff.mk (some (75, _)) []) [], Ro.mk _ (Eff.mk (some (76, _)) []) [], Ro.mk _ (Eff.mk (some (77, _)) []) [], Ro.mk _ (Eff.mk (some (78, _)) []) [], Ro.mk _ (Eff.mk (some (79, _)) []) [], Ro.mk _ (Eff.mk (some (80, _)) []) [1], Ro.mk _ (Eff.mk (some (81, _)) []) [1], Ro.mk _ (Eff.mk (some (82, _)) []) [], Ro.mk _ (Eff.mk (some (83, _)) []) [], Ro.mk _ (Eff.mk (some (84, _)) []) [], Ro.mk _ (Eff.mk (some (85, _)) []) [], Ro.mk _ (Eff.mk (some (86, _)) []) [], Ro.mk _ (Eff.mk (some (87, _)) []) [], Ro.mk _ (Eff.mk (some (88, _)) []) [], Ro.mk _ (Eff.mk (some (89, _)) []) [], Ro.mk _ (Eff.mk (some (90, _)) []) [], Ro.mk _ (Eff.mk (some (63, _)) []) []] rfl ⟨(fun _ _ => .move rfl rfl), (fun _ _ => .un rfl rfl rfl), (fun _ _ => .move rfl rfl), (.inr ⟨66, _, rfl, rfl, rfl, rfl, fun _ _ => .fieldp rfl rfl rfl rfl fo32_0⟩), (.inr ⟨66, _, rfl, rfl, rfl, rfl, fun _ _ => .fieldp rfl rfl rfl rfl fo30_1⟩), (.inr ⟨66, _, rfl, rfl, rfl, rfl, fun _ _ => .ldp rfl rfl rfl rfl rfl tk3⟩), (.inr ⟨66, _, rfl, rfl, rfl, rfl, fun _ _ => .move rfl rfl⟩), (.inr ⟨66, _, rfl, rfl, rfl, rfl, fun _ _ => .move rfl rfl⟩), (.inr ⟨66, _, rfl, rfl, rfl, rfl, fun _ _ => .binv (.int .i64 ((i - 1 : Nat) : Int)) rfl rfl rfl rfl (congrArg _ (by (try dsimp only); rw [IntKind.wrap_i64]; omega))⟩), (.inr ⟨66, _, rfl, rfl, rfl, rfl, fun _ _ => .idx (l[i - 1]) rfl rfl rfl rfl et24 (fun _ => rfl) (Int.natCast_nonneg _) (get_nat hi1)⟩), (.inr ⟨66, _, rfl, rfl, rfl, rfl, fun _ _ => .fielde rfl rfl rfl fo32_0⟩), (.inr ⟨66, _, rfl, rfl, rfl, rfl, fun _ _ => .fielde rfl rfl rfl fo30_1⟩), (.inr ⟨66, _, rfl, rfl, rfl, rfl, fun _ _ => .lde rfl rfl rfl rfl tk3⟩), (.inr ⟨66, _, rfl, rfl, rfl, rfl, fun _ _ => .bin rfl rfl rfl rfl⟩), (.inr ⟨66, _, rfl, rfl, rfl, rfl, fun _ _ => .binv (.bool false) rfl rfl rfl rfl (congrArg (fun x => Value.bool (!x)) (decide_eq_true hv2))⟩), (.inr ⟨66, _, rfl, rfl, rfl, rfl, fun _ _ => .move rfl rfl⟩), (.inr ⟨79, _, rfl, rfl, rfl, rfl, fun _ _ => .fieldp rfl rfl rfl rfl fo32_1⟩), (.inr ⟨79, _, rfl, rfl, rfl, rfl, fun _ _ => .ldp rfl rfl rfl rfl rfl tk3⟩), (.inr ⟨79, _, rfl, rfl, rfl, rfl, fun _ _ => .move rfl rfl⟩), (.inr ⟨79, _, rfl, rfl, rfl, rfl, fun _ _ => .move rfl rfl⟩), (.inr ⟨79, _, rfl, rfl, rfl, rfl, fun _ _ => .binv (.int .i64 ((i - 1 : Nat) : Int)) rfl rfl rfl rfl (congrArg _ (by (try dsimp only); rw [IntKind.wrap_i64]; omega))⟩), (.inr ⟨79, _, rfl, rfl, rfl, rfl, fun _ _ => .idx (l[i - 1]) rfl rfl rfl rfl et24 (fun _ => rfl) (Int.natCast_nonneg _) (get_nat hi1)⟩), (.inr ⟨79, _, rfl, rfl, rfl, rfl, fun _ _ => .fielde rfl rfl rfl fo32_1⟩), (.inr ⟨79, _, rfl, rfl, rfl, rfl, fun _ _ => .lde rfl rfl rfl rfl tk3⟩), (.inr ⟨79, _, rfl, rfl, rfl, rfl, fun _ _ => .bin rfl rfl rfl rfl⟩), (.inr ⟨66, _, rfl, rfl, rfl, rfl, fun _ _ => .pick rfl rfl rfl⟩), (fun _ _ => .pick rfl rfl rfl), (fun _ _ => .assign rfl rfl), trivial⟩ (by kernel_rfl) ?_
        refine .next ?_
        refine .cond rfl (fun h15 => ?_) (fun h15 => ?_)
        ·skip
         have hep2 : l[i].ep ≤ l[i - 1].ep := of_decide_eq_true h15
         have hs : stepAt l i = false := by rw [stepAt_prev hi h0 hi1]; simp [stepB, hnm, hep2]
         refine .seq ?_
         refine .region ?_
         refine .step rfl (.assign rfl rfl) ?_
         refine .nil ?_
         refine .next ?_
         refine .ret ?_
         rw [rightK_false hi hs]
         exact TE.retf rfl rfl rfl trivial
        ·skip
         have hep2 : l[i - 1].ep < l[i].ep := by have q : ¬ l[i].ep ≤ l[i - 1].ep := of_decide_eq_false h15; omega
         have hs : stepAt l i = true := by rw [stepAt_prev hi h0 hi1]; exact stepB_next hR hep hnm hv2 hep2
         refine .skip ?_
         refine TE.blk ?_
         refine TE.blk ?_
         refine .next ?_
         refine .region ?_
         refine .step rfl (.binv (.int .i64 ((i + 1 : Nat) : Int)) rfl rfl rfl rfl (congrArg _ (by (try dsimp only); rw [IntKind.wrap_i64]; omega))) ?_
         refine .step rfl (.move rfl rfl) ?_
         refine .nil ?_
         refine TE.setv 8 (.int .i64 ((i + 1 : Nat) : Int)) rfl (congrArg _ (by first | rfl | (dsimp only; first | done | rfl | omega))) ?_
         exact TE.round id (fun _ _ e => e) (i + 1) ⟨hi, fun j hj => (Nat.lt_or_eq_of_le (Nat.le_of_lt_succ hj)).elim (i2 j) (fun e => by subst e; exact hs)⟩ (by omega) ⟨⟨rfl, rfl⟩, ⟨rfl, rfl⟩, ⟨rfl, rfl⟩, ⟨rfl, rfl⟩, trivial⟩ trivial
       ·skip
        have hs : stepAt l i = false := by rw [stepAt_prev hi h0 hi1]; simp [stepB, hv2, hnm]
        refine .draw mixed [Ro.mk _ (Eff.mk (some (64, _)) []) [], Ro.mk _ (Eff.mk (some (65, _)) []) [], Ro.mk _ (Eff.mk (some (66, _)) []) [], Ro.mk _ (Eff.mk (some (67, _)) []) [1], Ro.mk _ (Eff.mk (some (68, _)) []) [1], Ro.mk _ (Eff.mk (some (69, _)) []) [1], Ro.mk _ (Eff.mk (some (70, _)) []) [], Ro.mk _ (Eff.mk (some (71, _)) []) [], Ro.mk _ (Eff.mk (some (72, _)) []) [], Ro.mk _ (Eff.mk (some (73, _)) []) [], Ro.mk _ (Eff.mk (some (74, _)) []) [], Ro.mk _ (Eff.mk (some (75, _)) []) [], Ro.mk _ (Eff.mk (some (76, _)) []) [], Ro.mk _ (Eff.mk (some (77, _)) []) [], Ro.mk _ (Eff.mk (some (78, _)) []) [], Ro.mk _ (Eff.mk (some (79, _)) []) [], Ro.mk _ (Eff.mk (some (80, _)) []) [], Ro.mk _ (Eff.mk (some (81, _)) []) [], Ro.mk _ (Eff.mk (some (82, _)) []) [], Ro.mk _ (Eff.mk (some (83, _)) []) [], Ro.mk _ (Eff.mk (some (84, _)) []) [], Ro.mk _ (Eff.mk (some (85, _)) []) [], Ro.mk _ (Eff.mk (some (86, _)) []) [], Ro.mk _ (Eff.mk (some (87, _)) []) [], Ro.mk _ (Eff.mk (some (88, _)) []) [], Ro.mk _ (Eff.mk (some (89, _)) []) [], Ro.mk _ (Eff.mk (some (90, _)) []) [], Ro.mk _ (Eff.mk (some (63, _)) []) []] rfl ⟨(fun _ _ => .move rfl rfl), (fun _ _ => .un rfl rfl rfl), (fun _ _ => .move rfl rfl), (.inr ⟨66, _, rfl, rfl, rfl, rfl, fun _ _ => .fieldp rfl rfl rfl rfl fo32_0⟩), (.inr ⟨66, _, rfl, rfl, rfl, rfl, fun _ _ => .fieldp rfl rfl rfl rfl fo30_1⟩), (.inr ⟨66, _, rfl, rfl, rfl, rfl, fun _ _ => .ldp rfl rfl rfl rfl rfl tk3⟩), (.inr ⟨66, _, rfl, rfl, rfl, rfl, fun _ _ => .move rfl rfl⟩), (.inr ⟨66, _, rfl, rfl, rfl, rfl, fun _ _ => .move rfl rfl⟩), (.inr ⟨66, _, rfl, rfl, rfl, rfl, fun _ _ => .binv (.int .i64 ((i - 1 : Nat) : Int)) rfl rfl rfl rfl (congrArg _ (by (try dsimp only); rw [IntKind.wrap_i64]; omega))⟩), (.inr ⟨66, _, rfl, rfl, rfl, rfl, fun _ _ => .idx (l[i - 1]) rfl rfl rfl rfl et24 (fun _ => rfl) (Int.natCast_nonneg _) (get_nat hi1)⟩), (.inr ⟨66, _, rfl, rfl, rfl, rfl, fun _ _ => .fielde rfl rfl rfl fo32_0⟩), (.inr ⟨66, _, rfl, rfl, rfl, rfl, fun _ _ => .fielde rfl rfl rfl fo30_1⟩), (.inr ⟨66, _, rfl, rfl, rfl, rfl, fun _ _ => .lde rfl rfl rfl rfl tk3⟩), (.inr ⟨66, _, rfl, rfl, rfl, rfl, fun _ _ => .bin rfl rfl rfl rfl⟩), (.inr ⟨66, _, rfl, rfl, rfl, rfl, fun _ _ => .binv (.bool true) rfl rfl rfl rfl (congrArg (fun x => Value.bool (!x)) (decide_eq_false hv2))⟩), (.inr ⟨66, _, rfl, rfl, rfl, rfl, fun _ _ => .move rfl rfl⟩), (.inr ⟨79, _, rfl, rfl, rfl, rfl, 80, rfl, rfl, rfl⟩), (.inr ⟨79, _, rfl, rfl, rfl, rfl, 81, rfl, rfl, rfl⟩), (.inr ⟨79, _, rfl, rfl, rfl, rfl, 82, rfl, rfl, rfl⟩), (.inr ⟨79, _, rfl, rfl, rfl, rfl, 83, rfl, rfl, rfl⟩), (.inr ⟨79, _, rfl, rfl, rfl, rfl, 84, rfl, rfl, rfl⟩), (.inr ⟨79, _, rfl, rfl, rfl, rfl, 85, rfl, rfl, rfl⟩), (.inr ⟨79, _, rfl, rfl, rfl, rfl, 86, rfl, rfl, rfl⟩), (.inr ⟨79, _, rfl, rfl, rfl, rfl, 87, rfl, rfl, rfl⟩), (.inr ⟨79, _, rfl, rfl, rfl, rfl, 88, rfl, rfl, rfl⟩), (.inr ⟨66, _, rfl, rfl, rfl, rfl, fun _ _ => .pick rfl rfl rfl⟩), (fun _ _ => .pick rfl rfl rfl), (fun _ _ => .assign rfl rfl), trivial⟩ (by kernel_rfl) ?_
        refine .next ?_
        refine .cond rfl (fun h16 => ?_) (fun h16 => absurd h16 (by decide))
        refine .seq ?_
        refine .region ?_
        refine .step rfl (.assign rfl rfl) ?_
        refine .nil ?_
        refine .next ?_
        refine .ret ?_
        rw [rightK_false hi hs]
        exact TE.retf rfl rfl rfl trivial
     ·skip
      have hR : rightE l[i].nm l[i].ver l[i].key = false := h11
      have hs := stepAt_right hi hR
      refine .step rfl (.un rfl rfl rfl) ?_
      refine .step rfl (.move rfl rfl) ?_
      refine .no 33 rfl rfl rfl rfl rfl rfl rfl ?_
      refine .no 33 rfl rfl rfl rfl rfl rfl rfl ?_
      refine .no 33 rfl rfl rfl rfl rfl rfl rfl ?_
      refine .step rfl (.pick rfl rfl rfl) ?_
      refine .step rfl (.assign rfl rfl) ?_
      refine .nil ?_
      refine .next ?_
      refine .cond rfl (fun h17 => ?_) (fun h17 => absurd h17 (by decide))
      refine .seq ?_
      refine .region ?_
      refine .step rfl (.assign rfl rfl) ?_
      refine .nil ?_
      refine .next ?_
      refine .ret ?_
      rw [rightK_false hi hs]
      exact TE.retf rfl rfl rfl trivial
    ·skip
     refine .draw mixed [Ro.mk _ (Eff.mk (some (13, _)) []) [], Ro.mk _ (Eff.mk (some (14, _)) []) [], Ro.mk _ (Eff.mk (some (15, _)) []) [], Ro.mk _ (Eff.mk (some (16, _)) []) [], Ro.mk _ (Eff.mk (some (17, _)) []) [], Ro.mk _ (Eff.mk (some (18, _)) []) [], Ro.mk _ (Eff.mk (some (19, _)) []) [], Ro.mk _ (Eff.mk (some (20, _)) []) [], Ro.mk _ (Eff.mk (some (21, _)) []) [], Ro.mk _ (Eff.mk (some (22, _)) []) [], Ro.mk _ (Eff.mk (some (23, _)) []) [1], Ro.mk _ (Eff.mk (some (24, _)) []) [1], Ro.mk _ (Eff.mk (some (25, _)) []) [1], Ro.mk _ (Eff.mk (some (26, _)) []) [], Ro.mk _ (Eff.mk (some (27, _)) []) [], Ro.mk _ (Eff.mk (some (5, _)) []) []] rfl ⟨(fun _ _ => .move rfl rfl), (fun _ _ => .binv (.bool false) rfl rfl rfl rfl (congrArg Value.bool (decide_eq_false (by omega)))), (fun _ _ => .move rfl rfl), (.inr ⟨15, _, rfl, rfl, rfl, rfl, fun _ _ => .move rfl rfl⟩), (.inr ⟨15, _, rfl, rfl, rfl, rfl, fun _ _ => .move rfl rfl⟩), (.inr ⟨15, _, rfl, rfl, rfl, rfl, fun _ _ => .binv (.int .i64 ((i - 1 : Nat) : Int)) rfl rfl rfl rfl (congrArg _ (by (try dsimp only); rw [IntKind.wrap_i64]; omega))⟩), (.inr ⟨15, _, rfl, rfl, rfl, rfl, fun _ _ => .idx (l[i - 1]) rfl rfl rfl rfl et24 (fun _ => rfl) (Int.natCast_nonneg _) (get_nat hi1)⟩), (.inr ⟨15, _, rfl, rfl, rfl, rfl, fun _ _ => .fielde rfl rfl rfl fo32_0⟩), (.inr ⟨15, _, rfl, rfl, rfl, rfl, fun _ _ => .fielde rfl rfl rfl fo30_0⟩), (.inr ⟨15, _, rfl, rfl, rfl, rfl, fun _ _ => .lde rfl rfl rfl rfl tk9⟩), (.inr ⟨15, _, rfl, rfl, rfl, rfl, fun _ _ => .fieldp rfl rfl rfl rfl fo32_0⟩), (.inr ⟨15, _, rfl, rfl, rfl, rfl, fun _ _ => .fieldp rfl rfl rfl rfl fo30_0⟩), (.inr ⟨15, _, rfl, rfl, rfl, rfl, fun _ _ => .ldp rfl rfl rfl rfl rfl tk9⟩), (.inr ⟨15, _, rfl, rfl, rfl, rfl, fun _ _ => .binv (.bool true) rfl rfl rfl rfl (congrArg (fun x => Value.bool (!x)) (decide_eq_false hnm))⟩), (fun _ _ => .pick rfl rfl rfl), (fun _ _ => .assign rfl rfl), trivial⟩ (by kernel_rfl) ?_
     refine .next ?_
     refine .block ?_
     refine .seq ?_
     refine .region ?_
     refine .step rfl (.fieldp rfl rfl rfl rfl fo32_0) ?_
     refine .step rfl (.ldpm rfl rfl rfl rfl rfl rfl tk30) ?_
     refine .step rfl (.callf rfl cf32 rfl ⟨trivial, trivial⟩ (dmay_pf ⟨l[i].nm, l[i].ver, l[i].key⟩)) ?_
     refine .case 31 rfl (fun h18 => ?_) (fun h18 => ?_)
     ·skip
      have hR : rightE l[i].nm l[i].ver l[i].key = true := h18
      refine .step rfl (.un rfl rfl rfl) ?_
      refine .step rfl (.move rfl rfl) ?_
      refine .go 33 rfl rfl rfl rfl (.fieldp rfl rfl rfl rfl fo32_1) ?_
      refine .go 33 rfl rfl rfl rfl (.ldp rfl rfl rfl rfl rfl tk3) ?_
      refine .go 33 rfl rfl rfl rfl (.bin rfl rfl rfl rfl) ?_
      refine .step rfl (.pick rfl rfl rfl) ?_
      refine .step rfl (.assign rfl rfl) ?_
      refine .nil ?_
      refine .next ?_
      refine .cond rfl (fun h19 => ?_) (fun h19 => ?_)
      ·skip
       have hep : ¬ 1 ≤ l[i].ep := by have q : l[i].ep < 1 := of_decide_eq_true h19; omega
       have hs := stepAt_ep hi hep
       refine .seq ?_
       refine .region ?_
       refine .step rfl (.assign rfl rfl) ?_
       refine .nil ?_
       refine .next ?_
       refine .ret ?_
       rw [rightK_false hi hs]
       exact TE.retf rfl rfl rfl trivial
      ·skip
       have hep : 1 ≤ l[i].ep := by have q : ¬ l[i].ep < 1 := of_decide_eq_false h19; omega
       refine .seq ?_
       by_cases hv1 : l[i].ver = 1
       ·skip
        refine .draw mixed [Ro.mk _ (Eff.mk (some (39, _)) []) [], Ro.mk _ (Eff.mk (some (40, _)) []) [], Ro.mk _ (Eff.mk (some (41, _)) []) [1], Ro.mk _ (Eff.mk (some (42, _)) []) [1], Ro.mk _ (Eff.mk (some (43, _)) []) [1], Ro.mk _ (Eff.mk (some (44, _)) []) [], Ro.mk _ (Eff.mk (some (45, _)) []) [], Ro.mk _ (Eff.mk (some (46, _)) []) [], Ro.mk _ (Eff.mk (some (47, _)) []) [], Ro.mk _ (Eff.mk (some (48, _)) []) [], Ro.mk _ (Eff.mk (some (49, _)) []) [], Ro.mk _ (Eff.mk (some (50, _)) []) [], Ro.mk _ (Eff.mk (some (51, _)) []) [], Ro.mk _ (Eff.mk (some (52, _)) []) [], Ro.mk _ (Eff.mk (some (53, _)) []) [], Ro.mk _ (Eff.mk (some (54, _)) []) [], Ro.mk _ (Eff.mk (some (55, _)) []) [], Ro.mk _ (Eff.mk (some (56, _)) []) [1], Ro.mk _ (Eff.mk (some (57, _)) []) [1], Ro.mk _ (Eff.mk (some (58, _)) []) [1], Ro.mk _ (Eff.mk (some (59, _)) []) [], Ro.mk _ (Eff.mk (some (60, _)) []) [], Ro.mk _ (Eff.mk (some (61, _)) []) [], Ro.mk _ (Eff.mk (some (62, _)) []) [], Ro.mk _ (Eff.mk (some (38, _)) []) []] rfl ⟨(fun _ _ => .move rfl rfl), (fun _ _ => .move rfl rfl), (.inr ⟨40, _, rfl, rfl, rfl, rfl, fun _ _ => .fieldp rfl rfl rfl rfl fo32_0⟩), (.inr ⟨40, _, rfl, rfl, rfl, rfl, fun _ _ => .fieldp rfl rfl rfl rfl fo30_1⟩), (.inr ⟨40, _, rfl, rfl, rfl, rfl, fun _ _ => .ldp rfl rfl rfl rfl rfl tk3⟩), (.inr ⟨40, _, rfl, rfl, rfl, rfl, fun _ _ => .binv (.bool false) rfl rfl rfl rfl (congrArg (fun x => Value.bool (!x)) (decide_eq_true hv1))⟩), (.inr ⟨40, _, rfl, rfl, rfl, rfl, fun _ _ => .move rfl rfl⟩), (.inr ⟨45, _, rfl, rfl, rfl, rfl, fun _ _ => .move rfl rfl⟩), (.inr ⟨45, _, rfl, rfl, rfl, rfl, fun _ _ => .binv (.bool true) rfl rfl rfl rfl (congrArg Value.bool (decide_eq_true (by omega)))⟩), (.inr ⟨45, _, rfl, rfl, rfl, rfl, fun _ _ => .move rfl rfl⟩), (.inr ⟨48, _, rfl, rfl, rfl, rfl, fun _ _ => .move rfl rfl⟩), (.inr ⟨48, _, rfl, rfl, rfl, rfl, fun _ _ => .move rfl rfl⟩), (.inr ⟨48, _, rfl, rfl, rfl, rfl, fun _ _ => .binv (.int .i64 ((i - 1 : Nat) : Int)) rfl rfl rfl rfl (congrArg _ (by (try dsimp only); rw [IntKind.wrap_i64]; omega))⟩), (.inr ⟨48, _, rfl, rfl, rfl, rfl, fun _ _ => .idx (l[i - 1]) rfl rfl rfl rfl et24 (fun _ => rfl) (Int.natCast_nonneg _) (get_nat hi1)⟩), (.inr ⟨48, _, rfl, rfl, rfl, rfl, fun _ _ => .fielde rfl rfl rfl fo32_0⟩), (.inr ⟨48, _, rfl, rfl, rfl, rfl, fun _ _ => .fielde rfl rfl rfl fo30_0⟩), (.inr ⟨48, _, rfl, rfl, rfl, rfl, fun _ _ => .lde rfl rfl rfl rfl tk9⟩), (.inr ⟨48, _, rfl, rfl, rfl, rfl, fun _ _ => .fieldp rfl rfl rfl rfl fo32_0⟩), (.inr ⟨48, _, rfl, rfl, rfl, rfl, fun _ _ => .fieldp rfl rfl rfl rfl fo30_0⟩), (.inr ⟨48, _, rfl, rfl, rfl, rfl, fun _ _ => .ldp rfl rfl rfl rfl rfl tk9⟩), (.inr ⟨48, _, rfl, rfl, rfl, rfl, fun _ _ => .bin rfl rfl rfl rfl⟩), (.inr ⟨45, _, rfl, rfl, rfl, rfl, fun _ _ => .pick rfl rfl rfl⟩), (.inr ⟨40, _, rfl, rfl, rfl, rfl, fun _ _ => .pick rfl rfl rfl⟩), (fun _ _ => .pick rfl rfl rfl), (fun _ _ => .assign rfl rfl), trivial⟩ (by kernel_rfl) ?_
        refine .next ?_
        refine .cond rfl (fun h21 => ?_) (fun h21 => ?_)
        ·skip
         have hbl : Op.bytesLess l[i].nm l[i - 1].nm = true := (bl_gtr _ _).symm.trans h21
         have hs : stepAt l i = false := by rw [stepAt_prev hi h0 hi1]; simp [stepB, hnm, hbl]
         refine .seq ?_
         refine .region ?_
         refine .step rfl (.assign rfl rfl) ?_
         refine .nil ?_
         refine .next ?_
         refine .ret ?_
         rw [rightK_false hi hs]
         exact TE.retf rfl rfl rfl trivial
        ·skip
         have hbl : Op.bytesLess l[i].nm l[i - 1].nm = false := (bl_gtr _ _).symm.trans h21
         have hs : stepAt l i = true := by rw [stepAt_prev hi h0 hi1]; exact stepB_new hR hep hnm hbl hv1
         refine .seq ?_
         refine .draw mixed [Ro.mk _ (Eff.mk (some (64, _)) []) [], Ro.mk _ (Eff.mk (some (65, _)) []) [], Ro.mk _ (Eff.mk (some (66, _)) []) [], Ro.mk _ (Eff.mk (some (67, _)) []) [], Ro.mk _ (Eff.mk (some (68, _)) []) [], Ro.mk _ (Eff.mk (some (69, _)) []) [], Ro.mk _ (Eff.mk (some (70, _)) []) [], Ro.mk _ (Eff.mk (some (71, _)) []) [], Ro.mk _ (Eff.mk (some (72, _)) []) [], Ro.mk _ (Eff.mk (some (73, _)) []) [], Ro.mk _ (Eff.mk (some (74, _)) []) [], Ro.mk _ (Eff.mk (some (75, _)) []) [], Ro.mk _ (Eff.mk (some (76, _)) []) [], Ro.mk _ (Eff.mk (some (77, _)) []) [], Ro.mk _ (Eff.mk (some (78, _)) []) [], Ro.mk _ (Eff.mk (some (79, _)) []) [], Ro.mk _ (Eff.mk (some (80, _)) []) [], Ro.mk _ (Eff.mk (some (81, _)) []) [], Ro.mk _ (Eff.mk (some (82, _)) []) [], Ro.mk _ (Eff.mk (some (83, _)) []) [], Ro.mk _ (Eff.mk (some (84, _)) []) [], Ro.mk _ (Eff.mk (some (85, _)) []) [], Ro.mk _ (Eff.mk (some (86, _)) []) [], Ro.mk _ (Eff.mk (some (87, _)) []) [], Ro.mk _ (Eff.mk (some (88, _)) []) [], Ro.mk _ (Eff.mk (some (89, _)) []) [], Ro.mk _ (Eff.mk (some (90, _)) []) [], Ro.mk _ (Eff.mk (some (63, _)) []) []] rfl ⟨(fun _ _ => .move rfl rfl), (fun _ _ => .un rfl rfl rfl), (fun _ _ => .move rfl rfl), (.inr ⟨66, _, rfl, rfl, rfl, rfl, 67, rfl, rfl, rfl⟩), (.inr ⟨66, _, rfl, rfl, rfl, rfl, 68, rfl, rfl, rfl⟩), (.inr ⟨66, _, rfl, rfl, rfl, rfl, 69, rfl, rfl, rfl⟩), (.inr ⟨66, _, rfl, rfl, rfl, rfl, 70, rfl, rfl, rfl⟩), (.inr ⟨66, _, rfl, rfl, rfl, rfl, 71, rfl, rfl, rfl⟩), (.inr ⟨66, _, rfl, rfl, rfl, rfl, 72, rfl, rfl, rfl⟩), (.inr ⟨66, _, rfl, rfl, rfl, rfl, 73, rfl, rfl, rfl⟩), (.inr ⟨66, _, rfl, rfl, rfl, rfl, 74, rfl, rfl, rfl⟩), (.inr ⟨66, _, rfl, rfl, rfl, rfl, 75, rfl, rfl, rfl⟩), (.inr ⟨66, _, rfl, rfl, rfl, rfl, 76, rfl, rfl, rfl⟩), (.inr ⟨66, _, rfl, rfl, rfl, rfl, 77, rfl, rfl, rfl⟩), (.inr ⟨66, _, rfl, rfl, rfl, rfl, 78, rfl, rfl, rfl⟩), (.inr ⟨66, _, rfl, rfl, rfl, rfl, 79, rfl, rfl, rfl⟩), (.inl ⟨79, _, rfl, rfl, rfl, rfl, rfl, rfl⟩), (.inl ⟨79, _, rfl, rfl, rfl, rfl, rfl, rfl⟩), (.inl ⟨79, _, rfl, rfl, rfl, rfl, rfl, rfl⟩), (.inl ⟨79, _, rfl, rfl, rfl, rfl, rfl, rfl⟩), (.inl ⟨79, _, rfl, rfl, rfl, rfl, rfl, rfl⟩), (.inl ⟨79, _, rfl, rfl, rfl, rfl, rfl, rfl⟩), (.inl ⟨79, _, rfl, rfl, rfl, rfl, rfl, rfl⟩), (.inl ⟨79, _, rfl, rfl, rfl, rfl, rfl, rfl⟩), (.inl ⟨79, _, rfl, rfl, rfl, rfl, rfl, rfl⟩), (.inr ⟨66, _, rfl, rfl, rfl, rfl, 89, rfl, rfl, rfl⟩), (fun _ _ => .pick rfl rfl rfl), (fun _ _ => .assign rfl rfl), trivial⟩ (by kernel_rfl) ?_
         refine .next ?_
         refine .cond rfl (fun h22 => absurd h22 (by decide)) (fun h22 => ?_)
         refine .skip ?_
         refine TE.blk ?_
         refine TE.blk ?_
         refine .next ?_
         refine .region ?_
         refine .step rfl (.binv (.int .i64 ((i + 1 : Nat) : Int)) rfl rfl rfl rfl (congrArg _ (by (try dsimp only); rw [IntKind.wrap_i64]; omega))) ?_
         refine .step rfl (.move rfl rfl) ?_
         refine .nil ?_
         refine TE.setv 8 (.int .i64 ((i + 1 : Nat) : Int)) rfl (congrArg _ (by first | rfl | (dsimp only; first | done | rfl | omega))) ?_
         exact TE.round id (fun _ _ e => e) (i + 1) ⟨hi, fun j hj => (Nat.lt_or_eq_of_le (Nat.le_of_lt_succ hj)).elim (i2 j) (fun e => by subst e; exact hs)⟩ (by omega) ⟨⟨rfl, rfl⟩, ⟨rfl, rfl⟩, ⟨rfl, rfl⟩, ⟨rfl, rfl⟩, trivial⟩ trivial
       ·skip
        have hs : stepAt l i = false := by rw [stepAt_prev hi h0 hi1]; simp [stepB, hv1, hnm]
        refine .draw mixed [Ro.mk _ (Eff.mk (some (39, _)) []) [], Ro.mk _ (Eff.mk (some (40, _)) []) [], Ro.mk _ (Eff.mk (some (41, _)) []) [1], Ro.mk _ (Eff.mk (some (42, _)) []) [1], Ro.mk _ (Eff.mk (some (43, _)) []) [1], Ro.mk _ (Eff.mk (some (44, _)) []) [], Ro.mk _ (Eff.mk (some (45, _)) []) [], Ro.mk _ (Eff.mk (some (46, _)) []) [], Ro.mk _ (Eff.mk (some (47, _)) []) [], Ro.mk _ (Eff.mk (some (48, _)) []) [], Ro.mk _ (Eff.mk (some (49, _)) []) [], Ro.mk _ (Eff.mk (some (50, _)) []) [], Ro.mk _ (Eff.mk (some (51, _)) []) [], Ro.mk _ (Eff.mk (some (52, _)) []) [], Ro.mk _ (Eff.mk (some (53, _)) []) [], Ro.mk _ (Eff.mk (some (54, _)) []) [], Ro.mk _ (Eff.mk (some (55, _)) []) [], Ro.mk _ (Eff.mk (some (56, _)) []) [], Ro.mk _ (Eff.mk (some (57, _)) []) [], Ro.mk _ (Eff.mk (some (58, _)) []) [], Ro.mk _ (Eff.mk (some (59, _)) []) [], Ro.mk _ (Eff.mk (some (60, _)) []) [], Ro.mk _ (Eff.mk (some (61, _)) []) [], Ro.mk _ (Eff.mk (some (62, _)) []) [], Ro.mk _ (Eff.mk (some (38, _)) []) []] rfl ⟨(fun _ _ => .move rfl rfl), (fun _ _ => .move rfl rfl), (.inr ⟨40, _, rfl, rfl, rfl, rfl, fun _ _ => .fieldp rfl rfl rfl rfl fo32_0⟩), (.inr ⟨40, _, rfl, rfl, rfl, rfl, fun _ _ => .fieldp rfl rfl rfl rfl fo30_1⟩), (.inr ⟨40, _, rfl, rfl, rfl, rfl, fun _ _ => .ldp rfl rfl rfl rfl rfl tk3⟩), (.inr ⟨40, _, rfl, rfl, rfl, rfl, fun _ _ => .binv (.bool true) rfl rfl rfl rfl (congrArg (fun x => Value.bool (!x)) (decide_eq_false hv1))⟩), (.inr ⟨40, _, rfl, rfl, rfl, rfl, fun _ _ => .move rfl rfl⟩), (.inr ⟨45, _, rfl, rfl, rfl, rfl, 46, rfl, rfl, rfl⟩), (.inr ⟨45, _, rfl, rfl, rfl, rfl, 47, rfl, rfl, rfl⟩), (.inr ⟨45, _, rfl, rfl, rfl, rfl, 48, rfl, rfl, rfl⟩), (.inl ⟨48, _, rfl, rfl, rfl, rfl, rfl, rfl⟩), (.inl ⟨48, _, rfl, rfl, rfl, rfl, rfl, rfl⟩), (.inl ⟨48, _, rfl, rfl, rfl, rfl, rfl, rfl⟩), (.inl ⟨48, _, rfl, rfl, rfl, rfl, rfl, rfl⟩), (.inl ⟨48, _, rfl, rfl, rfl, rfl, rfl, rfl⟩), (.inl ⟨48, _, rfl, rfl, rfl, rfl, rfl, rfl⟩), (.inl ⟨48, _, rfl, rfl, rfl, rfl, rfl, rfl⟩), (.inl ⟨48, _, rfl, rfl, rfl, rfl, rfl, rfl⟩), (.inl ⟨48, _, rfl, rfl, rfl, rfl, rfl, rfl⟩), (.inl ⟨48, _, rfl, rfl, rfl, rfl, rfl, rfl⟩), (.inl ⟨48, _, rfl, rfl, rfl, rfl, rfl, rfl⟩), (.inr ⟨45, _, rfl, rfl, rfl, rfl, 60, rfl, rfl, rfl⟩), (.inr ⟨40, _, rfl, rfl, rfl, rfl, fun _ _ => .pick rfl rfl rfl⟩), (fun _ _ => .pick rfl rfl rfl), (fun _ _ => .assign rfl rfl), trivial⟩ (by kernel_rfl) ?_
        refine .next ?_
        refine .cond rfl (fun h23 => ?_) (fun h23 => absurd h23 (by decide))
        refine .seq ?_
        refine .region ?_
        refine .step rfl (.assign rfl rfl) ?_
        refine .nil ?_
        refine .next ?_
        refine .ret ?_
        rw [rightK_false hi hs]
        exact TE.retf rfl rfl rfl trivial
     ·skip
      have hR : rightE l[i].nm l[i].ver l[i].key = false := h18
      have hs := stepAt_right hi hR
      refine .step rfl (.un rfl rfl rfl) ?_
      refine .step rfl (.move rfl rfl) ?_
      refine .no 33 rfl rfl rfl rfl rfl rfl rfl ?_
      refine .no 33 rfl rfl rfl rfl rfl rfl rfl ?_
      refine .no 33 rfl rfl rfl rfl rfl rfl rfl ?_
      refine .step rfl (.pick rfl rfl rfl) ?_
      refine .step rfl (.assign rfl rfl) ?_
      refine .nil ?_
      refine .next ?_
      refine .cond rfl (fun h24 => ?_) (fun h24 => absurd h24 (by decide))
      refine .seq ?_
      refine .region ?_
      refine .step rfl (.assign rfl rfl) ?_
      refine .nil ?_
      refine .next ?_
      refine .ret ?_
      rw [rightK_false hi hs]
      exact TE.retf rfl rfl rfl trivial
  ·skip
   have hi : ¬ (i < l.length) := by have q := of_decide_eq_false h1; (try dsimp only at q); omega
   have e : rightK l = true := rightK_true fun j hj => i2 j (by omega)
   refine .exit ?_
   refine TE.pass ?_
   refine TE.pass ?_
   refine TE.here ?_
   refine .next ?_
   refine .seq ?_
   refine .region ?_
   refine .step rfl (.assign rfl rfl) ?_
   refine .nil ?_
   refine .next ?_
   refine .ret ?_
   rw [e]
   exact TE.retf rfl rfl rfl trivial

end Go.Proofs.Ythidepbffhhkmaa
