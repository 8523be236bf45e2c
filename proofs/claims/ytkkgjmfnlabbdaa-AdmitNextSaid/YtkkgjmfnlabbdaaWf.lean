/-
  Admission: what a request is.
-/
import Derived.Test.YtkkgjmfnlabbdaaWe
namespace Go.Proofs.Ytkkgjmfnlabbdaa
set_option linter.unusedVariables false
set_option linter.unusedSimpArgs false
open Go.RowKit Pl

theorem cf11 : cfn Try.prog 11 = true := by kernel_rfl
theorem cf15 : cfn Try.prog 15 = true := by kernel_rfl
theorem cf21 : cfn Try.prog 21 = true := by kernel_rfl
theorem cf22 : cfn Try.prog 22 = true := by kernel_rfl
theorem cf23 : cfn Try.prog 23 = true := by kernel_rfl
theorem cf24 : cfn Try.prog 24 = true := by kernel_rfl
theorem cf25 : cfn Try.prog 25 = true := by kernel_rfl
theorem cf26 : cfn Try.prog 26 = true := by kernel_rfl
theorem cf27 : cfn Try.prog 27 = true := by kernel_rfl

set_option maxRecDepth 100000 in
set_option maxHeartbeats 1600000 in
theorem decide_any (l : List Kn) (w : List Pe) (u : Up) (hl : l.length ≤ 140737488355328) (hw : w.length ≤ 140737488355328) (hu : u.ok) (hk : isU64 (nextP l w u.nm).2) : PF Try.prog 13 [slT Kn.dv 4 l, slT Pe.dv 9 w, .ag u.dv] (.tp [.v (.int .i64 (decideP l w u).1), .v (.int .i64 (decideP l w u).2)]) := by
  refine PF.enter (fn := Try.f13) Try.func13 rfl Try.ntmps13 rfl (fun w0 => ?_)
  refine .seq ?_
  refine .region ?_
  refine .step rfl (.box 1 rfl rfl rfl rfl) ?_
  refine .step rfl (.assign rfl rfl) ?_
  refine .step rfl (.assign rfl rfl) ?_
  refine .nil ?_
  refine .next ?_
  refine .seq ?_
  refine .seq ?_
  refine .region ?_
  refine .step rfl (.ldpm rfl rfl rfl rfl rfl rfl tk27) ?_
  refine .step rfl (.callf rfl cf21 rfl ⟨trivial, trivial⟩ (pf_plain (Y := .v (.bool (rightU u))) rfl rfl (fun w' => rightU_any u w'))) ?_
  refine .step rfl (.un rfl rfl rfl) ?_
  refine .nil ?_
  refine .next ?_
  refine .cond rfl (fun h1 => ?_) (fun h1 => ?_)
  · skip
    have hr : rightU u = false := by simpa using h1
    refine .seq ?_
    refine .region ?_
    refine .step rfl (.assign rfl rfl) ?_
    refine .step rfl (.assign rfl rfl) ?_
    refine .nil ?_
    refine .next ?_
    refine .ret ?_
    have e : decideP l w u = (0, 23) := by unfold decideP decideG; rw [if_neg (by rw [hr]; simp)]
    rw [e]
    exact TE.rettf rfl rfl rfl (by simp only [allA, okF]; exact ⟨by first | trivial | exact pl_v _, by first | trivial | exact pl_v _, trivial⟩)
  · skip
    have hr : rightU u = true := by simpa using h1
    refine .skip ?_
    refine .next ?_
    refine .seq ?_
    refine .seq ?_
    refine .region ?_
    refine .step rfl (.move rfl rfl) ?_
    refine .step rfl (.fieldp rfl rfl rfl rfl fo27_0) ?_
    refine .step rfl (.ldp rfl rfl rfl rfl rfl tk9) ?_
    refine .step rfl (.fieldp rfl rfl rfl rfl fo27_1) ?_
    refine .step rfl (.ldp rfl rfl rfl rfl rfl tk3) ?_
    refine .step rfl (.callf rfl cf22 rfl ⟨trivial, trivial, trivial, trivial⟩ (find_any l u.nm u.ver hl)) ?_
    refine .step rfl (.move rfl rfl) ?_
    refine .step rfl (.extract rfl rfl rfl rfl) ?_
    refine .step rfl (.extract rfl rfl rfl rfl) ?_
    refine .step rfl (.alloc 2 rfl rfl zc50 rfl) ?_
    refine .step rfl (.store rfl rfl rfl sz50 rfl rfl) ?_
    refine .step rfl (.assign rfl rfl) ?_
    refine .nil ?_
    refine .next ?_
    refine .seq ?_
    refine .region ?_
    refine .step rfl (.move rfl rfl) ?_
    refine .nil ?_
    refine .next ?_
    refine .cond rfl (fun h2 => ?_) (fun h2 => ?_)
    · skip
      have hf : (findP l u.nm u.ver).2 = true := h2
      refine .seq ?_
      refine .region ?_
      refine .step rfl (.fieldp rfl rfl rfl rfl fo50_0) ?_
      refine .step rfl (.fieldp rfl rfl rfl rfl fo48_2) ?_
      refine .step rfl (.ldp rfl rfl rfl rfl rfl tk23) ?_
      refine .step rfl (.fieldp rfl rfl rfl rfl fo27_2) ?_
      refine .step rfl (.ldp rfl rfl rfl rfl rfl tk23) ?_
      refine .step rfl (.callf rfl cf23 rfl ⟨trivial, trivial, trivial, trivial⟩ (same_any _ _ _)) ?_
      refine .step rfl (.extract rfl rfl rfl rfl) ?_
      refine .step rfl (.extract rfl rfl rfl rfl) ?_
      refine .step rfl (.assign rfl rfl) ?_
      refine .step rfl (.assign rfl rfl) ?_
      refine .nil ?_
      refine .next ?_
      refine .ret ?_
      have e : decideP l w u = ((same (findP l u.nm u.ver).1.key u.key 2).1, (same (findP l u.nm u.ver).1.key u.key 2).2) := by unfold decideP decideG; rw [if_pos hr, if_pos hf]
      rw [e]
      exact TE.rettf rfl rfl rfl (by simp only [allA, okF]; exact ⟨by first | trivial | exact pl_v _, by first | trivial | exact pl_v _, trivial⟩)
    · skip
      have hf : (findP l u.nm u.ver).2 = false := h2
      refine .skip ?_
      refine .next ?_
      refine .seq ?_
      refine .seq ?_
      refine .region ?_
      refine .step rfl (.move rfl rfl) ?_
      refine .step rfl (.len rfl rfl ⟨_, _, rfl⟩ is30) ?_
      refine .step rfl (.move rfl rfl) ?_
      refine .nil ?_
      refine .next ?_
      refine .block ?_
      refine TC.loop (S := Nat) (fun k => k ≤ w.length ∧ ∀ j (hj : j < w.length), j < k → ¬ (w[j].u.nm = u.nm ∧ w[j].u.ver = u.ver)) (fun k => w.length - k) (fun k => [(0, .d (slT Kn.dv 4 l)), (1, .d (slT Pe.dv 9 w)), (5, .ptr 1 0), (35, .d (slT Pe.dv 9 w)), (36, .f (.v (.int .i64 w.length))), (37, .f (.v (.int .i64 k)))]) (fun k => [(1, .box 27 u.dv), (2, .dead)]) (0) ⟨Nat.zero_le _, fun j _ h => absurd h (Nat.not_lt_zero j)⟩ ⟨⟨rfl, rfl⟩, ⟨rfl, rfl⟩, ⟨rfl, rfl⟩, ⟨rfl, rfl⟩, ⟨rfl, rfl⟩, ⟨rfl, rfl⟩, trivial⟩ ⟨.inr rfl, .inl rfl, trivial⟩ (fun k hI => ?_)
      obtain ⟨hkl, hno⟩ := hI
      refine .seq ?_
      refine .region ?_
      refine .step rfl (.bin rfl rfl rfl rfl) ?_
      refine .nil ?_
      refine .next ?_
      refine .seq ?_
      refine .cond rfl (fun h3 => ?_) (fun h3 => ?_)
      · skip
        have hlt : k < w.length := by have := of_decide_eq_true h3; omega
        refine .skip ?_
        refine .next ?_
        refine .seq ?_
        refine .block ?_
        refine .seq ?_
        refine .region ?_
        refine .step rfl (.idx (w[k]) rfl rfl rfl rfl et30 (fun _ => rfl) (Int.natCast_nonneg k) (get_nat hlt)) ?_
        refine .step rfl (.ldem rfl rfl rfl rfl rfl tk52) ?_
        refine .step rfl (.alloc 3 rfl rfl zc52 rfl) ?_
        refine .step rfl (.store rfl rfl rfl sz52 rfl rfl) ?_
        refine .nil ?_
        refine .next ?_
        refine .seq ?_
        by_cases hn : (w[k]).u.nm = u.nm
        · skip
          refine .region ?_
          refine .step rfl (.fieldp rfl rfl rfl rfl fo52_0) ?_
          refine .step rfl (.fieldp rfl rfl rfl rfl fo27_0) ?_
          refine .step rfl (.ldp rfl rfl rfl rfl rfl tk9) ?_
          refine .step rfl (.fieldp rfl rfl rfl rfl fo27_0) ?_
          refine .step rfl (.ldp rfl rfl rfl rfl rfl tk9) ?_
          refine .step rfl (.binv (.bool true) rfl rfl rfl rfl (congrArg Value.bool (decide_eq_true hn))) ?_
          refine .step rfl (.move rfl rfl) ?_
          refine .go 47 rfl rfl rfl rfl (.fieldp rfl rfl rfl rfl fo52_0) ?_
          refine .go 47 rfl rfl rfl rfl (.fieldp rfl rfl rfl rfl fo27_1) ?_
          refine .go 47 rfl rfl rfl rfl (.ldp rfl rfl rfl rfl rfl tk3) ?_
          refine .go 47 rfl rfl rfl rfl (.fieldp rfl rfl rfl rfl fo27_1) ?_
          refine .go 47 rfl rfl rfl rfl (.ldp rfl rfl rfl rfl rfl tk3) ?_
          refine .go 47 rfl rfl rfl rfl (.bin rfl rfl rfl rfl) ?_
          refine .step rfl (.pick rfl rfl rfl) ?_
          refine .nil ?_
          refine .next ?_
          refine .cond rfl (fun h5 => ?_) (fun h5 => ?_)
          · skip
            have hver : w[k].u.ver = u.ver := of_decide_eq_true h5
            have hwk : waitsR w u = some w[k] := waitsR_at hlt hno ⟨hn, hver⟩
            refine .seq ?_
            refine .region ?_
            refine .step rfl (.fieldp rfl rfl rfl rfl fo52_0) ?_
            refine .step rfl (.fieldp rfl rfl rfl rfl fo27_2) ?_
            refine .step rfl (.ldp rfl rfl rfl rfl rfl tk23) ?_
            refine .step rfl (.fieldp rfl rfl rfl rfl fo27_2) ?_
            refine .step rfl (.ldp rfl rfl rfl rfl rfl tk23) ?_
            refine .step rfl (.callf rfl cf23 rfl ⟨trivial, trivial, trivial, trivial⟩ (same_any _ _ _)) ?_
            refine .step rfl (.extract rfl rfl rfl rfl) ?_
            refine .step rfl (.extract rfl rfl rfl rfl) ?_
            refine .step rfl (.assign rfl rfl) ?_
            refine .step rfl (.assign rfl rfl) ?_
            refine .nil ?_
            refine .next ?_
            refine .ret ?_
            have e : decideP l w u = ((same w[k].u.key u.key 1).1, (same w[k].u.key u.key 1).2) := by unfold decideP decideG; rw [if_pos hr, if_neg (by rw [hf]; simp), hwk]
            rw [e]
            exact TE.rettf rfl rfl rfl (by simp only [allA, okF]; exact ⟨by first | trivial | exact pl_v _, by first | trivial | exact pl_v _, trivial⟩)
          · skip
            have hnk : ¬ (w[k].u.nm = u.nm ∧ w[k].u.ver = u.ver) := fun q => of_decide_eq_false h5 q.2
            refine .skip ?_
            refine TE.blk ?_
            refine .next ?_
            refine .region ?_
            refine .step rfl (.binv (.int .i64 ((k + 1 : Nat) : Int)) rfl rfl rfl rfl (congrArg _ (wrap_succ hlt hw))) ?_
            refine .step rfl (.move rfl rfl) ?_
            refine .nil ?_
            exact TE.round id (fun _ _ e => e) (k + 1) ⟨hlt, fun j hj hjk => (Nat.lt_or_eq_of_le (Nat.le_of_lt_succ hjk)).elim (hno j hj) (fun e => by subst e; exact hnk)⟩ (by omega) ⟨⟨rfl, rfl⟩, ⟨rfl, rfl⟩, ⟨rfl, rfl⟩, ⟨rfl, rfl⟩, ⟨rfl, rfl⟩, ⟨rfl, rfl⟩, trivial⟩ ⟨.inr rfl, .inl rfl, trivial⟩
        · skip
          have hnk : ¬ (w[k].u.nm = u.nm ∧ w[k].u.ver = u.ver) := fun q => hn q.1
          refine .region ?_
          refine .step rfl (.fieldp rfl rfl rfl rfl fo52_0) ?_
          refine .step rfl (.fieldp rfl rfl rfl rfl fo27_0) ?_
          refine .step rfl (.ldp rfl rfl rfl rfl rfl tk9) ?_
          refine .step rfl (.fieldp rfl rfl rfl rfl fo27_0) ?_
          refine .step rfl (.ldp rfl rfl rfl rfl rfl tk9) ?_
          refine .step rfl (.binv (.bool false) rfl rfl rfl rfl (congrArg Value.bool (decide_eq_false hn))) ?_
          refine .step rfl (.move rfl rfl) ?_
          refine .no 47 rfl rfl rfl rfl rfl rfl rfl ?_
          refine .no 47 rfl rfl rfl rfl rfl rfl rfl ?_
          refine .no 47 rfl rfl rfl rfl rfl rfl rfl ?_
          refine .no 47 rfl rfl rfl rfl rfl rfl rfl ?_
          refine .no 47 rfl rfl rfl rfl rfl rfl rfl ?_
          refine .no 47 rfl rfl rfl rfl rfl rfl rfl ?_
          refine .step rfl (.pick rfl rfl rfl) ?_
          refine .nil ?_
          refine .next ?_
          refine .cond rfl (fun h6 => absurd h6 (by decide)) (fun h6 => ?_)
          refine .skip ?_
          refine TE.blk ?_
          refine .next ?_
          refine .region ?_
          refine .step rfl (.binv (.int .i64 ((k + 1 : Nat) : Int)) rfl rfl rfl rfl (congrArg _ (wrap_succ hlt hw))) ?_
          refine .step rfl (.move rfl rfl) ?_
          refine .nil ?_
          exact TE.round id (fun _ _ e => e) (k + 1) ⟨hlt, fun j hj hjk => (Nat.lt_or_eq_of_le (Nat.le_of_lt_succ hjk)).elim (hno j hj) (fun e => by subst e; exact hnk)⟩ (by omega) ⟨⟨rfl, rfl⟩, ⟨rfl, rfl⟩, ⟨rfl, rfl⟩, ⟨rfl, rfl⟩, ⟨rfl, rfl⟩, ⟨rfl, rfl⟩, trivial⟩ ⟨.inr rfl, .inl rfl, trivial⟩
      · skip
        have hlt : k = w.length := by have h0 := of_decide_eq_false h3; omega
        have hwn : waitsR w u = none := waitsR_none fun j hj => hno j hj (by omega)
        refine .exit ?_
        refine TE.pass ?_
        refine TE.pass ?_
        refine TE.here ?_
        refine .next ?_
        refine .seq ?_
        refine .region ?_
        refine .step rfl (.move rfl rfl) ?_
        refine .step rfl (.move rfl rfl) ?_
        refine .step rfl (.fieldp rfl rfl rfl rfl fo27_0) ?_
        refine .step rfl (.ldp rfl rfl rfl rfl rfl tk9) ?_
        refine .step rfl (.callf rfl cf15 rfl ⟨trivial, trivial, trivial, trivial⟩ (next_any l w u.nm hl hw)) ?_
        refine .step rfl (.move rfl rfl) ?_
        refine .step rfl (.extract rfl rfl rfl rfl) ?_
        refine .step rfl (.extract rfl rfl rfl rfl) ?_
        refine .step rfl (.assign rfl rfl) ?_
        refine .step rfl (.assign rfl rfl) ?_
        refine .nil ?_
        refine .next ?_
        refine .seq ?_
        refine .seq ?_
        refine .region ?_
        refine .step rfl (.fieldp rfl rfl rfl rfl fo27_1) ?_
        refine .step rfl (.ldp rfl rfl rfl rfl rfl tk3) ?_
        refine .step rfl (.bin rfl rfl rfl rfl) ?_
        refine .nil ?_
        refine .next ?_
        refine .cond rfl (fun h7 => ?_) (fun h7 => ?_)
        · skip
          have hv1 : u.ver = 1 := of_decide_eq_true h7
          have hkk := hu.key
          refine .region ?_
          refine .step rfl (.fieldp rfl rfl rfl rfl fo27_2) ?_
          refine .step rfl (.ldp rfl rfl rfl rfl rfl tk23) ?_
          refine .step rfl (.assign rfl rfl) ?_
          refine .nil ?_
          refine .next ?_
          refine .seq ?_
          refine .block ?_
          refine .seq ?_
          refine .region ?_
          refine .step rfl (.fieldp rfl rfl rfl rfl fo27_1) ?_
          refine .step rfl (.ldp rfl rfl rfl rfl rfl tk3) ?_
          refine .step rfl (.move rfl rfl) ?_
          refine .step rfl (.bin rfl rfl rfl rfl) ?_
          refine .step rfl (.assign rfl rfl) ?_
          refine .nil ?_
          refine .next ?_
          refine .cond rfl (fun h8 => ?_) (fun h8 => ?_)
          · skip
            have hv : ¬ (u.ver = i64w ((nextP l w u.nm).1 + 1)) := by simpa using h8
            refine .seq ?_
            refine .region ?_
            refine .step rfl (.assign rfl rfl) ?_
            refine .step rfl (.assign rfl rfl) ?_
            refine .nil ?_
            refine .next ?_
            refine .ret ?_
            have e : decideP l w u = (0, 27) := by unfold decideP decideG; rw [if_pos hr, if_neg (by rw [hf]; simp), hwn]; simp only []; rw [if_neg hv]
            rw [e]
            exact TE.rettf rfl rfl rfl (by simp only [allA, okF]; exact ⟨by first | trivial | exact pl_v _, by first | trivial | exact pl_v _, trivial⟩)
          · skip
            have hv : u.ver = i64w ((nextP l w u.nm).1 + 1) := by simpa using h8
            refine .seq ?_
            refine .region ?_
            refine .step rfl (.ldpm rfl rfl rfl rfl rfl rfl tk27) ?_
            refine .step rfl (.move rfl rfl) ?_
            refine .step rfl (.callf rfl cf24 rfl ⟨trivial, trivial, trivial⟩ (pf_plain (Y := .v (.bool (checkU _ u))) rfl rfl (fun w' => checkU_any _ u w' (hkk).1 (hkk).2 hu))) ?_
            refine .step rfl (.un rfl rfl rfl) ?_
            refine .step rfl (.assign rfl rfl) ?_
            refine .nil ?_
            refine .next ?_
            refine .cond rfl (fun h9 => ?_) (fun h9 => ?_)
            · skip
              have hc := h9
              simp only [Bool.not_eq_true'] at hc
              refine .seq ?_
              refine .region ?_
              refine .step rfl (.assign rfl rfl) ?_
              refine .step rfl (.assign rfl rfl) ?_
              refine .nil ?_
              refine .next ?_
              refine .ret ?_
              have e : decideP l w u = (0, 25) := by unfold decideP decideG; rw [if_pos hr, if_neg (by rw [hf]; simp), hwn]; simp only []; rw [if_pos hv, if_pos hv1, if_neg (by rw [hc]; simp)]
              rw [e]
              exact TE.rettf rfl rfl rfl (by simp only [allA, okF]; exact ⟨by first | trivial | exact pl_v _, by first | trivial | exact pl_v _, trivial⟩)
            · skip
              have hc := h9
              simp only [Bool.not_eq_false'] at hc
              refine .skip ?_
              refine TE.blk ?_
              refine .next ?_
              refine .seq ?_
              refine .region ?_
              refine .step rfl (.assign rfl rfl) ?_
              refine .step rfl (.assign rfl rfl) ?_
              refine .nil ?_
              refine .next ?_
              refine .ret ?_
              have e : decideP l w u = (0, 0) := by unfold decideP decideG; rw [if_pos hr, if_neg (by rw [hf]; simp), hwn]; simp only []; rw [if_pos hv, if_pos hv1, if_pos hc]
              rw [e]
              exact TE.rettf rfl rfl rfl (by simp only [allA, okF]; exact ⟨by first | trivial | exact pl_v _, by first | trivial | exact pl_v _, trivial⟩)
        · skip
          have hv1 : ¬ u.ver = 1 := of_decide_eq_false h7
          have hkk := hk
          refine .skip ?_
          refine .next ?_
          refine .seq ?_
          refine .block ?_
          refine .seq ?_
          refine .region ?_
          refine .step rfl (.fieldp rfl rfl rfl rfl fo27_1) ?_
          refine .step rfl (.ldp rfl rfl rfl rfl rfl tk3) ?_
          refine .step rfl (.move rfl rfl) ?_
          refine .step rfl (.bin rfl rfl rfl rfl) ?_
          refine .step rfl (.assign rfl rfl) ?_
          refine .nil ?_
          refine .next ?_
          refine .cond rfl (fun h10 => ?_) (fun h10 => ?_)
          · skip
            have hv : ¬ (u.ver = i64w ((nextP l w u.nm).1 + 1)) := by simpa using h10
            refine .seq ?_
            refine .region ?_
            refine .step rfl (.assign rfl rfl) ?_
            refine .step rfl (.assign rfl rfl) ?_
            refine .nil ?_
            refine .next ?_
            refine .ret ?_
            have e : decideP l w u = (0, 27) := by unfold decideP decideG; rw [if_pos hr, if_neg (by rw [hf]; simp), hwn]; simp only []; rw [if_neg hv]
            rw [e]
            exact TE.rettf rfl rfl rfl (by simp only [allA, okF]; exact ⟨by first | trivial | exact pl_v _, by first | trivial | exact pl_v _, trivial⟩)
          · skip
            have hv : u.ver = i64w ((nextP l w u.nm).1 + 1) := by simpa using h10
            refine .seq ?_
            refine .region ?_
            refine .step rfl (.ldpm rfl rfl rfl rfl rfl rfl tk27) ?_
            refine .step rfl (.move rfl rfl) ?_
            refine .step rfl (.callf rfl cf24 rfl ⟨trivial, trivial, trivial⟩ (pf_plain (Y := .v (.bool (checkU _ u))) rfl rfl (fun w' => checkU_any _ u w' (hkk).1 (hkk).2 hu))) ?_
            refine .step rfl (.un rfl rfl rfl) ?_
            refine .step rfl (.assign rfl rfl) ?_
            refine .nil ?_
            refine .next ?_
            refine .cond rfl (fun h11 => ?_) (fun h11 => ?_)
            · skip
              have hc := h11
              simp only [Bool.not_eq_true'] at hc
              refine .seq ?_
              refine .region ?_
              refine .step rfl (.assign rfl rfl) ?_
              refine .step rfl (.assign rfl rfl) ?_
              refine .nil ?_
              refine .next ?_
              refine .ret ?_
              have e : decideP l w u = (0, 25) := by unfold decideP decideG; rw [if_pos hr, if_neg (by rw [hf]; simp), hwn]; simp only []; rw [if_pos hv, if_neg hv1, if_neg (by rw [hc]; simp)]
              rw [e]
              exact TE.rettf rfl rfl rfl (by simp only [allA, okF]; exact ⟨by first | trivial | exact pl_v _, by first | trivial | exact pl_v _, trivial⟩)
            · skip
              have hc := h11
              simp only [Bool.not_eq_false'] at hc
              refine .skip ?_
              refine TE.blk ?_
              refine .next ?_
              refine .seq ?_
              refine .region ?_
              refine .step rfl (.assign rfl rfl) ?_
              refine .step rfl (.assign rfl rfl) ?_
              refine .nil ?_
              refine .next ?_
              refine .ret ?_
              have e : decideP l w u = (0, 0) := by unfold decideP decideG; rw [if_pos hr, if_neg (by rw [hf]; simp), hwn]; simp only []; rw [if_pos hv, if_neg hv1, if_pos hc]
              rw [e]
              exact TE.rettf rfl rfl rfl (by simp only [allA, okF]; exact ⟨by first | trivial | exact pl_v _, by first | trivial | exact pl_v _, trivial⟩)

set_option maxRecDepth 100000 in
set_option maxHeartbeats 1600000 in
theorem rdecide_any (l : List Kn) (w : List Pe) (u : Up) (hl : l.length ≤ 140737488355328) (hw : w.length ≤ 140737488355328) (hu : u.ok) (hk : isU64 (nextR l w u.nm).2) : PF Try.prog 14 [slT Kn.dv 4 l, slT Pe.dv 9 w, .ag u.dv] (.tp [.v (.int .i64 (decideR l w u).1), .v (.int .i64 (decideR l w u).2)]) := by
  refine PF.enter (fn := Try.f14) Try.func14 rfl Try.ntmps14 rfl (fun w0 => ?_)
  refine .seq ?_
  refine .region ?_
  refine .step rfl (.box 1 rfl rfl rfl rfl) ?_
  refine .step rfl (.assign rfl rfl) ?_
  refine .step rfl (.assign rfl rfl) ?_
  refine .nil ?_
  refine .next ?_
  refine .seq ?_
  refine .seq ?_
  refine .region ?_
  refine .step rfl (.ldpm rfl rfl rfl rfl rfl rfl tk27) ?_
  refine .step rfl (.callf rfl cf25 rfl ⟨trivial, trivial⟩ (pf_plain (Y := .v (.bool (rightU u))) rfl rfl (fun w' => rrightU_any u w'))) ?_
  refine .step rfl (.un rfl rfl rfl) ?_
  refine .nil ?_
  refine .next ?_
  refine .cond rfl (fun h1 => ?_) (fun h1 => ?_)
  · skip
    have hr : rightU u = false := by simpa using h1
    refine .seq ?_
    refine .region ?_
    refine .step rfl (.assign rfl rfl) ?_
    refine .step rfl (.assign rfl rfl) ?_
    refine .nil ?_
    refine .next ?_
    refine .ret ?_
    have e : decideR l w u = (0, 23) := by unfold decideR decideG; rw [if_neg (by rw [hr]; simp)]
    rw [e]
    exact TE.rettf rfl rfl rfl (by simp only [allA, okF]; exact ⟨by first | trivial | exact pl_v _, by first | trivial | exact pl_v _, trivial⟩)
  · skip
    have hr : rightU u = true := by simpa using h1
    refine .skip ?_
    refine .next ?_
    refine .seq ?_
    refine .seq ?_
    refine .region ?_
    refine .step rfl (.move rfl rfl) ?_
    refine .step rfl (.fieldp rfl rfl rfl rfl fo27_0) ?_
    refine .step rfl (.ldp rfl rfl rfl rfl rfl tk9) ?_
    refine .step rfl (.fieldp rfl rfl rfl rfl fo27_1) ?_
    refine .step rfl (.ldp rfl rfl rfl rfl rfl tk3) ?_
    refine .step rfl (.callf rfl cf26 rfl ⟨trivial, trivial, trivial, trivial⟩ (rfind_any l u.nm u.ver hl)) ?_
    refine .step rfl (.move rfl rfl) ?_
    refine .step rfl (.extract rfl rfl rfl rfl) ?_
    refine .step rfl (.extract rfl rfl rfl rfl) ?_
    refine .step rfl (.alloc 2 rfl rfl zc50 rfl) ?_
    refine .step rfl (.store rfl rfl rfl sz50 rfl rfl) ?_
    refine .step rfl (.assign rfl rfl) ?_
    refine .nil ?_
    refine .next ?_
    refine .seq ?_
    refine .region ?_
    refine .step rfl (.move rfl rfl) ?_
    refine .nil ?_
    refine .next ?_
    refine .cond rfl (fun h2 => ?_) (fun h2 => ?_)
    · skip
      have hf : (findR l u.nm u.ver).2 = true := h2
      refine .seq ?_
      refine .seq ?_
      refine .region ?_
      refine .step rfl (.fieldp rfl rfl rfl rfl fo50_0) ?_
      refine .step rfl (.fieldp rfl rfl rfl rfl fo48_2) ?_
      refine .step rfl (.ldp rfl rfl rfl rfl rfl tk23) ?_
      refine .step rfl (.fieldp rfl rfl rfl rfl fo27_2) ?_
      refine .step rfl (.ldp rfl rfl rfl rfl rfl tk23) ?_
      refine .step rfl (.bin rfl rfl rfl rfl) ?_
      refine .nil ?_
      refine .next ?_
      refine .cond rfl (fun h3 => ?_) (fun h3 => ?_)
      · skip
        have hq : (findR l u.nm u.ver).1.key = u.key := by simpa using h3
        refine .seq ?_
        refine .region ?_
        refine .step rfl (.assign rfl rfl) ?_
        refine .step rfl (.assign rfl rfl) ?_
        refine .nil ?_
        refine .next ?_
        refine .ret ?_
        have e : decideR l w u = (2, 0) := by unfold decideR decideG; rw [if_pos hr, if_pos hf]; unfold same; rw [if_pos hq]
        rw [e]
        exact TE.rettf rfl rfl rfl (by simp only [allA, okF]; exact ⟨by first | trivial | exact pl_v _, by first | trivial | exact pl_v _, trivial⟩)
      · skip
        have hq : ¬ ((findR l u.nm u.ver).1.key = u.key) := by simpa using h3
        refine .skip ?_
        refine .next ?_
        refine .seq ?_
        refine .region ?_
        refine .step rfl (.assign rfl rfl) ?_
        refine .step rfl (.assign rfl rfl) ?_
        refine .nil ?_
        refine .next ?_
        refine .ret ?_
        have e : decideR l w u = (0, 26) := by unfold decideR decideG; rw [if_pos hr, if_pos hf]; unfold same; rw [if_neg hq]
        rw [e]
        exact TE.rettf rfl rfl rfl (by simp only [allA, okF]; exact ⟨by first | trivial | exact pl_v _, by first | trivial | exact pl_v _, trivial⟩)
    · skip
      have hf : (findR l u.nm u.ver).2 = false := h2
      refine .skip ?_
      refine .next ?_
      refine .seq ?_
      refine .seq ?_
      refine .region ?_
      refine .step rfl (.assign rfl rfl) ?_
      refine .nil ?_
      refine .next ?_
      refine .block ?_
      refine TC.loop (S := Nat) (fun k => k ≤ w.length ∧ ∀ j (hj : j < w.length), j < k → ¬ (w[j].u.nm = u.nm ∧ w[j].u.ver = u.ver)) (fun k => w.length - k) (fun k => [(0, .d (slT Kn.dv 4 l)), (1, .d (slT Pe.dv 9 w)), (5, .ptr 1 0), (10, .f (.v (.int .i64 k)))]) (fun k => [(1, .box 27 u.dv), (2, .dead)]) (0) ⟨Nat.zero_le _, fun j _ h => absurd h (Nat.not_lt_zero j)⟩ ⟨⟨rfl, rfl⟩, ⟨rfl, rfl⟩, ⟨rfl, rfl⟩, ⟨rfl, rfl⟩, trivial⟩ ⟨.inr rfl, .inl rfl, trivial⟩ (fun k hI => ?_)
      obtain ⟨hkl, hno⟩ := hI
      refine .seq ?_
      refine .seq ?_
      refine .region ?_
      refine .step rfl (.move rfl rfl) ?_
      refine .step rfl (.move rfl rfl) ?_
      refine .step rfl (.len rfl rfl ⟨_, _, rfl⟩ is30) ?_
      refine .step rfl (.bin rfl rfl rfl rfl) ?_
      refine .nil ?_
      refine .next ?_
      refine .cond rfl (fun h4 => ?_) (fun h4 => ?_)
      · skip
        have hlt : k < w.length := by have := of_decide_eq_true h4; omega
        refine .skip ?_
        refine .next ?_
        refine .seq ?_
        refine .block ?_
        refine .seq ?_
        refine .region ?_
        refine .step rfl (.move rfl rfl) ?_
        refine .step rfl (.move rfl rfl) ?_
        refine .step rfl (.idx (w[k]) rfl rfl rfl rfl et30 (fun _ => rfl) (Int.natCast_nonneg k) (get_nat hlt)) ?_
        refine .step rfl (.fielde rfl rfl rfl fo52_0) ?_
        refine .step rfl (.ldem rfl rfl rfl rfl rfl tk27) ?_
        refine .step rfl (.alloc 3 rfl rfl zc27 rfl) ?_
        refine .step rfl (.store rfl rfl rfl sz27 rfl rfl) ?_
        refine .nil ?_
        refine .next ?_
        refine .seq ?_
        by_cases hn : (w[k]).u.nm = u.nm
        · skip
          refine .region ?_
          refine .step rfl (.fieldp rfl rfl rfl rfl fo27_0) ?_
          refine .step rfl (.ldp rfl rfl rfl rfl rfl tk9) ?_
          refine .step rfl (.fieldp rfl rfl rfl rfl fo27_0) ?_
          refine .step rfl (.ldp rfl rfl rfl rfl rfl tk9) ?_
          refine .step rfl (.binv (.bool true) rfl rfl rfl rfl (congrArg Value.bool (decide_eq_true hn))) ?_
          refine .step rfl (.move rfl rfl) ?_
          refine .go 49 rfl rfl rfl rfl (.fieldp rfl rfl rfl rfl fo27_1) ?_
          refine .go 49 rfl rfl rfl rfl (.ldp rfl rfl rfl rfl rfl tk3) ?_
          refine .go 49 rfl rfl rfl rfl (.fieldp rfl rfl rfl rfl fo27_1) ?_
          refine .go 49 rfl rfl rfl rfl (.ldp rfl rfl rfl rfl rfl tk3) ?_
          refine .go 49 rfl rfl rfl rfl (.bin rfl rfl rfl rfl) ?_
          refine .step rfl (.pick rfl rfl rfl) ?_
          refine .nil ?_
          refine .next ?_
          refine .cond rfl (fun h6 => ?_) (fun h6 => ?_)
          · skip
            have hver : w[k].u.ver = u.ver := of_decide_eq_true h6
            have hwk : waitsR w u = some w[k] := waitsR_at hlt hno ⟨hn, hver⟩
            refine .seq ?_
            refine .seq ?_
            refine .region ?_
            refine .step rfl (.fieldp rfl rfl rfl rfl fo27_2) ?_
            refine .step rfl (.ldp rfl rfl rfl rfl rfl tk23) ?_
            refine .step rfl (.fieldp rfl rfl rfl rfl fo27_2) ?_
            refine .step rfl (.ldp rfl rfl rfl rfl rfl tk23) ?_
            refine .step rfl (.bin rfl rfl rfl rfl) ?_
            refine .nil ?_
            refine .next ?_
            refine .cond rfl (fun h7 => ?_) (fun h7 => ?_)
            · skip
              have hq : w[k].u.key = u.key := by simpa using h7
              refine .seq ?_
              refine .region ?_
              refine .step rfl (.assign rfl rfl) ?_
              refine .step rfl (.assign rfl rfl) ?_
              refine .nil ?_
              refine .next ?_
              refine .ret ?_
              have e : decideR l w u = (1, 0) := by unfold decideR decideG; rw [if_pos hr, if_neg (by rw [hf]; simp), hwk]; simp only []; unfold same; rw [if_pos hq]
              rw [e]
              exact TE.rettf rfl rfl rfl (by simp only [allA, okF]; exact ⟨by first | trivial | exact pl_v _, by first | trivial | exact pl_v _, trivial⟩)
            · skip
              have hq : ¬ (w[k].u.key = u.key) := by simpa using h7
              refine .skip ?_
              refine .next ?_
              refine .seq ?_
              refine .region ?_
              refine .step rfl (.assign rfl rfl) ?_
              refine .step rfl (.assign rfl rfl) ?_
              refine .nil ?_
              refine .next ?_
              refine .ret ?_
              have e : decideR l w u = (0, 26) := by unfold decideR decideG; rw [if_pos hr, if_neg (by rw [hf]; simp), hwk]; simp only []; unfold same; rw [if_neg hq]
              rw [e]
              exact TE.rettf rfl rfl rfl (by simp only [allA, okF]; exact ⟨by first | trivial | exact pl_v _, by first | trivial | exact pl_v _, trivial⟩)
          · skip
            have hnk : ¬ (w[k].u.nm = u.nm ∧ w[k].u.ver = u.ver) := fun q => of_decide_eq_false h6 q.2
            refine .skip ?_
            refine TE.blk ?_
            refine .next ?_
            refine .region ?_
            refine .step rfl (.move rfl rfl) ?_
            refine .step rfl (.binv (.int .i64 ((k + 1 : Nat) : Int)) rfl rfl rfl rfl (congrArg _ (wrap_succ hlt hw))) ?_
            refine .step rfl (.assign rfl rfl) ?_
            refine .nil ?_
            exact TE.round id (fun _ _ e => e) (k + 1) ⟨hlt, fun j hj hjk => (Nat.lt_or_eq_of_le (Nat.le_of_lt_succ hjk)).elim (hno j hj) (fun e => by subst e; exact hnk)⟩ (by omega) ⟨⟨rfl, rfl⟩, ⟨rfl, rfl⟩, ⟨rfl, rfl⟩, ⟨rfl, rfl⟩, trivial⟩ ⟨.inr rfl, .inl rfl, trivial⟩
        · skip
          have hnk : ¬ (w[k].u.nm = u.nm ∧ w[k].u.ver = u.ver) := fun q => hn q.1
          refine .region ?_
          refine .step rfl (.fieldp rfl rfl rfl rfl fo27_0) ?_
          refine .step rfl (.ldp rfl rfl rfl rfl rfl tk9) ?_
          refine .step rfl (.fieldp rfl rfl rfl rfl fo27_0) ?_
          refine .step rfl (.ldp rfl rfl rfl rfl rfl tk9) ?_
          refine .step rfl (.binv (.bool false) rfl rfl rfl rfl (congrArg Value.bool (decide_eq_false hn))) ?_
          refine .step rfl (.move rfl rfl) ?_
          refine .no 49 rfl rfl rfl rfl rfl rfl rfl ?_
          refine .no 49 rfl rfl rfl rfl rfl rfl rfl ?_
          refine .no 49 rfl rfl rfl rfl rfl rfl rfl ?_
          refine .no 49 rfl rfl rfl rfl rfl rfl rfl ?_
          refine .no 49 rfl rfl rfl rfl rfl rfl rfl ?_
          refine .step rfl (.pick rfl rfl rfl) ?_
          refine .nil ?_
          refine .next ?_
          refine .cond rfl (fun h8 => absurd h8 (by decide)) (fun h8 => ?_)
          refine .skip ?_
          refine TE.blk ?_
          refine .next ?_
          refine .region ?_
          refine .step rfl (.move rfl rfl) ?_
          refine .step rfl (.binv (.int .i64 ((k + 1 : Nat) : Int)) rfl rfl rfl rfl (congrArg _ (wrap_succ hlt hw))) ?_
          refine .step rfl (.assign rfl rfl) ?_
          refine .nil ?_
          exact TE.round id (fun _ _ e => e) (k + 1) ⟨hlt, fun j hj hjk => (Nat.lt_or_eq_of_le (Nat.le_of_lt_succ hjk)).elim (hno j hj) (fun e => by subst e; exact hnk)⟩ (by omega) ⟨⟨rfl, rfl⟩, ⟨rfl, rfl⟩, ⟨rfl, rfl⟩, ⟨rfl, rfl⟩, trivial⟩ ⟨.inr rfl, .inl rfl, trivial⟩
      · skip
        have hlt : k = w.length := by have h0 := of_decide_eq_false h4; omega
        have hwn : waitsR w u = none := waitsR_none fun j hj => hno j hj (by omega)
        refine .exit ?_
        refine TE.pass ?_
        refine TE.pass ?_
        refine TE.here ?_
        refine .next ?_
        refine .seq ?_
        refine .region ?_
        refine .step rfl (.move rfl rfl) ?_
        refine .step rfl (.move rfl rfl) ?_
        refine .step rfl (.fieldp rfl rfl rfl rfl fo27_0) ?_
        refine .step rfl (.ldp rfl rfl rfl rfl rfl tk9) ?_
        refine .step rfl (.callf rfl cf11 rfl ⟨trivial, trivial, trivial, trivial⟩ (rnext_any l w u.nm hl hw)) ?_
        refine .step rfl (.move rfl rfl) ?_
        refine .step rfl (.extract rfl rfl rfl rfl) ?_
        refine .step rfl (.extract rfl rfl rfl rfl) ?_
        refine .step rfl (.assign rfl rfl) ?_
        refine .step rfl (.assign rfl rfl) ?_
        refine .nil ?_
        refine .next ?_
        refine .seq ?_
        refine .seq ?_
        refine .region ?_
        refine .step rfl (.fieldp rfl rfl rfl rfl fo27_1) ?_
        refine .step rfl (.ldp rfl rfl rfl rfl rfl tk3) ?_
        refine .step rfl (.move rfl rfl) ?_
        refine .step rfl (.bin rfl rfl rfl rfl) ?_
        refine .nil ?_
        refine .next ?_
        refine .cond rfl (fun h9 => ?_) (fun h9 => ?_)
        · skip
          have hv : ¬ (u.ver = i64w ((nextR l w u.nm).1 + 1)) := by simpa using h9
          refine .seq ?_
          refine .region ?_
          refine .step rfl (.assign rfl rfl) ?_
          refine .step rfl (.assign rfl rfl) ?_
          refine .nil ?_
          refine .next ?_
          refine .ret ?_
          have e : decideR l w u = (0, 27) := by unfold decideR decideG; rw [if_pos hr, if_neg (by rw [hf]; simp), hwn]; simp only []; rw [if_neg hv]
          rw [e]
          exact TE.rettf rfl rfl rfl (by simp only [allA, okF]; exact ⟨by first | trivial | exact pl_v _, by first | trivial | exact pl_v _, trivial⟩)
        · skip
          have hv : u.ver = i64w ((nextR l w u.nm).1 + 1) := by simpa using h9
          refine .skip ?_
          refine .next ?_
          refine .seq ?_
          refine .seq ?_
          refine .region ?_
          refine .step rfl (.move rfl rfl) ?_
          refine .step rfl (.bin rfl rfl rfl rfl) ?_
          refine .nil ?_
          refine .next ?_
          refine .cond rfl (fun h10 => ?_) (fun h10 => ?_)
          · skip
            have hv1 := of_decide_eq_true h10
            have hv1' : u.ver = 1 := hv.trans hv1
            have hkk := hu.key
            refine .region ?_
            refine .step rfl (.fieldp rfl rfl rfl rfl fo27_2) ?_
            refine .step rfl (.ldp rfl rfl rfl rfl rfl tk23) ?_
            refine .step rfl (.assign rfl rfl) ?_
            refine .nil ?_
            refine .next ?_
            refine .seq ?_
            refine .seq ?_
            refine .region ?_
            refine .step rfl (.ldpm rfl rfl rfl rfl rfl rfl tk27) ?_
            refine .step rfl (.move rfl rfl) ?_
            refine .step rfl (.callf rfl cf27 rfl ⟨trivial, trivial, trivial⟩ (pf_plain (Y := .v (.bool (checkU _ u))) rfl rfl (fun w' => rcheckU_any _ u w' (hkk).1 (hkk).2 hu))) ?_
            refine .step rfl (.un rfl rfl rfl) ?_
            refine .nil ?_
            refine .next ?_
            refine .cond rfl (fun h11 => ?_) (fun h11 => ?_)
            · skip
              have hc := h11
              simp only [Bool.not_eq_true'] at hc
              refine .seq ?_
              refine .region ?_
              refine .step rfl (.assign rfl rfl) ?_
              refine .step rfl (.assign rfl rfl) ?_
              refine .nil ?_
              refine .next ?_
              refine .ret ?_
              have e : decideR l w u = (0, 25) := by unfold decideR decideG; rw [if_pos hr, if_neg (by rw [hf]; simp), hwn]; simp only []; rw [if_pos hv, if_pos hv1', if_neg (by rw [hc]; simp)]
              rw [e]
              exact TE.rettf rfl rfl rfl (by simp only [allA, okF]; exact ⟨by first | trivial | exact pl_v _, by first | trivial | exact pl_v _, trivial⟩)
            · skip
              have hc := h11
              simp only [Bool.not_eq_false'] at hc
              refine .skip ?_
              refine .next ?_
              refine .seq ?_
              refine .region ?_
              refine .step rfl (.assign rfl rfl) ?_
              refine .step rfl (.assign rfl rfl) ?_
              refine .nil ?_
              refine .next ?_
              refine .ret ?_
              have e : decideR l w u = (0, 0) := by unfold decideR decideG; rw [if_pos hr, if_neg (by rw [hf]; simp), hwn]; simp only []; rw [if_pos hv, if_pos hv1', if_pos hc]
              rw [e]
              exact TE.rettf rfl rfl rfl (by simp only [allA, okF]; exact ⟨by first | trivial | exact pl_v _, by first | trivial | exact pl_v _, trivial⟩)
          · skip
            have hv1 := of_decide_eq_false h10
            have hv1' : ¬ u.ver = 1 := fun q => hv1 (hv.symm.trans q)
            have hkk := hk
            refine .skip ?_
            refine .next ?_
            refine .seq ?_
            refine .seq ?_
            refine .region ?_
            refine .step rfl (.ldpm rfl rfl rfl rfl rfl rfl tk27) ?_
            refine .step rfl (.move rfl rfl) ?_
            refine .step rfl (.callf rfl cf27 rfl ⟨trivial, trivial, trivial⟩ (pf_plain (Y := .v (.bool (checkU _ u))) rfl rfl (fun w' => rcheckU_any _ u w' (hkk).1 (hkk).2 hu))) ?_
            refine .step rfl (.un rfl rfl rfl) ?_
            refine .nil ?_
            refine .next ?_
            refine .cond rfl (fun h12 => ?_) (fun h12 => ?_)
            · skip
              have hc := h12
              simp only [Bool.not_eq_true'] at hc
              refine .seq ?_
              refine .region ?_
              refine .step rfl (.assign rfl rfl) ?_
              refine .step rfl (.assign rfl rfl) ?_
              refine .nil ?_
              refine .next ?_
              refine .ret ?_
              have e : decideR l w u = (0, 25) := by unfold decideR decideG; rw [if_pos hr, if_neg (by rw [hf]; simp), hwn]; simp only []; rw [if_pos hv, if_neg hv1', if_neg (by rw [hc]; simp)]
              rw [e]
              exact TE.rettf rfl rfl rfl (by simp only [allA, okF]; exact ⟨by first | trivial | exact pl_v _, by first | trivial | exact pl_v _, trivial⟩)
            · skip
              have hc := h12
              simp only [Bool.not_eq_false'] at hc
              refine .skip ?_
              refine .next ?_
              refine .seq ?_
              refine .region ?_
              refine .step rfl (.assign rfl rfl) ?_
              refine .step rfl (.assign rfl rfl) ?_
              refine .nil ?_
              refine .next ?_
              refine .ret ?_
              have e : decideR l w u = (0, 0) := by unfold decideR decideG; rw [if_pos hr, if_neg (by rw [hf]; simp), hwn]; simp only []; rw [if_pos hv, if_neg hv1', if_pos hc]
              rw [e]
              exact TE.rettf rfl rfl rfl (by simp only [allA, okF]; exact ⟨by first | trivial | exact pl_v _, by first | trivial | exact pl_v _, trivial⟩)

end Go.Proofs.Ytkkgjmfnlabbdaa
