/-
  AdmitForms.
-/
import Derived.Test.YtkkgjmfnlabbdaaWj
namespace Go.Proofs.Ytkkgjmfnlabbdaa
set_option linter.unusedVariables false
set_option linter.unusedSimpArgs false
open Go.RowKit Pl

theorem cf8 : cfn Try.prog 8 = true := by kernel_rfl
theorem cf9 : cfn Try.prog 9 = true := by kernel_rfl
theorem sz9 : szt Try.prog 9 = some 1 := by kernel_rfl

set_option maxRecDepth 100000 in
set_option maxHeartbeats 1600000 in
theorem forms_pf (l w : List UInt8) (k : UInt8) (ahead how : UInt8) : PF Try.prog 6 [slT bdv 1 l, slT bdv 1 w, .v (.int .u8 k.toNat), .v (.int .u8 ahead.toNat), .v (.int .u8 how.toNat)] (.v (.bool true)) := by
  refine PF.enter (fn := Try.f6) Try.func6 rfl Try.ntmps6 rfl (fun w0 => ?_)
  refine .seq ?_
  refine .region ?_
  refine .step rfl (.assign rfl rfl) ?_
  refine .nil ?_
  refine .next ?_
  refine .seq ?_
  refine .seq ?_
  refine .region ?_
  refine .step rfl (.callf rfl cf8 rfl trivial (known_pf)) ?_
  refine .step rfl (.un rfl rfl rfl) ?_
  refine .nil ?_
  refine .next ?_
  refine .cond rfl (fun h1 => absurd h1 (by decide)) (fun h1 => ?_)
  refine .skip ?_
  refine .next ?_
  refine .seq ?_
  refine .seq ?_
  by_cases hla : 8 < l.length
  · skip
    refine .region ?_
    refine .step rfl (.move rfl rfl) ?_
    refine .step rfl (.len rfl rfl ⟨_, _, rfl⟩ is22) ?_
    refine .step rfl (.binv (.bool true) rfl rfl rfl rfl (congrArg Value.bool (decide_eq_true (by omega)))) ?_
    refine .step rfl (.move rfl rfl) ?_
    refine .no 29 rfl rfl rfl rfl rfl rfl rfl ?_
    refine .no 29 rfl rfl rfl rfl rfl rfl rfl ?_
    refine .no 29 rfl rfl rfl rfl rfl rfl rfl ?_
    refine .step rfl (.pick rfl rfl rfl) ?_
    refine .nil ?_
    refine .next ?_
    refine .cond rfl (fun h3 => ?_) (fun h3 => absurd h3 (by decide))
    refine .seq ?_
    refine .region ?_
    refine .step rfl (.assign rfl rfl) ?_
    refine .nil ?_
    refine .next ?_
    refine .ret ?_
    exact TE.retf rfl rfl rfl trivial
  · skip
    by_cases hwb : 6 < w.length
    · skip
      refine .region ?_
      refine .step rfl (.move rfl rfl) ?_
      refine .step rfl (.len rfl rfl ⟨_, _, rfl⟩ is22) ?_
      refine .step rfl (.binv (.bool false) rfl rfl rfl rfl (congrArg Value.bool (decide_eq_false (by omega)))) ?_
      refine .step rfl (.move rfl rfl) ?_
      refine .go 29 rfl rfl rfl rfl (.move rfl rfl) ?_
      refine .go 29 rfl rfl rfl rfl (.len rfl rfl ⟨_, _, rfl⟩ is22) ?_
      refine .go 29 rfl rfl rfl rfl (.binv (.bool true) rfl rfl rfl rfl (congrArg Value.bool (decide_eq_true (by omega)))) ?_
      refine .step rfl (.pick rfl rfl rfl) ?_
      refine .nil ?_
      refine .next ?_
      refine .cond rfl (fun h5 => ?_) (fun h5 => absurd h5 (by decide))
      refine .seq ?_
      refine .region ?_
      refine .step rfl (.assign rfl rfl) ?_
      refine .nil ?_
      refine .next ?_
      refine .ret ?_
      exact TE.retf rfl rfl rfl trivial
    · skip
      refine .region ?_
      refine .step rfl (.move rfl rfl) ?_
      refine .step rfl (.len rfl rfl ⟨_, _, rfl⟩ is22) ?_
      refine .step rfl (.binv (.bool false) rfl rfl rfl rfl (congrArg Value.bool (decide_eq_false (by omega)))) ?_
      refine .step rfl (.move rfl rfl) ?_
      refine .go 29 rfl rfl rfl rfl (.move rfl rfl) ?_
      refine .go 29 rfl rfl rfl rfl (.len rfl rfl ⟨_, _, rfl⟩ is22) ?_
      refine .go 29 rfl rfl rfl rfl (.binv (.bool false) rfl rfl rfl rfl (congrArg Value.bool (decide_eq_false (by omega)))) ?_
      refine .step rfl (.pick rfl rfl rfl) ?_
      refine .nil ?_
      refine .next ?_
      refine .cond rfl (fun h6 => absurd h6 (by decide)) (fun h6 => ?_)
      refine .skip ?_
      refine .next ?_
      refine .seq ?_
      refine .region ?_
      refine .step rfl (.move rfl rfl) ?_
      refine .step rfl (.move rfl rfl) ?_
      refine .step rfl (.callc rfl cf9 rfl (story_pc l w (by omega) (by omega))) ?_
      refine .step rfl (.move rfl rfl) ?_
      refine .step rfl (.extract rfl rfl rfl rfl) ?_
      refine .step rfl (.extract rfl rfl rfl rfl) ?_
      refine .step rfl (.assign rfl rfl) ?_
      refine .step rfl (.assign rfl rfl) ?_
      refine .nil ?_
      refine .next ?_
      refine .seq ?_
      refine .region ?_
      refine .step rfl (.move rfl rfl) ?_
      refine .step rfl (.callf rfl cf10 rfl ⟨trivial, trivial⟩ (name8_pf k)) ?_
      refine .step rfl (.assign rfl rfl) ?_
      refine .nil ?_
      refine .next ?_
      refine .seq ?_
      refine .region ?_
      refine .step rfl (.move rfl rfl) ?_
      refine .step rfl (.move rfl rfl) ?_
      refine .step rfl (.move rfl rfl) ?_
      refine .step rfl (.callf rfl cf15 rfl ⟨trivial, trivial, trivial, trivial⟩ (nx_pf (Sto.of l w (by omega) (by omega)) _)) ?_
      refine .step rfl (.move rfl rfl) ?_
      refine .step rfl (.extract rfl rfl rfl rfl) ?_
      refine .step rfl (.extract rfl rfl rfl rfl) ?_
      refine .step rfl (.assign rfl rfl) ?_
      refine .step rfl (.assign rfl rfl) ?_
      refine .nil ?_
      refine .next ?_
      refine .seq ?_
      have hle := (Sto.of l w (by omega) (by omega)).le (nameL k.toNat)
      have hok : (seatU (nameL k.toNat) (((lastN l w (nameL k.toNat) + 1 : Nat) : Int) + 1 + ((ahead.toNat : Int) % 3)) 0 ((how.toNat : Int) % 7)).ok := okU k _ 0 _ (by omega) (by omega) (by omega)
      have hd1 : decideR (storyK 0 [] l) (storyW (storyK 0 [] l) 0 [] w) (seatU (nameL k.toNat) (((lastN l w (nameL k.toNat) + 1 : Nat) : Int) + 1 + ((ahead.toNat : Int) % 3)) 0 ((how.toNat : Int) % 7)) = (0, 27) := s_late (Sto.of l w (by omega) (by omega)) k _ 0 _ (by omega) (by omega) (by omega) (by omega)
      have hok2 : ({ (seatU (nameL k.toNat) (((lastN l w (nameL k.toNat) + 1 : Nat) : Int) + 1 + ((ahead.toNat : Int) % 3)) 0 ((how.toNat : Int) % 7)) with cls := 9 } : Up).ok := ⟨hok.nm, hok.ver, hok.key, ⟨by show (-9223372036854775808 : Int) ≤ 9; decide, by show (9 : Int) < 9223372036854775808; decide⟩, hok.r, hok.s⟩
      have hok3 : ({ (seatU (nameL k.toNat) (((lastN l w (nameL k.toNat) + 1 : Nat) : Int) + 1 + ((ahead.toNat : Int) % 3)) 0 ((how.toNat : Int) % 7)) with nm := [] } : Up).ok := ⟨by simp, hok.ver, hok.key, hok.cls, hok.r, hok.s⟩
      have hr2 : rightU ({ (seatU (nameL k.toNat) (((lastN l w (nameL k.toNat) + 1 : Nat) : Int) + 1 + ((ahead.toNat : Int) % 3)) 0 ((how.toNat : Int) % 7)) with cls := 9 } : Up) = false := by unfold rightU; simp
      have hr3 : rightU ({ (seatU (nameL k.toNat) (((lastN l w (nameL k.toNat) + 1 : Nat) : Int) + 1 + ((ahead.toNat : Int) % 3)) 0 ((how.toNat : Int) % 7)) with nm := [] } : Up) = false := by unfold rightU rightE; simp
      refine .region ?_
      refine .step rfl (.move rfl rfl) ?_
      refine .step rfl (.move rfl rfl) ?_
      refine .step rfl (.binv (.int .i64 (((lastN l w (nameL k.toNat) + 1 : Nat) : Int) + 1)) rfl rfl rfl rfl (congrArg _ (by rw [IntKind.wrap_i64]; omega))) ?_
      refine .step rfl (.move rfl rfl) ?_
      refine .step rfl (.rem (((ahead.toNat : Int) % 3)) rfl rfl rfl (by decide) (Int.tmod_eq_emod_of_nonneg (by omega))) ?_
      refine .step rfl (.conviv (((ahead.toNat : Int) % 3)) rfl rfl uk5 uk3 (by rw [IntKind.wrap_i64]; omega)) ?_
      refine .step rfl (.binv (.int .i64 (((lastN l w (nameL k.toNat) + 1 : Nat) : Int) + 1 + ((ahead.toNat : Int) % 3))) rfl rfl rfl rfl (congrArg _ (by rw [IntKind.wrap_i64]; omega))) ?_
      refine .step rfl (.move rfl rfl) ?_
      refine .step rfl (.rem (((how.toNat : Int) % 7)) rfl rfl rfl (by decide) (Int.tmod_eq_emod_of_nonneg (by omega))) ?_
      refine .step rfl (.callf rfl cf12 rfl ⟨trivial, trivial, trivial, trivial, trivial⟩ (upd_pf (Sto.of l w (by omega) (by omega)) k (((lastN l w (nameL k.toNat) + 1 : Nat) : Int) + 1 + ((ahead.toNat : Int) % 3)) 0 ((how.toNat : Int) % 7) (by omega) (by omega) (by omega) (by omega) (by omega))) ?_
      refine .step rfl (.alloc 1 rfl rfl zc27 rfl) ?_
      refine .step rfl (.store rfl rfl rfl sz27 rfl rfl) ?_
      refine .nil ?_
      refine .next ?_
      refine .seq ?_
      refine .region ?_
      refine .step rfl (.move rfl rfl) ?_
      refine .step rfl (.move rfl rfl) ?_
      refine .step rfl (.ldpm rfl rfl rfl rfl rfl rfl tk27) ?_
      refine .step rfl (.callf rfl cf13 rfl ⟨trivial, trivial, trivial, trivial⟩ (dec_pf (Sto.of l w (by omega) (by omega)) hok hd1)) ?_
      refine .step rfl (.move rfl rfl) ?_
      refine .step rfl (.extract rfl rfl rfl rfl) ?_
      refine .step rfl (.extract rfl rfl rfl rfl) ?_
      refine .step rfl (.assign rfl rfl) ?_
      refine .step rfl (.assign rfl rfl) ?_
      refine .nil ?_
      refine .next ?_
      refine .seq ?_
      refine .region ?_
      refine .step rfl (.ldpm rfl rfl rfl rfl rfl rfl tk27) ?_
      refine .step rfl (.alloc 2 rfl rfl zc27 rfl) ?_
      refine .step rfl (.store rfl rfl rfl sz27 rfl rfl) ?_
      refine .nil ?_
      refine .next ?_
      refine .seq ?_
      refine .region ?_
      refine .step rfl (.fieldp rfl rfl rfl rfl fo27_3) ?_
      refine .step rfl (.store rfl rfl rfl sz3 rfl rfl) ?_
      refine .nil ?_
      refine .next ?_
      refine .seq ?_
      refine .region ?_
      refine .step rfl (.move rfl rfl) ?_
      refine .step rfl (.move rfl rfl) ?_
      refine .step rfl (.ldpm rfl rfl rfl rfl rfl rfl tk27) ?_
      refine .step rfl (.callf rfl cf13 rfl ⟨trivial, trivial, trivial, trivial⟩ (dec_pf (u := { (seatU (nameL k.toNat) (((lastN l w (nameL k.toNat) + 1 : Nat) : Int) + 1 + ((ahead.toNat : Int) % 3)) 0 ((how.toNat : Int) % 7)) with cls := 9 }) (Sto.of l w (by omega) (by omega)) hok2 (dec_right hr2))) ?_
      refine .step rfl (.move rfl rfl) ?_
      refine .step rfl (.extract rfl rfl rfl rfl) ?_
      refine .step rfl (.extract rfl rfl rfl rfl) ?_
      refine .step rfl (.assign rfl rfl) ?_
      refine .step rfl (.assign rfl rfl) ?_
      refine .nil ?_
      refine .next ?_
      refine .seq ?_
      refine .region ?_
      refine .step rfl (.ldpm rfl rfl rfl rfl rfl rfl tk27) ?_
      refine .step rfl (.store rfl rfl rfl sz27 rfl rfl) ?_
      refine .nil ?_
      refine .next ?_
      refine .seq ?_
      refine .region ?_
      refine .step rfl (.fieldp rfl rfl rfl rfl fo27_0) ?_
      refine .step rfl (.store rfl rfl rfl sz9 rfl rfl) ?_
      refine .nil ?_
      refine .next ?_
      refine .seq ?_
      refine .region ?_
      refine .step rfl (.move rfl rfl) ?_
      refine .step rfl (.move rfl rfl) ?_
      refine .step rfl (.ldpm rfl rfl rfl rfl rfl rfl tk27) ?_
      refine .step rfl (.callf rfl cf13 rfl ⟨trivial, trivial, trivial, trivial⟩ (dec_pf (u := { (seatU (nameL k.toNat) (((lastN l w (nameL k.toNat) + 1 : Nat) : Int) + 1 + ((ahead.toNat : Int) % 3)) 0 ((how.toNat : Int) % 7)) with nm := [] }) (Sto.of l w (by omega) (by omega)) hok3 (dec_right hr3))) ?_
      refine .step rfl (.move rfl rfl) ?_
      refine .step rfl (.extract rfl rfl rfl rfl) ?_
      refine .step rfl (.extract rfl rfl rfl rfl) ?_
      refine .step rfl (.assign rfl rfl) ?_
      refine .step rfl (.assign rfl rfl) ?_
      refine .nil ?_
      refine .next ?_
      refine .seq ?_
      refine .region ?_
      refine .step rfl (.move rfl rfl) ?_
      refine .step rfl (.binv (.bool true) rfl rfl rfl rfl (rfl)) ?_
      refine .step rfl (.move rfl rfl) ?_
      refine .go 86 rfl rfl rfl rfl (.move rfl rfl) ?_
      refine .go 86 rfl rfl rfl rfl (.binv (.bool true) rfl rfl rfl rfl (rfl)) ?_
      refine .step rfl (.pick rfl rfl rfl) ?_
      refine .step rfl (.move rfl rfl) ?_
      refine .go 90 rfl rfl rfl rfl (.move rfl rfl) ?_
      refine .go 90 rfl rfl rfl rfl (.binv (.bool true) rfl rfl rfl rfl (rfl)) ?_
      refine .step rfl (.pick rfl rfl rfl) ?_
      refine .step rfl (.assign rfl rfl) ?_
      refine .nil ?_
      refine .next ?_
      refine .ret ?_
      exact TE.retf rfl rfl rfl trivial

theorem admitForms_walk (v0 : Value) (a0 : List UInt8) (v1 : Value) (a1 : List UInt8) (a2 : Int) (a3 : Int) (a4 : Int) (W : World) (w0 : Rd W v0 a0) (w1 : Rd W v1 a1) (w2 : (Lit.int .u8 a2).wf = true) (w3 : (Lit.int .u8 a3).wf = true) (w4 : (Lit.int .u8 a4).wf = true) : Calls Try.prog 6 #[v0, v1, .int .u8 a2, .int .u8 a3, .int .u8 a4] W fun e W' => e = .returned (.bool true) ∧ Below W.heap.size W W' := by
  obtain ⟨k2, rfl⟩ := u8_of w2
  obtain ⟨k3, rfl⟩ := u8_of w3
  obtain ⟨k4, rfl⟩ := u8_of w4
  exact pf_bool (forms_pf a0 a1 k2 k3 k4) (repl_cons (rd_rep w0) (repl_cons (rd_rep w1) (repl_cons (rep_v _) (repl_cons (rep_v _) (repl_cons (rep_v _) repl_nil)))))

end Go.Proofs.Ytkkgjmfnlabbdaa
