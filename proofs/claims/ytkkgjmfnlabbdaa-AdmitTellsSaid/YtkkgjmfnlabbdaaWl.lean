/-
  AdmitTells.
-/
import Derived.Test.YtkkgjmfnlabbdaaWj
namespace Go.Proofs.Ytkkgjmfnlabbdaa
set_option linter.unusedVariables false
set_option linter.unusedSimpArgs false
open Go.RowKit Pl

theorem ap37 : apt Try.prog 37 = some (27, 6, 56) := by kernel_rfl
theorem ap43 : apt Try.prog 43 = some (9, 1, 16) := by kernel_rfl
theorem cf14 : cfn Try.prog 14 = true := by kernel_rfl
theorem cf8 : cfn Try.prog 8 = true := by kernel_rfl
theorem cf9 : cfn Try.prog 9 = true := by kernel_rfl
theorem et37 : elt Try.prog 37 = some (27, 6) := by kernel_rfl
theorem et43 : elt Try.prog 43 = some (9, 1) := by kernel_rfl
theorem is37 : isSl Try.prog 37 = some true := by kernel_rfl
theorem is43 : isSl Try.prog 43 = some true := by kernel_rfl
theorem is9 : isSl Try.prog 9 = some false := by kernel_rfl
theorem zc9 : zc Try.prog 9 = some [.string ⟨#[]⟩] := by kernel_rfl

set_option maxRecDepth 100000 in
set_option maxHeartbeats 1600000 in
theorem tells_pf (l w : List UInt8) (k : UInt8) (ver : Int) (cls how : UInt8) (raw : Up) (hraw : raw.inn) (name : List UInt8) : PF Try.prog 3 [slT bdv 1 l, slT bdv 1 w, .v (.int .u8 k.toNat), .v (.int .i64 ver), .v (.int .u8 cls.toNat), .v (.int .u8 how.toNat), .ag raw.dv, .v (strV name)] (.v (.bool true)) := by
  refine PF.enter (fn := Try.f3) Try.func3 rfl Try.ntmps3 rfl (fun w0 => ?_)
  refine .seq ?_
  refine .region ?_
  refine .step rfl (.box 1 rfl rfl rfl rfl) ?_
  refine .step rfl (.assign rfl rfl) ?_
  refine .nil ?_
  refine .next ?_
  refine .seq ?_
  refine .seq ?_
  refine .region ?_
  refine .step rfl (.callf rfl cf8 rfl trivial (known_pf)) ?_
  refine .step rfl (.un rfl rfl rfl) ?_
  refine .nil ?_
  refine .next ?_
  refine .cond rfl (fun h1 => absurd h1 (by decide)) (fun h1 => ?_)
  refine .skip ?_
  refine .next ?_
  refine .seq ?_
  refine .seq ?_
  by_cases hla : 10 < l.length
  · skip
    refine .region ?_
    refine .step rfl (.move rfl rfl) ?_
    refine .step rfl (.len rfl rfl ⟨_, _, rfl⟩ is22) ?_
    refine .step rfl (.binv (.bool true) rfl rfl rfl rfl (congrArg Value.bool (decide_eq_true (by omega)))) ?_
    refine .step rfl (.move rfl rfl) ?_
    refine .no 39 rfl rfl rfl rfl rfl rfl rfl ?_
    refine .no 39 rfl rfl rfl rfl rfl rfl rfl ?_
    refine .no 39 rfl rfl rfl rfl rfl rfl rfl ?_
    refine .step rfl (.pick rfl rfl rfl) ?_
    refine .step rfl (.move rfl rfl) ?_
    refine .no 44 rfl rfl rfl rfl rfl rfl rfl ?_
    refine .no 44 rfl rfl rfl rfl rfl rfl rfl ?_
    refine .no 44 rfl rfl rfl rfl rfl rfl rfl ?_
    refine .no 44 rfl rfl rfl rfl rfl rfl rfl ?_
    refine .step rfl (.pick rfl rfl rfl) ?_
    refine .step rfl (.move rfl rfl) ?_
    refine .no 50 rfl rfl rfl rfl rfl rfl rfl ?_
    refine .no 50 rfl rfl rfl rfl rfl rfl rfl ?_
    refine .no 50 rfl rfl rfl rfl rfl rfl rfl ?_
    refine .step rfl (.pick rfl rfl rfl) ?_
    refine .nil ?_
    refine .next ?_
    refine .cond rfl (fun h3 => ?_) (fun h3 => absurd h3 (by decide))
    refine .seq ?_
    refine .region ?_
    refine .step rfl (.assign rfl rfl) ?_
    refine .nil ?_
    refine .next ?_
    refine .ret ?_
    exact TE.retf rfl rfl rfl trivial
  · skip
    by_cases hwb : 8 < w.length
    · skip
      refine .region ?_
      refine .step rfl (.move rfl rfl) ?_
      refine .step rfl (.len rfl rfl ⟨_, _, rfl⟩ is22) ?_
      refine .step rfl (.binv (.bool false) rfl rfl rfl rfl (congrArg Value.bool (decide_eq_false (by omega)))) ?_
      refine .step rfl (.move rfl rfl) ?_
      refine .go 39 rfl rfl rfl rfl (.move rfl rfl) ?_
      refine .go 39 rfl rfl rfl rfl (.len rfl rfl ⟨_, _, rfl⟩ is22) ?_
      refine .go 39 rfl rfl rfl rfl (.binv (.bool true) rfl rfl rfl rfl (congrArg Value.bool (decide_eq_true (by omega)))) ?_
      refine .step rfl (.pick rfl rfl rfl) ?_
      refine .step rfl (.move rfl rfl) ?_
      refine .no 44 rfl rfl rfl rfl rfl rfl rfl ?_
      refine .no 44 rfl rfl rfl rfl rfl rfl rfl ?_
      refine .no 44 rfl rfl rfl rfl rfl rfl rfl ?_
      refine .no 44 rfl rfl rfl rfl rfl rfl rfl ?_
      refine .step rfl (.pick rfl rfl rfl) ?_
      refine .step rfl (.move rfl rfl) ?_
      refine .no 50 rfl rfl rfl rfl rfl rfl rfl ?_
      refine .no 50 rfl rfl rfl rfl rfl rfl rfl ?_
      refine .no 50 rfl rfl rfl rfl rfl rfl rfl ?_
      refine .step rfl (.pick rfl rfl rfl) ?_
      refine .nil ?_
      refine .next ?_
      refine .cond rfl (fun h5 => ?_) (fun h5 => absurd h5 (by decide))
      refine .seq ?_
      refine .region ?_
      refine .step rfl (.assign rfl rfl) ?_
      refine .nil ?_
      refine .next ?_
      refine .ret ?_
      exact TE.retf rfl rfl rfl trivial
    · skip
      by_cases hrn : 40 < raw.nm.length
      · skip
        refine .region ?_
        refine .step rfl (.move rfl rfl) ?_
        refine .step rfl (.len rfl rfl ⟨_, _, rfl⟩ is22) ?_
        refine .step rfl (.binv (.bool false) rfl rfl rfl rfl (congrArg Value.bool (decide_eq_false (by omega)))) ?_
        refine .step rfl (.move rfl rfl) ?_
        refine .go 39 rfl rfl rfl rfl (.move rfl rfl) ?_
        refine .go 39 rfl rfl rfl rfl (.len rfl rfl ⟨_, _, rfl⟩ is22) ?_
        refine .go 39 rfl rfl rfl rfl (.binv (.bool false) rfl rfl rfl rfl (congrArg Value.bool (decide_eq_false (by omega)))) ?_
        refine .step rfl (.pick rfl rfl rfl) ?_
        refine .step rfl (.move rfl rfl) ?_
        refine .go 44 rfl rfl rfl rfl (.fieldp rfl rfl rfl rfl fo27_0) ?_
        refine .go 44 rfl rfl rfl rfl (.ldp rfl rfl rfl rfl rfl tk9) ?_
        refine .go 44 rfl rfl rfl rfl (.lens rfl rfl is9) ?_
        refine .go 44 rfl rfl rfl rfl (.binv (.bool true) rfl rfl rfl rfl (congrArg Value.bool (decide_eq_true (by omega)))) ?_
        refine .step rfl (.pick rfl rfl rfl) ?_
        refine .step rfl (.move rfl rfl) ?_
        refine .no 50 rfl rfl rfl rfl rfl rfl rfl ?_
        refine .no 50 rfl rfl rfl rfl rfl rfl rfl ?_
        refine .no 50 rfl rfl rfl rfl rfl rfl rfl ?_
        refine .step rfl (.pick rfl rfl rfl) ?_
        refine .nil ?_
        refine .next ?_
        refine .cond rfl (fun h7 => ?_) (fun h7 => absurd h7 (by decide))
        refine .seq ?_
        refine .region ?_
        refine .step rfl (.assign rfl rfl) ?_
        refine .nil ?_
        refine .next ?_
        refine .ret ?_
        exact TE.retf rfl rfl rfl trivial
      · skip
        by_cases hnn : 40 < name.length
        · skip
          refine .region ?_
          refine .step rfl (.move rfl rfl) ?_
          refine .step rfl (.len rfl rfl ⟨_, _, rfl⟩ is22) ?_
          refine .step rfl (.binv (.bool false) rfl rfl rfl rfl (congrArg Value.bool (decide_eq_false (by omega)))) ?_
          refine .step rfl (.move rfl rfl) ?_
          refine .go 39 rfl rfl rfl rfl (.move rfl rfl) ?_
          refine .go 39 rfl rfl rfl rfl (.len rfl rfl ⟨_, _, rfl⟩ is22) ?_
          refine .go 39 rfl rfl rfl rfl (.binv (.bool false) rfl rfl rfl rfl (congrArg Value.bool (decide_eq_false (by omega)))) ?_
          refine .step rfl (.pick rfl rfl rfl) ?_
          refine .step rfl (.move rfl rfl) ?_
          refine .go 44 rfl rfl rfl rfl (.fieldp rfl rfl rfl rfl fo27_0) ?_
          refine .go 44 rfl rfl rfl rfl (.ldp rfl rfl rfl rfl rfl tk9) ?_
          refine .go 44 rfl rfl rfl rfl (.lens rfl rfl is9) ?_
          refine .go 44 rfl rfl rfl rfl (.binv (.bool false) rfl rfl rfl rfl (congrArg Value.bool (decide_eq_false (by omega)))) ?_
          refine .step rfl (.pick rfl rfl rfl) ?_
          refine .step rfl (.move rfl rfl) ?_
          refine .go 50 rfl rfl rfl rfl (.move rfl rfl) ?_
          refine .go 50 rfl rfl rfl rfl (.lens rfl rfl is9) ?_
          refine .go 50 rfl rfl rfl rfl (.binv (.bool true) rfl rfl rfl rfl (congrArg Value.bool (decide_eq_true (by omega)))) ?_
          refine .step rfl (.pick rfl rfl rfl) ?_
          refine .nil ?_
          refine .next ?_
          refine .cond rfl (fun h9 => ?_) (fun h9 => absurd h9 (by decide))
          refine .seq ?_
          refine .region ?_
          refine .step rfl (.assign rfl rfl) ?_
          refine .nil ?_
          refine .next ?_
          refine .ret ?_
          exact TE.retf rfl rfl rfl trivial
        · skip
          refine .region ?_
          refine .step rfl (.move rfl rfl) ?_
          refine .step rfl (.len rfl rfl ⟨_, _, rfl⟩ is22) ?_
          refine .step rfl (.binv (.bool false) rfl rfl rfl rfl (congrArg Value.bool (decide_eq_false (by omega)))) ?_
          refine .step rfl (.move rfl rfl) ?_
          refine .go 39 rfl rfl rfl rfl (.move rfl rfl) ?_
          refine .go 39 rfl rfl rfl rfl (.len rfl rfl ⟨_, _, rfl⟩ is22) ?_
          refine .go 39 rfl rfl rfl rfl (.binv (.bool false) rfl rfl rfl rfl (congrArg Value.bool (decide_eq_false (by omega)))) ?_
          refine .step rfl (.pick rfl rfl rfl) ?_
          refine .step rfl (.move rfl rfl) ?_
          refine .go 44 rfl rfl rfl rfl (.fieldp rfl rfl rfl rfl fo27_0) ?_
          refine .go 44 rfl rfl rfl rfl (.ldp rfl rfl rfl rfl rfl tk9) ?_
          refine .go 44 rfl rfl rfl rfl (.lens rfl rfl is9) ?_
          refine .go 44 rfl rfl rfl rfl (.binv (.bool false) rfl rfl rfl rfl (congrArg Value.bool (decide_eq_false (by omega)))) ?_
          refine .step rfl (.pick rfl rfl rfl) ?_
          refine .step rfl (.move rfl rfl) ?_
          refine .go 50 rfl rfl rfl rfl (.move rfl rfl) ?_
          refine .go 50 rfl rfl rfl rfl (.lens rfl rfl is9) ?_
          refine .go 50 rfl rfl rfl rfl (.binv (.bool false) rfl rfl rfl rfl (congrArg Value.bool (decide_eq_false (by omega)))) ?_
          refine .step rfl (.pick rfl rfl rfl) ?_
          refine .nil ?_
          refine .next ?_
          refine .cond rfl (fun h10 => absurd h10 (by decide)) (fun h10 => ?_)
          refine .skip ?_
          refine .next ?_
          refine .seq ?_
          refine .region ?_
          refine .step rfl (.move rfl rfl) ?_
          refine .step rfl (.move rfl rfl) ?_
          refine .step rfl (.callc rfl cf9 rfl (story_pc l w (by omega) (by omega))) ?_
          refine .step rfl (.move rfl rfl) ?_
          refine .step rfl (.extract rfl rfl rfl rfl) ?_
          refine .step rfl (.extract rfl rfl rfl rfl) ?_
          refine .step rfl (.assign rfl rfl) ?_
          refine .step rfl (.assign rfl rfl) ?_
          refine .nil ?_
          refine .next ?_
          refine .seq ?_
          refine .region ?_
          refine .step rfl (.move rfl rfl) ?_
          refine .step rfl (.callf rfl cf10 rfl ⟨trivial, trivial⟩ (name8_pf k)) ?_
          refine .step rfl (.assign rfl rfl) ?_
          refine .nil ?_
          refine .next ?_
          refine .seq ?_
          refine .region ?_
          refine .step rfl (.move rfl rfl) ?_
          refine .step rfl (.move rfl rfl) ?_
          refine .step rfl (.move rfl rfl) ?_
          refine .step rfl (.callf rfl cf11 rfl ⟨trivial, trivial, trivial, trivial⟩ (rnx_pf (Sto.of l w (by omega) (by omega)) _)) ?_
          refine .step rfl (.move rfl rfl) ?_
          refine .step rfl (.extract rfl rfl rfl rfl) ?_
          refine .step rfl (.extract rfl rfl rfl rfl) ?_
          refine .step rfl (.assign rfl rfl) ?_
          refine .step rfl (.assign rfl rfl) ?_
          refine .nil ?_
          refine .next ?_
          refine .seq ?_
          refine .seq ?_
          have hle := (Sto.of l w (by omega) (by omega)).le (nameL k.toNat)
          have ha3 := and3_bd ver
          refine .draw mixed [Ro.mk _ (Eff.mk (some (70, _)) []) [1], Ro.mk _ (Eff.mk (some (71, _)) []) [], Ro.mk _ (Eff.mk (some (72, _)) []) [], Ro.mk _ (Eff.mk (some (73, _)) []) [], Ro.mk _ (Eff.mk (some (74, _)) []) [], Ro.mk _ (Eff.mk (some (75, _)) []) [], Ro.mk _ (Eff.mk (some (76, _)) []) [], Ro.mk _ (Eff.mk (some (77, _)) []) [], Ro.mk _ (Eff.mk (some (78, _)) []) [], Ro.mk _ (Eff.mk (some (79, _)) []) [], Ro.mk _ (Eff.mk (some (80, _)) []) [], Ro.mk _ (Eff.mk (some (81, _)) []) [], Ro.mk _ (Eff.mk (some (82, _)) []) [], Ro.mk _ (Eff.mk (some (83, _)) []) [], Ro.mk _ (Eff.mk (some (84, _)) []) [], Ro.mk _ (Eff.mk (some (85, _)) []) [], Ro.mk _ (Eff.mk (some (86, _)) [(2, _)]) [2], Ro.mk _ (Eff.mk (some (87, _)) []) [2], Ro.mk _ (Eff.mk (some (88, _)) []) []] rfl ⟨(fun _ _ => .ldpm rfl rfl rfl rfl rfl rfl tk27), (fun _ _ => .move rfl rfl), (fun _ _ => .move rfl rfl), (fun _ _ => .move rfl rfl), (fun _ _ => .move rfl rfl), (fun _ _ => .callf rfl cf12 rfl ⟨trivial, trivial, trivial, trivial, trivial⟩ (upd_pf (Sto.of l w (by omega) (by omega)) k ((lastN l w (nameL k.toNat) + 1 : Nat) : Int) _ _ (by omega) (by omega) (Int.natCast_nonneg _) (by have := UInt8.toNat_lt cls; omega) (Int.natCast_nonneg _))), (fun _ _ => .move rfl rfl), (fun _ _ => .move rfl rfl), (fun _ _ => .move rfl rfl), (fun _ _ => .bits (and3 ver) rfl rfl rfl rfl (rfl)), (fun _ _ => .binv (.int .i64 (((lastN l w (nameL k.toNat) + 1 : Nat) : Int) + and3 ver)) rfl rfl rfl rfl (congrArg _ (by rw [IntKind.wrap_i64]; omega))), (fun _ _ => .binv (.int .i64 (((lastN l w (nameL k.toNat) + 1 : Nat) : Int) + and3 ver - 2)) rfl rfl rfl rfl (congrArg _ (by rw [IntKind.wrap_i64]; omega))), (fun _ _ => .max2 rfl rfl rfl), (fun _ _ => .move rfl rfl), (fun _ _ => .move rfl rfl), (fun _ _ => .callf rfl cf12 rfl ⟨trivial, trivial, trivial, trivial, trivial⟩ (upd_pf (Sto.of l w (by omega) (by omega)) k (max (((lastN l w (nameL k.toNat) + 1 : Nat) : Int) + and3 ver - 2) 1) _ _ (by omega) (by omega) (Int.natCast_nonneg _) (by have := UInt8.toNat_lt cls; omega) (Int.natCast_nonneg _))), (fun _ _ => .buildsl (ds := [raw, (seatU (nameL k.toNat) ((lastN l w (nameL k.toNat) + 1 : Nat) : Int) cls.toNat how.toNat), (seatU (nameL k.toNat) (max (((lastN l w (nameL k.toNat) + 1 : Nat) : Int) + and3 ver - 2) 1) cls.toNat how.toNat)].flatMap Up.dv) 2 rfl rfl rfl ap37 zc27 rfl rfl rfl), (fun _ _ => .leno rfl rfl rfl is37), (fun _ _ => .move rfl rfl), trivial⟩ (by kernel_rfl) ?_
          refine TE.frz 86 (slT Up.dv 6 [raw, (seatU (nameL k.toNat) ((lastN l w (nameL k.toNat) + 1 : Nat) : Int) cls.toNat how.toNat), (seatU (nameL k.toNat) (max (((lastN l w (nameL k.toNat) + 1 : Nat) : Int) + and3 ver - 2) 1) cls.toNat how.toNat)]) rfl rfl rfl rfl ?_
          have hok : ∀ u ∈ [raw, (seatU (nameL k.toNat) ((lastN l w (nameL k.toNat) + 1 : Nat) : Int) cls.toNat how.toNat), (seatU (nameL k.toNat) (max (((lastN l w (nameL k.toNat) + 1 : Nat) : Int) + and3 ver - 2) 1) cls.toNat how.toNat)], u.ok := by intro u hu; simp only [List.mem_cons, List.not_mem_nil, or_false] at hu; exact hu.elim (fun e => e ▸ hraw.ok (by omega)) (fun hu => hu.elim (fun e => e ▸ okU k _ _ _ (by omega) (by omega) (Int.natCast_nonneg _)) (fun e => e ▸ okU k _ _ _ (by omega) (by omega) (Int.natCast_nonneg _)))
          have hlen : [raw, (seatU (nameL k.toNat) ((lastN l w (nameL k.toNat) + 1 : Nat) : Int) cls.toNat how.toNat), (seatU (nameL k.toNat) (max (((lastN l w (nameL k.toNat) + 1 : Nat) : Int) + and3 ver - 2) 1) cls.toNat how.toNat)].length = 3 := rfl
          generalize [raw, (seatU (nameL k.toNat) ((lastN l w (nameL k.toNat) + 1 : Nat) : Int) cls.toNat how.toNat), (seatU (nameL k.toNat) (max (((lastN l w (nameL k.toNat) + 1 : Nat) : Int) + and3 ver - 2) 1) cls.toNat how.toNat)] = us at hok hlen ⊢
          refine .next ?_
          refine .block ?_
          refine TC.loop (S := Nat) (fun i => i ≤ us.length) (fun i => us.length - i) (fun i => [(0, .d (slT bdv 1 l)), (1, .d (slT bdv 1 w)), (2, .d (.v (.int .u8 k.toNat))), (3, .d (.v (.int .i64 ver))), (4, .d (.v (.int .u8 cls.toNat))), (5, .d (.v (.int .u8 how.toNat))), (6, .d (.ag raw.dv)), (7, .d (.v (strV name))), (17, .d (slT Kn.dv 4 (storyK 0 [] l))), (18, .d (slT Pe.dv 9 (storyW (storyK 0 [] l) 0 [] w))), (19, .f (.v (strV (nameL k.toNat)))), (86, .d (slT Up.dv 6 us)), (87, .f (.v (.int .i64 3))), (88, .f (.v (.int .i64 i)))]) (fun i => [(1, .dead), (2, .dead)]) (0) (Nat.zero_le _) ⟨⟨rfl, rfl⟩, ⟨rfl, rfl⟩, ⟨rfl, rfl⟩, ⟨rfl, rfl⟩, ⟨rfl, rfl⟩, ⟨rfl, rfl⟩, ⟨rfl, rfl⟩, ⟨rfl, rfl⟩, ⟨rfl, rfl⟩, ⟨rfl, rfl⟩, ⟨rfl, rfl⟩, ⟨rfl, rfl⟩, ⟨rfl, rfl⟩, ⟨rfl, rfl⟩, trivial⟩ ⟨.inl rfl, .inl rfl, trivial⟩ (fun i hI => ?_)
          refine .seq ?_
          refine .region ?_
          refine .step rfl (.bin rfl rfl rfl rfl) ?_
          refine .nil ?_
          refine .next ?_
          refine .seq ?_
          refine .cond rfl (fun h11 => ?_) (fun h11 => ?_)
          · skip
            have hi : i < us.length := by have q : (i : Int) < 3 := of_decide_eq_true h11; omega
            refine .skip ?_
            refine .next ?_
            refine .seq ?_
            refine .block ?_
            refine .seq ?_
            refine .region ?_
            refine .step rfl (.idx (us[i]) rfl rfl rfl rfl et37 (fun _ => rfl) (Int.natCast_nonneg i) (get_nat hi)) ?_
            refine .step rfl (.ldem rfl rfl rfl rfl rfl tk27) ?_
            refine .step rfl (.alloc 3 rfl rfl zc27 rfl) ?_
            refine .step rfl (.store rfl rfl rfl sz27 rfl rfl) ?_
            refine .nil ?_
            refine .next ?_
            refine .seq ?_
            refine .region ?_
            refine .step rfl (.move rfl rfl) ?_
            refine .step rfl (.move rfl rfl) ?_
            refine .step rfl (.ldpm rfl rfl rfl rfl rfl rfl tk27) ?_
            refine .step rfl (.callf rfl cf13 rfl ⟨trivial, trivial, trivial, trivial⟩ (dec_pf (Sto.of l w (by omega) (by omega)) (u := us[i]) (a := (decideR (storyK 0 [] l) (storyW (storyK 0 [] l) 0 [] w) us[i]).1) (b := (decideR (storyK 0 [] l) (storyW (storyK 0 [] l) 0 [] w) us[i]).2) (hok _ (List.getElem_mem hi)) rfl)) ?_
            refine .step rfl (.move rfl rfl) ?_
            refine .step rfl (.extract rfl rfl rfl rfl) ?_
            refine .step rfl (.extract rfl rfl rfl rfl) ?_
            refine .step rfl (.assign rfl rfl) ?_
            refine .step rfl (.assign rfl rfl) ?_
            refine .nil ?_
            refine .next ?_
            refine .seq ?_
            refine .region ?_
            refine .step rfl (.move rfl rfl) ?_
            refine .step rfl (.move rfl rfl) ?_
            refine .step rfl (.ldpm rfl rfl rfl rfl rfl rfl tk27) ?_
            refine .step rfl (.callf rfl cf14 rfl ⟨trivial, trivial, trivial, trivial⟩ (rdec_pf (Sto.of l w (by omega) (by omega)) (u := us[i]) (a := (decideR (storyK 0 [] l) (storyW (storyK 0 [] l) 0 [] w) us[i]).1) (b := (decideR (storyK 0 [] l) (storyW (storyK 0 [] l) 0 [] w) us[i]).2) (hok _ (List.getElem_mem hi)) rfl)) ?_
            refine .step rfl (.move rfl rfl) ?_
            refine .step rfl (.extract rfl rfl rfl rfl) ?_
            refine .step rfl (.extract rfl rfl rfl rfl) ?_
            refine .step rfl (.assign rfl rfl) ?_
            refine .step rfl (.assign rfl rfl) ?_
            refine .nil ?_
            refine .next ?_
            refine .seq ?_
            refine .region ?_
            refine .step rfl (.move rfl rfl) ?_
            refine .step rfl (.move rfl rfl) ?_
            refine .step rfl (.binv (.bool false) rfl rfl rfl rfl (by simp)) ?_
            refine .step rfl (.move rfl rfl) ?_
            refine .go 109 rfl rfl rfl rfl (.move rfl rfl) ?_
            refine .go 109 rfl rfl rfl rfl (.move rfl rfl) ?_
            refine .go 109 rfl rfl rfl rfl (.binv (.bool false) rfl rfl rfl rfl (by simp)) ?_
            refine .step rfl (.pick rfl rfl rfl) ?_
            refine .nil ?_
            refine .next ?_
            refine .cond rfl (fun h12 => absurd h12 (by decide)) (fun h12 => ?_)
            refine .skip ?_
            refine TE.blk ?_
            refine .next ?_
            refine .region ?_
            refine .step rfl (.binv (.int .i64 ((i + 1 : Nat) : Int)) rfl rfl rfl rfl (congrArg _ (wrap_succ hi (by omega)))) ?_
            refine .step rfl (.move rfl rfl) ?_
            refine .nil ?_
            exact TE.round id (fun _ _ e => e) (i + 1) hi (by omega) ⟨⟨rfl, rfl⟩, ⟨rfl, rfl⟩, ⟨rfl, rfl⟩, ⟨rfl, rfl⟩, ⟨rfl, rfl⟩, ⟨rfl, rfl⟩, ⟨rfl, rfl⟩, ⟨rfl, rfl⟩, ⟨rfl, rfl⟩, ⟨rfl, rfl⟩, ⟨rfl, rfl⟩, ⟨rfl, rfl⟩, ⟨rfl, rfl⟩, ⟨rfl, rfl⟩, trivial⟩ ⟨.inl rfl, .inl rfl, trivial⟩
          · skip
            skip
            refine .exit ?_
            refine TE.pass ?_
            refine TE.pass ?_
            refine TE.here ?_
            refine .next ?_
            refine .seq ?_
            refine .seq ?_
            refine .region ?_
            refine .step rfl (.move rfl rfl) ?_
            refine .step rfl (.move rfl rfl) ?_
            refine .step rfl (.buildsl (ds := [name, (nameL k.toNat)].flatMap sdv) 4 rfl rfl rfl ap43 zc9 rfl rfl rfl) ?_
            refine .step rfl (.leno rfl rfl rfl is43) ?_
            refine .step rfl (.move rfl rfl) ?_
            refine .nil ?_
            refine TE.frz 117 (slT sdv 1 [name, (nameL k.toNat)]) rfl rfl rfl rfl ?_
            have hzl : [name, (nameL k.toNat)].length = 2 := rfl
            generalize [name, (nameL k.toNat)] = zs at hzl ⊢
            refine .next ?_
            refine .block ?_
            refine TC.loop (S := Nat) (fun j => j ≤ zs.length) (fun j => zs.length - j) (fun j => [(0, .d (slT bdv 1 l)), (1, .d (slT bdv 1 w)), (2, .d (.v (.int .u8 k.toNat))), (3, .d (.v (.int .i64 ver))), (4, .d (.v (.int .u8 cls.toNat))), (5, .d (.v (.int .u8 how.toNat))), (6, .d (.ag raw.dv)), (7, .d (.v (strV name))), (17, .d (slT Kn.dv 4 (storyK 0 [] l))), (18, .d (slT Pe.dv 9 (storyW (storyK 0 [] l) 0 [] w))), (117, .d (slT sdv 1 zs)), (118, .f (.v (.int .i64 2))), (119, .f (.v (.int .i64 j)))]) (fun j => [(1, .dead), (2, .dead), (4, .dead)]) (0) (Nat.zero_le _) ⟨⟨rfl, rfl⟩, ⟨rfl, rfl⟩, ⟨rfl, rfl⟩, ⟨rfl, rfl⟩, ⟨rfl, rfl⟩, ⟨rfl, rfl⟩, ⟨rfl, rfl⟩, ⟨rfl, rfl⟩, ⟨rfl, rfl⟩, ⟨rfl, rfl⟩, ⟨rfl, rfl⟩, ⟨rfl, rfl⟩, ⟨rfl, rfl⟩, trivial⟩ ⟨.inl rfl, .inl rfl, .inl rfl, trivial⟩ (fun j hI => ?_)
            refine .seq ?_
            refine .region ?_
            refine .step rfl (.bin rfl rfl rfl rfl) ?_
            refine .nil ?_
            refine .next ?_
            refine .seq ?_
            refine .cond rfl (fun h13 => ?_) (fun h13 => ?_)
            · skip
              have hj : j < zs.length := by have q : (j : Int) < 2 := of_decide_eq_true h13; omega
              refine .skip ?_
              refine .next ?_
              refine .seq ?_
              refine .block ?_
              refine .seq ?_
              refine .region ?_
              refine .step rfl (.idx (zs[j]) rfl rfl rfl rfl et43 (fun _ => rfl) (Int.natCast_nonneg j) (get_nat hj)) ?_
              refine .step rfl (.lde rfl rfl rfl rfl tk9) ?_
              refine .step rfl (.assign rfl rfl) ?_
              refine .nil ?_
              refine .next ?_
              refine .seq ?_
              refine .region ?_
              refine .step rfl (.move rfl rfl) ?_
              refine .step rfl (.move rfl rfl) ?_
              refine .step rfl (.move rfl rfl) ?_
              refine .step rfl (.callf rfl cf15 rfl ⟨trivial, trivial, trivial, trivial⟩ (nx_pf (Sto.of l w (by omega) (by omega)) zs[j])) ?_
              refine .step rfl (.move rfl rfl) ?_
              refine .step rfl (.extract rfl rfl rfl rfl) ?_
              refine .step rfl (.extract rfl rfl rfl rfl) ?_
              refine .step rfl (.assign rfl rfl) ?_
              refine .step rfl (.assign rfl rfl) ?_
              refine .nil ?_
              refine .next ?_
              refine .seq ?_
              refine .region ?_
              refine .step rfl (.move rfl rfl) ?_
              refine .step rfl (.move rfl rfl) ?_
              refine .step rfl (.move rfl rfl) ?_
              refine .step rfl (.callf rfl cf11 rfl ⟨trivial, trivial, trivial, trivial⟩ (rnx_pf (Sto.of l w (by omega) (by omega)) zs[j])) ?_
              refine .step rfl (.move rfl rfl) ?_
              refine .step rfl (.extract rfl rfl rfl rfl) ?_
              refine .step rfl (.extract rfl rfl rfl rfl) ?_
              refine .step rfl (.assign rfl rfl) ?_
              refine .step rfl (.assign rfl rfl) ?_
              refine .nil ?_
              refine .next ?_
              refine .seq ?_
              refine .region ?_
              refine .step rfl (.move rfl rfl) ?_
              refine .step rfl (.move rfl rfl) ?_
              refine .step rfl (.binv (.bool false) rfl rfl rfl rfl (by simp)) ?_
              refine .step rfl (.move rfl rfl) ?_
              refine .go 140 rfl rfl rfl rfl (.move rfl rfl) ?_
              refine .go 140 rfl rfl rfl rfl (.move rfl rfl) ?_
              refine .go 140 rfl rfl rfl rfl (.binv (.bool false) rfl rfl rfl rfl (by simp)) ?_
              refine .step rfl (.pick rfl rfl rfl) ?_
              refine .nil ?_
              refine .next ?_
              refine .cond rfl (fun h14 => absurd h14 (by decide)) (fun h14 => ?_)
              refine .skip ?_
              refine TE.blk ?_
              refine .next ?_
              refine .region ?_
              refine .step rfl (.binv (.int .i64 ((j + 1 : Nat) : Int)) rfl rfl rfl rfl (congrArg _ (wrap_succ hj (by omega)))) ?_
              refine .step rfl (.move rfl rfl) ?_
              refine .nil ?_
              exact TE.round id (fun _ _ e => e) (j + 1) hj (by omega) ⟨⟨rfl, rfl⟩, ⟨rfl, rfl⟩, ⟨rfl, rfl⟩, ⟨rfl, rfl⟩, ⟨rfl, rfl⟩, ⟨rfl, rfl⟩, ⟨rfl, rfl⟩, ⟨rfl, rfl⟩, ⟨rfl, rfl⟩, ⟨rfl, rfl⟩, ⟨rfl, rfl⟩, ⟨rfl, rfl⟩, ⟨rfl, rfl⟩, trivial⟩ ⟨.inl rfl, .inl rfl, .inl rfl, trivial⟩
            · skip
              skip
              refine .exit ?_
              refine TE.pass ?_
              refine TE.pass ?_
              refine TE.here ?_
              refine .next ?_
              refine .seq ?_
              refine .region ?_
              refine .step rfl (.assign rfl rfl) ?_
              refine .nil ?_
              refine .next ?_
              refine .ret ?_
              exact TE.retf rfl rfl rfl trivial

theorem admitTells_walk (v0 : Value) (a0 : List UInt8) (v1 : Value) (a1 : List UInt8) (a2 : Int) (a3 : Int) (a4 : Int) (a5 : Int) (u6 : Up) (a7 : List UInt8) (W : World) (w0 : Rd W v0 a0) (w1 : Rd W v1 a1) (w2 : (Lit.int .u8 a2).wf = true) (w3 : (Lit.int .i64 a3).wf = true) (w4 : (Lit.int .u8 a4).wf = true) (w5 : (Lit.int .u8 a5).wf = true) (w6 : u6.inn) (w7 : a7.length ≤ maxLen) : Calls Try.prog 3 #[v0, v1, .int .u8 a2, .int .i64 a3, .int .u8 a4, .int .u8 a5, upV u6, .string ⟨a7.toArray⟩] W fun e W' => e = .returned (.bool true) ∧ Below W.heap.size W W' := by
  obtain ⟨k2, rfl⟩ := u8_of w2
  obtain ⟨k4, rfl⟩ := u8_of w4
  obtain ⟨k5, rfl⟩ := u8_of w5
  exact pf_bool (tells_pf a0 a1 k2 a3 k4 k5 u6 w6 a7) (repl_cons (rd_rep w0) (repl_cons (rd_rep w1) (repl_cons (rep_v _) (repl_cons (rep_v _) (repl_cons (rep_v _) (repl_cons (rep_v _) (repl_cons (up_rep u6) (repl_cons (rep_v _) repl_nil))))))))

end Go.Proofs.Ytkkgjmfnlabbdaa
