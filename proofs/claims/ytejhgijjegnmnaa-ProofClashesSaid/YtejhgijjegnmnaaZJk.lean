/-
  The laws' indices; bent proofs.
-/
import Derived.Test.YtejhgijjegnmnaaZJj
import Derived.Test.YtejhgijjegnmnaaZFl
namespace Go.Proofs.Ytejhgijjegnmnaa
set_option linter.unusedVariables false
set_option linter.unusedSimpArgs false
open Go.RowKit Pl
set_option maxRecDepth 100000 in
set_option maxHeartbeats 1600000 in
theorem index_pf (l : List It) (k : UInt16) (raw : H) (hl : l.length ≤ 1048576) : PF Try.prog 11 [slT It.dv 64 l, .v (.int .u16 k.toNat), .ag (hdv (raw))] (.ag (hdv (indexV l k raw))) := by
  refine PF.enter (fn := Try.f11) Try.func11 rfl Try.ntmps11 rfl (fun w0 => ?_)
  refine .seq ?_
  refine .region ?_
  refine .step rfl (.box 1 rfl rfl rfl rfl) ?_
  refine .step rfl (.alloc 2 rfl rfl zc25 rfl) ?_
  refine .nil ?_
  refine TE.frzb 5 rfl rfl rfl rfl ?_
  refine TE.obj 2 (.box 25 (hdv zeroH)) rfl rfl ?_
  refine .next ?_
  refine .seq ?_
  refine .seq ?_
  refine .region ?_
  refine .step rfl (.move rfl rfl) ?_
  refine .step rfl (.len rfl rfl ⟨_, _, rfl⟩ is32) ?_
  refine .step rfl (.bin rfl rfl rfl rfl) ?_
  refine .step rfl (.move rfl rfl) ?_
  refine .case 11 rfl (fun h1 => ?_) (fun h1 => ?_)
  ·skip
   have h0 : l.length = 0 := by have q := of_decide_eq_true h1; (try dsimp only at q); omega
   have hraw := indexV_raw (k := k) (raw := raw) (.inl h0)
   refine .no 11 rfl rfl rfl rfl rfl rfl rfl ?_
   refine .no 11 rfl rfl rfl rfl rfl rfl rfl ?_
   refine .no 11 rfl rfl rfl rfl rfl rfl rfl ?_
   refine .step rfl (.pick rfl rfl rfl) ?_
   refine .nil ?_
   refine .next ?_
   refine .cond rfl (fun h2 => ?_) (fun h2 => absurd h2 (by decide))
   refine .seq ?_
   refine .region ?_
   refine .step rfl (.ldem (ds := hdv raw) rfl rfl rfl rfl rfl tk25) ?_
   refine .step rfl (.store rfl rfl rfl sz25 rfl rfl) ?_
   refine .nil ?_
   refine .next ?_
   refine .ret ?_
   rw [hraw]
   exact TE.retf rfl rfl rfl (pl_ag (pl_h _))
  ·skip
   have h0 : ¬ (l.length = 0) := by have q := of_decide_eq_false h1; (try dsimp only at q); omega
   refine .go 11 rfl rfl rfl rfl (.move rfl rfl) ?_
   refine .go 11 rfl rfl rfl rfl (.rem (((k.toNat % 4 : Nat) : Int)) rfl rfl rfl (by decide) (emod_nat)) ?_
   refine .go 11 rfl rfl rfl rfl (.bin rfl rfl rfl rfl) ?_
   refine .step rfl (.pick rfl rfl rfl) ?_
   refine .nil ?_
   refine .next ?_
   refine .cond rfl (fun h3 => ?_) (fun h3 => ?_)
   ·skip
    have hk0 : k.toNat % 4 = 0 := by have q := of_decide_eq_true h3; (try dsimp only at q); omega
    have hraw := indexV_raw (l := l) (raw := raw) (.inr hk0)
    refine .seq ?_
    refine .region ?_
    refine .step rfl (.ldem (ds := hdv raw) rfl rfl rfl rfl rfl tk25) ?_
    refine .step rfl (.store rfl rfl rfl sz25 rfl rfl) ?_
    refine .nil ?_
    refine .next ?_
    refine .ret ?_
    rw [hraw]
    exact TE.retf rfl rfl rfl (pl_ag (pl_h _))
   ·skip
    have hk0 : ¬ (k.toNat % 4 = 0) := by have q := of_decide_eq_false h3; (try dsimp only at q); omega
    have hq : k.toNat / 4 % l.length < l.length := Nat.mod_lt _ (by omega)
    obtain ⟨x, hx⟩ : ∃ x, l[k.toNat / 4 % l.length] = x := ⟨_, rfl⟩
    have hv := indexV_at (raw := raw) h0 hk0 hq hx
    refine .skip ?_
    refine .next ?_
    refine .seq ?_
    refine .region ?_
    refine .step rfl (.move rfl rfl) ?_
    refine .step rfl (.move rfl rfl) ?_
    refine .step rfl (.quo (((k.toNat / 4 : Nat) : Int)) rfl rfl rfl (by decide) (by have := k.toNat_lt; rw [show ((4 : Int)) = ((4 : Nat) : Int) from rfl, ediv_nat, IntKind.wrap_u16]; omega)) ?_
    refine .step rfl (.conviv (((k.toNat / 4 : Nat) : Int)) rfl rfl uk23 uk3 (by rw [IntKind.wrap_i64]; have := k.toNat_lt; omega)) ?_
    refine .step rfl (.move rfl rfl) ?_
    refine .step rfl (.len rfl rfl ⟨_, _, rfl⟩ is32) ?_
    refine .step rfl (.rem (((k.toNat / 4 % l.length : Nat) : Int)) rfl rfl rfl (by omega) (emod_nat)) ?_
    refine .step rfl (.idx (x) rfl rfl rfl rfl et32 it_len (Int.natCast_nonneg _) (hx ▸ get_nat hq)) ?_
    refine .step rfl (.fielde rfl rfl rfl fo28_0) ?_
    refine .step rfl (.ldem (ds := hdv x.ix) rfl rfl rfl rfl rfl tk25) ?_
    refine .step rfl (.alloc 3 rfl rfl zc25 rfl) ?_
    refine .step rfl (.store rfl rfl rfl sz25 rfl rfl) ?_
    refine .nil ?_
    refine TE.obj 3 (.box 25 (hdv x.ix)) rfl rfl ?_
    refine .next ?_
    refine .seq ?_
    refine .seq ?_
    refine .region ?_
    refine .step rfl (.move rfl rfl) ?_
    refine .step rfl (.rem (((k.toNat % 4 : Nat) : Int)) rfl rfl rfl (by decide) (emod_nat)) ?_
    refine .step rfl (.bin rfl rfl rfl rfl) ?_
    refine .nil ?_
    refine .next ?_
    refine .join [(0, .d (slT It.dv 64 l)), (1, .d (.v (.int .u16 k.toNat))), (2, .d (.ag (hdv (raw)))), (6, .ptr 2 0), (7, .ptr 3 0)] [(1, .dead), (2, .box 25 (hdv zeroH)), (3, .box 25 (hdv (ixA x.ix k)))] ?_ ?_
    ·skip
     refine .seq ?_
     refine .seq ?_
     refine .region ?_
     refine .step rfl (.move rfl rfl) ?_
     refine .step rfl (.rem (((k.toNat % 4 : Nat) : Int)) rfl rfl rfl (by decide) (emod_nat)) ?_
     refine .step rfl (.bin rfl rfl rfl rfl) ?_
     refine .nil ?_
     refine .next ?_
     refine .join [(0, .d (slT It.dv 64 l)), (1, .d (.v (.int .u16 k.toNat))), (2, .d (.ag (hdv (raw)))), (6, .ptr 2 0), (7, .ptr 3 0)] [(1, .dead), (2, .box 25 (hdv zeroH)), (3, .box 25 (hdv (ixB x.ix k)))] ?_ ?_
     ·skip
      refine .seq ?_
      refine .region ?_
      refine .step rfl (.ldpm (ds := hdv (ixB x.ix k)) rfl rfl rfl rfl rfl rfl tk25) ?_
      refine .step rfl (.store rfl rfl rfl sz25 rfl rfl) ?_
      refine .nil ?_
      refine .next ?_
      refine .ret ?_
      rw [hv]
      exact TE.retf rfl rfl rfl (pl_ag (pl_h _))
     ·skip
      refine .cond rfl (fun h4 => ?_) (fun h4 => ?_)
      ·skip
       have h2 : k.toNat % 4 = 2 := by have q := of_decide_eq_true h4; (try dsimp only at q); omega
       refine .region ?_
       refine .step rfl (.move rfl rfl) ?_
       refine .step rfl (.quo (((k.toNat / 64 : Nat) : Int)) rfl rfl rfl (by decide) (by have := k.toNat_lt; rw [show ((64 : Int)) = ((64 : Nat) : Int) from rfl, ediv_nat, IntKind.wrap_u16]; omega)) ?_
       refine .step rfl (.conviv (((k.toNat / 64 : Nat) : Int)) rfl rfl uk23 uk3 (by rw [IntKind.wrap_i64]; have := k.toNat_lt; omega)) ?_
       refine .step rfl (.rem (((k.toNat / 64 % 3 : Nat) : Int)) rfl rfl rfl (by decide) (emod_nat)) ?_
       refine .step rfl (.idxp rfl rfl rfl rfl rfl ar25 (Int.natCast_nonneg _) (by omega)) ?_
       refine .step rfl (.ldp rfl rfl rfl rfl (by (first | rw [Nat.mul_one, Nat.zero_add, Int.toNat_natCast] | skip); exact hB_at (ixA x.ix k) (k := k.toNat / 64 % 3) (by omega)) tk5) ?_
       refine .step rfl (.move rfl rfl) ?_
       refine .step rfl (.quo (((k.toNat / 16 : Nat) : Int)) rfl rfl rfl (by decide) (by have := k.toNat_lt; rw [show ((16 : Int)) = ((16 : Nat) : Int) from rfl, ediv_nat, IntKind.wrap_u16]; omega)) ?_
       refine .step rfl (.rem (((k.toNat / 16 % 8 : Nat) : Int)) rfl rfl rfl (by decide) (emod_nat)) ?_
       refine .step rfl (.shl ((((mU k).toNat : Nat) : Int)) rfl rfl rfl (Int.natCast_nonneg _) (mU_shl k)) ?_
       refine .step rfl (.bits ((((hB (ixA x.ix k) (k.toNat / 64 % 3) ^^^ mU k : UInt8).toNat : Nat) : Int)) rfl rfl rfl rfl (u8_xor _ _)) ?_
       refine .step rfl (.idxp rfl rfl rfl rfl rfl ar25 (Int.natCast_nonneg _) (by omega)) ?_
       refine .step rfl (.storeg rfl rfl rfl rfl sz5 rfl (by rw [h_len, Nat.mul_one, Nat.zero_add, Int.toNat_natCast]; show _ + 1 ≤ 32; omega)) ?_
       refine .nil ?_
       refine TE.obj 3 (.box 25 (hdv (xorAt (ixA x.ix k) (k.toNat / 64 % 3) (mU k)))) rfl (by (first | rw [Nat.mul_one, Nat.zero_add, Int.toNat_natCast] | skip); exact congrArg (AO.box _) (xor_set (ixA x.ix k) (by omega) (mU k))) ?_
       refine TE.obj 3 (.box 25 (hdv (ixB x.ix k))) rfl (congrArg (fun z => AO.box _ (hdv z)) (if_pos h2).symm) ?_
       exact TE.join ⟨⟨rfl, rfl⟩, ⟨rfl, rfl⟩, ⟨rfl, rfl⟩, ⟨rfl, rfl⟩, ⟨rfl, rfl⟩, trivial⟩ ⟨.inl rfl, .inr rfl, .inr rfl, trivial⟩
      ·skip
       have h2 : ¬ (k.toNat % 4 = 2) := by have q := of_decide_eq_false h4; (try dsimp only at q); omega
       refine .skip ?_
       refine TE.obj 3 (.box 25 (hdv (ixB x.ix k))) rfl (congrArg (fun z => AO.box _ (hdv z)) (if_neg h2).symm) ?_
       exact TE.join ⟨⟨rfl, rfl⟩, ⟨rfl, rfl⟩, ⟨rfl, rfl⟩, ⟨rfl, rfl⟩, ⟨rfl, rfl⟩, trivial⟩ ⟨.inl rfl, .inr rfl, .inr rfl, trivial⟩
    ·skip
     refine .cond rfl (fun h5 => ?_) (fun h5 => ?_)
     ·skip
      have h1 : k.toNat % 4 = 1 := by have q := of_decide_eq_true h5; (try dsimp only at q); omega
      refine .region ?_
      refine .step rfl (.idxp rfl rfl rfl rfl rfl ar25 (by decide) (by decide)) ?_
      refine .step rfl (.ldp rfl rfl rfl rfl (by (first | rw [Nat.mul_one, Nat.zero_add, Int.toNat_natCast] | skip); exact hB_at x.ix (k := 31) (by decide)) tk5) ?_
      refine .step rfl (.bits ((((hB x.ix 31 ^^^ 1 : UInt8).toNat : Nat) : Int)) rfl rfl rfl rfl (u8_xor _ 1)) ?_
      refine .step rfl (.idxp rfl rfl rfl rfl rfl ar25 (by decide) (by decide)) ?_
      refine .step rfl (.store rfl rfl rfl sz5 rfl rfl) ?_
      refine .nil ?_
      refine TE.obj 3 (.box 25 (hdv (xorAt x.ix 31 1))) rfl (congrArg (AO.box _) (xor_set x.ix (k := 31) (by decide) 1)) ?_
      refine TE.obj 3 (.box 25 (hdv (ixA x.ix k))) rfl (congrArg (fun z => AO.box _ (hdv z)) (if_pos h1).symm) ?_
      exact TE.join ⟨⟨rfl, rfl⟩, ⟨rfl, rfl⟩, ⟨rfl, rfl⟩, ⟨rfl, rfl⟩, ⟨rfl, rfl⟩, trivial⟩ ⟨.inl rfl, .inr rfl, .inr rfl, trivial⟩
     ·skip
      have h1 : ¬ (k.toNat % 4 = 1) := by have q := of_decide_eq_false h5; (try dsimp only at q); omega
      refine .skip ?_
      refine TE.obj 3 (.box 25 (hdv (ixA x.ix k))) rfl (congrArg (fun z => AO.box _ (hdv z)) (if_neg h1).symm) ?_
      exact TE.join ⟨⟨rfl, rfl⟩, ⟨rfl, rfl⟩, ⟨rfl, rfl⟩, ⟨rfl, rfl⟩, ⟨rfl, rfl⟩, trivial⟩ ⟨.inl rfl, .inr rfl, .inr rfl, trivial⟩
set_option maxRecDepth 100000 in
set_option maxHeartbeats 1600000 in
theorem bent_pc (p : Pf) (w a : UInt8) (h : H) (hp : p.path.length ≤ 1048576) : PC Try.prog 16 [.ag p.dv, .v (.int .u8 w.toNat), .v (.int .u8 a.toNat), .ag (hdv (h))] (.ag (bentV p w a h).dv) := by
  refine PC.enter (fn := Try.f16) Try.func16 rfl Try.ntmps16 rfl (fun w0 K0 => ?_)
  refine .seq ?_
  refine .region ?_
  refine .step rfl (.box 1 rfl rfl rfl rfl) ?_
  refine .step rfl (.box 2 rfl rfl rfl rfl) ?_
  refine .step rfl (.alloc 3 rfl rfl zc30 rfl) ?_
  refine .nil ?_
  refine TE.frzb 7 rfl rfl rfl rfl ?_
  refine TE.obj 1 (.box 30 (slT hdv 32 p.path :: .v (.int .i64 p.en) :: It.dv p.it)) rfl rfl ?_
  refine TE.obj 3 (.box 30 zcell) rfl rfl ?_
  refine .next ?_
  refine .seq ?_
  refine .region ?_
  refine .step rfl (.fieldp rfl rfl rfl rfl fo30_0) ?_
  refine .step rfl (.ldp rfl rfl rfl rfl rfl tk26) ?_
  refine .step rfl (.append0 4 rfl rfl rfl ap26 rfl rfl trivial (flat_one h_one _) (by omega) (by omega)) ?_
  refine .step rfl (.fieldp rfl rfl rfl rfl fo30_0) ?_
  refine .name 11 rfl rfl (fun u0 u0c => ?_)
  refine .step rfl (.store rfl rfl rfl sz26 rfl rfl) ?_
  refine .nil ?_
  refine TE.obj 1 (.box 30 (.v (.slice u0 ((p.path).length : Nat) u0c) :: .v (.int .i64 p.en) :: It.dv p.it)) rfl rfl ?_
  refine TE.obj 4 (.nrow (.slice u0 (p.path.length : Nat) u0c) p.path.length 25 32 (p.path.flatMap hdv)) rfl rfl ?_
  refine .next ?_
  refine .seq ?_
  refine .seq ?_
  refine .region ?_
  refine .step rfl (.move rfl rfl) ?_
  refine .step rfl (.rem (((w.toNat % 7 : Nat) : Int)) rfl rfl rfl (by decide) (emod_nat)) ?_
  refine .nil ?_
  refine .next ?_
  refine .block ?_
  refine .seq ?_
  refine .region ?_
  refine .step rfl (.bin rfl rfl rfl rfl) ?_
  refine .step rfl (.assign rfl rfl) ?_
  refine .nil ?_
  refine .next ?_
  refine .cond rfl (fun h1 => ?_) (fun h1 => ?_)
  ·skip
   have c0 : w.toNat % 7 = 0 := by have q := of_decide_eq_true h1; (try dsimp only at q); omega
   refine .region ?_
   refine .step rfl (.fieldp rfl rfl rfl rfl fo30_0) ?_
   refine .step rfl (.ldp rfl rfl rfl rfl rfl tk26) ?_
   refine .step rfl (.ldem (ds := hdv h) rfl rfl rfl rfl rfl tk25) ?_
   refine .step rfl (.buildsl (ds := hdv h) 5 rfl rfl rfl ap26 zc25 rfl rfl rfl) ?_
   refine .step rfl (.appendn (g := 4) 6 rfl rfl rfl (h_flat (p.path) (p.path.length) rfl) rfl ap26 rfl rfl (okA_len rfl rfl) (h_one _) (by (try dsimp only); omega) (by (try dsimp only); omega)) ?_
   refine .step rfl (.fieldp rfl rfl rfl rfl fo30_0) ?_
   refine .name 24 rfl rfl (fun u1 u1c => ?_)
   refine .step rfl (.store rfl rfl rfl sz26 rfl rfl) ?_
   refine .nil ?_
   refine TE.obj 1 (.box 30 (.v (.slice u1 (p.path.length + 1 : Nat) u1c) :: .v (.int .i64 p.en) :: It.dv p.it)) rfl rfl ?_
   refine TE.obj 6 (.nrow (.slice u1 (p.path.length + 1 : Nat) u1c) (p.path.length + 1) 25 32 ((p.path ++ [h]).flatMap hdv)) rfl (by rw [List.flatMap_append]; rfl) ?_
   refine TE.blk ?_
   refine .next ?_
   refine .seq ?_
   refine TC.map (fun a' w' h' => reps_cellf 1 0 6 rfl rfl rfl (h_flat (p.path ++ [h]) _ (by simp)) h') ?_
   refine TC.obj 1 (.box 30 (Pf.dv ⟨p.path ++ [h], p.en, p.it⟩)) rfl (by first | rfl | (show AO.box _ (DV.sl 32 _ _ :: _) = AO.box _ (DV.sl 32 _ _ :: _); simp only [List.length_append, List.length_set, List.length_cons, List.length_nil]; done) | (show AO.box _ (DV.sl 32 _ _ :: _) = AO.box _ (DV.sl 32 _ _ :: _); simp only [List.length_append, List.length_set, List.length_cons, List.length_nil]; rfl)) ?_
   refine .region ?_
   refine .step rfl (.ldpm (ds := Pf.dv ⟨p.path ++ [h], p.en, p.it⟩) rfl rfl rfl rfl rfl rfl tk30) ?_
   refine .step rfl (.store rfl rfl rfl sz30 rfl rfl) ?_
   refine .nil ?_
   refine .next ?_
   refine .ret ?_
   rw [bent0 c0]
   exact TE.retc rfl rfl rfl
  ·skip
   have c0 : ¬ (w.toNat % 7 = 0) := by have q := of_decide_eq_false h1; (try dsimp only at q); omega
   refine .seq ?_
   refine .region ?_
   refine .step rfl (.bin rfl rfl rfl rfl) ?_
   refine .step rfl (.assign rfl rfl) ?_
   refine .nil ?_
   refine .next ?_
   refine .cond rfl (fun h2 => ?_) (fun h2 => ?_)
   ·skip
    have c1 : w.toNat % 7 = 1 := by have q := of_decide_eq_true h2; (try dsimp only at q); omega
    refine .seq ?_
    refine .region ?_
    refine .step rfl (.fieldp rfl rfl rfl rfl fo30_0) ?_
    refine .step rfl (.ldp rfl rfl rfl rfl rfl tk26) ?_
    refine .step rfl (.lenn (g := 4) rfl rfl rfl is26) ?_
    refine .step rfl (.bin rfl rfl rfl rfl) ?_
    refine .nil ?_
    refine .next ?_
    refine .cond rfl (fun h3 => ?_) (fun h3 => ?_)
    ·skip
     have hn : 0 < p.path.length := by have q := of_decide_eq_true h3; (try dsimp only at q); omega
     refine .draw mixed [Ro.mk _ (Eff.mk (some (32, _)) []) [1], Ro.mk _ (Eff.mk (some (33, _)) []) [1], Ro.mk _ (Eff.mk (some (34, _)) []) [], Ro.mk _ (Eff.mk (some (35, _)) []) [], Ro.mk _ (Eff.mk (some (36, _)) []) [1], Ro.mk _ (Eff.mk (some (37, _)) []) [1], Ro.mk _ (Eff.mk (some (38, _)) []) [4], Ro.mk _ (Eff.mk (some (39, _)) []) [], Ro.mk _ (Eff.mk (some (40, _)) []) [], Ro.mk _ (Eff.mk (some (41, _)) []) [4], Ro.mk _ (Eff.mk none [(4, _)]) [4]] rfl ⟨(fun _ _ => .fieldp rfl rfl rfl rfl fo30_0), (fun _ _ => .ldp rfl rfl rfl rfl rfl tk26), (fun _ _ => .move rfl rfl), (fun _ _ => .conviv (((a.toNat : Nat) : Int)) rfl rfl uk5 uk3 (by rw [IntKind.wrap_i64]; have := a.toNat_lt; omega)), (fun _ _ => .fieldp rfl rfl rfl rfl fo30_0), (fun _ _ => .ldp rfl rfl rfl rfl rfl tk26), (fun _ _ => .lenn (g := 4) rfl rfl rfl is26), (fun _ _ => .rem (((a.toNat % p.path.length : Nat) : Int)) rfl rfl rfl (by omega) (emod_nat)), (fun _ _ => .ldem (ds := hdv h) rfl rfl rfl rfl rfl tk25), (fun _ _ => .idxn (g := 4) rfl rfl rfl rfl et26 (Int.natCast_nonneg _) (Int.ofNat_lt.2 (Nat.mod_lt _ (by omega)))), (fun _ _ => .storeg rfl rfl rfl rfl sz25 rfl (by rw [h_flat p.path _ rfl, Int.toNat_natCast]; show _ * 32 + 32 ≤ _; have := Nat.mod_lt a.toNat (show p.path.length > 0 from hn); omega)), trivial⟩ (by kernel_rfl) ?_
     refine TE.obj 4 (.nrow (.slice u0 (p.path.length : Nat) u0c) p.path.length 25 32 ((p.path.set (a.toNat % p.path.length) h).flatMap hdv)) rfl (by rw [Int.toNat_natCast]; exact congrArg (AO.nrow _ _ _ _) (path_set p.path (Nat.mod_lt _ (by omega)) h)) ?_
     refine TE.blk ?_
     refine .next ?_
     refine .seq ?_
     refine TC.map (fun a' w' h' => reps_cellf 1 0 4 rfl rfl rfl (h_flat (p.path.set (a.toNat % p.path.length) h) _ (by simp)) h') ?_
     refine TC.obj 1 (.box 30 (Pf.dv ⟨p.path.set (a.toNat % p.path.length) h, p.en, p.it⟩)) rfl (by first | rfl | (show AO.box _ (DV.sl 32 _ _ :: _) = AO.box _ (DV.sl 32 _ _ :: _); simp only [List.length_append, List.length_set, List.length_cons, List.length_nil]; done) | (show AO.box _ (DV.sl 32 _ _ :: _) = AO.box _ (DV.sl 32 _ _ :: _); simp only [List.length_append, List.length_set, List.length_cons, List.length_nil]; rfl)) ?_
     refine .region ?_
     refine .step rfl (.ldpm (ds := Pf.dv ⟨p.path.set (a.toNat % p.path.length) h, p.en, p.it⟩) rfl rfl rfl rfl rfl rfl tk30) ?_
     refine .step rfl (.store rfl rfl rfl sz30 rfl rfl) ?_
     refine .nil ?_
     refine .next ?_
     refine .ret ?_
     rw [bent1 c0 c1]
     exact TE.retc rfl rfl rfl
    ·skip
     have hn : ¬ (0 < p.path.length) := by have q := of_decide_eq_false h3; (try dsimp only at q); omega
     have hnil : p.path = [] := List.eq_nil_of_length_eq_zero (by omega)
     have hset : p.path.set (a.toNat % p.path.length) h = p.path := by rw [hnil]; rfl
     refine TC.obj 4 (.nrow (.slice u0 (p.path.length : Nat) u0c) p.path.length 25 32 ((p.path.set (a.toNat % p.path.length) h).flatMap hdv)) rfl (by rw [hset]) ?_
     refine .skip ?_
     refine TE.blk ?_
     refine .next ?_
     refine .seq ?_
     refine TC.map (fun a' w' h' => reps_cellf 1 0 4 rfl rfl rfl (h_flat (p.path.set (a.toNat % p.path.length) h) _ (by simp)) h') ?_
     refine TC.obj 1 (.box 30 (Pf.dv ⟨p.path.set (a.toNat % p.path.length) h, p.en, p.it⟩)) rfl (by first | rfl | (show AO.box _ (DV.sl 32 _ _ :: _) = AO.box _ (DV.sl 32 _ _ :: _); simp only [List.length_append, List.length_set, List.length_cons, List.length_nil]; done) | (show AO.box _ (DV.sl 32 _ _ :: _) = AO.box _ (DV.sl 32 _ _ :: _); simp only [List.length_append, List.length_set, List.length_cons, List.length_nil]; rfl)) ?_
     refine .region ?_
     refine .step rfl (.ldpm (ds := Pf.dv ⟨p.path.set (a.toNat % p.path.length) h, p.en, p.it⟩) rfl rfl rfl rfl rfl rfl tk30) ?_
     refine .step rfl (.store rfl rfl rfl sz30 rfl rfl) ?_
     refine .nil ?_
     refine .next ?_
     refine .ret ?_
     rw [bent1 c0 c1]
     exact TE.retc rfl rfl rfl
   ·skip
    have c1 : ¬ (w.toNat % 7 = 1) := by have q := of_decide_eq_false h2; (try dsimp only at q); omega
    refine .seq ?_
    refine .region ?_
    refine .step rfl (.bin rfl rfl rfl rfl) ?_
    refine .step rfl (.assign rfl rfl) ?_
    refine .nil ?_
    refine .next ?_
    refine .cond rfl (fun h4 => ?_) (fun h4 => ?_)
    ·skip
     have c2 : w.toNat % 7 = 2 := by have q := of_decide_eq_true h4; (try dsimp only at q); omega
     refine .seq ?_
     refine TC.map (fun a' w' h' => reps_cellf 1 0 4 rfl rfl rfl (h_flat p.path _ rfl) h') ?_
     refine TC.obj 1 (.box 30 (slT hdv 32 p.path :: .v (.int .i64 p.en) :: It.dv p.it)) rfl rfl ?_
     refine .region ?_
     refine .step rfl (.fieldp rfl rfl rfl rfl fo30_0) ?_
     refine .step rfl (.ldp rfl rfl rfl rfl rfl tk26) ?_
     refine .step rfl (.len rfl rfl ⟨_, _, rfl⟩ is26) ?_
     refine .step rfl (.bin rfl rfl rfl rfl) ?_
     refine .nil ?_
     refine .next ?_
     refine .cond rfl (fun h5 => ?_) (fun h5 => ?_)
     ·skip
      have hn : 0 < p.path.length := by have q := of_decide_eq_true h5; (try dsimp only at q); omega
      refine .draw mixed [Ro.mk _ (Eff.mk (some (48, _)) []) [1], Ro.mk _ (Eff.mk (some (49, _)) []) [1], Ro.mk _ (Eff.mk (some (50, _)) []) [], Ro.mk _ (Eff.mk (some (51, _)) []) [], Ro.mk _ (Eff.mk (some (52, _)) []) [1], Ro.mk _ (Eff.mk (some (53, _)) []) [1], Ro.mk _ (Eff.mk (some (54, _)) []) [], Ro.mk _ (Eff.mk (some (55, _)) []) [], Ro.mk _ (Eff.mk (some (56, _)) []) [], Ro.mk _ (Eff.mk (some (57, _)) []) [1], Ro.mk _ (Eff.mk none [(1, _)]) [1]] rfl ⟨(fun _ _ => .fieldp rfl rfl rfl rfl fo30_0), (fun _ _ => .ldp rfl rfl rfl rfl rfl tk26), (fun _ _ => .move rfl rfl), (fun _ _ => .conviv (((a.toNat : Nat) : Int)) rfl rfl uk5 uk3 (by rw [IntKind.wrap_i64]; have := a.toNat_lt; omega)), (fun _ _ => .fieldp rfl rfl rfl rfl fo30_0), (fun _ _ => .ldp rfl rfl rfl rfl rfl tk26), (fun _ _ => .len rfl rfl ⟨_, _, rfl⟩ is26), (fun _ _ => .rem (((a.toNat % p.path.length : Nat) : Int)) rfl rfl rfl (by omega) (emod_nat)), (fun _ _ => .slice rfl rfl rfl rfl rfl et26 (fun _ => rfl) (by omega) (Int.natCast_nonneg _) (Int.ofNat_le.2 (Nat.le_of_lt (Nat.mod_lt _ (by omega))))), (fun _ _ => .fieldp rfl rfl rfl rfl fo30_0), (fun _ _ => .store rfl rfl rfl sz26 rfl rfl), trivial⟩ (by kernel_rfl) ?_
      refine TE.obj 1 (.box 30 (slT hdv 32 (p.path.take (a.toNat % p.path.length)) :: .v (.int .i64 p.en) :: It.dv p.it)) rfl (by simp only [Int.toNat_natCast, Int.toNat_zero, List.drop_zero]; rfl) ?_
      refine TE.blk ?_
      refine .next ?_
      refine .seq ?_
      refine TC.obj 1 (.box 30 (Pf.dv ⟨p.path.take (a.toNat % p.path.length), p.en, p.it⟩)) rfl (by first | rfl | (show AO.box _ (DV.sl 32 _ _ :: _) = AO.box _ (DV.sl 32 _ _ :: _); simp only [List.length_append, List.length_set, List.length_cons, List.length_nil]; done) | (show AO.box _ (DV.sl 32 _ _ :: _) = AO.box _ (DV.sl 32 _ _ :: _); simp only [List.length_append, List.length_set, List.length_cons, List.length_nil]; rfl)) ?_
      refine .region ?_
      refine .step rfl (.ldpm (ds := Pf.dv ⟨p.path.take (a.toNat % p.path.length), p.en, p.it⟩) rfl rfl rfl rfl rfl rfl tk30) ?_
      refine .step rfl (.store rfl rfl rfl sz30 rfl rfl) ?_
      refine .nil ?_
      refine .next ?_
      refine .ret ?_
      rw [bent2 c0 c1 c2]
      exact TE.retc rfl rfl rfl
     ·skip
      have hn : ¬ (0 < p.path.length) := by have q := of_decide_eq_false h5; (try dsimp only at q); omega
      have hnil : p.path = [] := List.eq_nil_of_length_eq_zero (by omega)
      have hset : p.path.take (a.toNat % p.path.length) = p.path := by rw [hnil]; exact List.take_nil
      refine TC.obj 1 (.box 30 (slT hdv 32 (p.path.take (a.toNat % p.path.length)) :: .v (.int .i64 p.en) :: It.dv p.it)) rfl (by rw [hset]) ?_
      refine .skip ?_
      refine TE.blk ?_
      refine .next ?_
      refine .seq ?_
      refine TC.obj 1 (.box 30 (Pf.dv ⟨p.path.take (a.toNat % p.path.length), p.en, p.it⟩)) rfl (by first | rfl | (show AO.box _ (DV.sl 32 _ _ :: _) = AO.box _ (DV.sl 32 _ _ :: _); simp only [List.length_append, List.length_set, List.length_cons, List.length_nil]; done) | (show AO.box _ (DV.sl 32 _ _ :: _) = AO.box _ (DV.sl 32 _ _ :: _); simp only [List.length_append, List.length_set, List.length_cons, List.length_nil]; rfl)) ?_
      refine .region ?_
      refine .step rfl (.ldpm (ds := Pf.dv ⟨p.path.take (a.toNat % p.path.length), p.en, p.it⟩) rfl rfl rfl rfl rfl rfl tk30) ?_
      refine .step rfl (.store rfl rfl rfl sz30 rfl rfl) ?_
      refine .nil ?_
      refine .next ?_
      refine .ret ?_
      rw [bent2 c0 c1 c2]
      exact TE.retc rfl rfl rfl
    ·skip
     have c2 : ¬ (w.toNat % 7 = 2) := by have q := of_decide_eq_false h4; (try dsimp only at q); omega
     refine .seq ?_
     refine .region ?_
     refine .step rfl (.bin rfl rfl rfl rfl) ?_
     refine .step rfl (.assign rfl rfl) ?_
     refine .nil ?_
     refine .next ?_
     refine .cond rfl (fun h6 => ?_) (fun h6 => ?_)
     ·skip
      have c3 : w.toNat % 7 = 3 := by have q := of_decide_eq_true h6; (try dsimp only at q); omega
      refine .region ?_
      refine .step rfl (.move rfl rfl) ?_
      refine .step rfl (.rem (((a.toNat % 5 : Nat) : Int)) rfl rfl rfl (by decide) (emod_nat)) ?_
      refine .step rfl (.conviv (((a.toNat % 5 : Nat) : Int)) rfl rfl uk5 uk3 (by rw [IntKind.wrap_i64]; omega)) ?_
      refine .step rfl (.binv (.int .i64 (((a.toNat % 5 : Nat) : Int) - 1)) rfl rfl rfl rfl (congrArg _ (by (try dsimp only); rw [IntKind.wrap_i64]; omega))) ?_
      refine .step rfl (.fieldp rfl rfl rfl rfl fo30_1) ?_
      refine .step rfl (.store rfl rfl rfl sz3 rfl rfl) ?_
      refine .nil ?_
      refine TE.obj 1 (.box 30 (.v (.slice u0 ((p.path).length : Nat) u0c) :: .v (.int .i64 (((a.toNat % 5 : Nat) : Int) - 1)) :: It.dv p.it)) rfl rfl ?_
      refine TE.blk ?_
      refine .next ?_
      refine .seq ?_
      refine TC.map (fun a' w' h' => reps_cellf 1 0 4 rfl rfl rfl (h_flat (p.path) _ rfl) h') ?_
      refine TC.obj 1 (.box 30 (Pf.dv ⟨p.path, (((a.toNat % 5 : Nat) : Int) - 1), p.it⟩)) rfl (by first | rfl | (show AO.box _ (DV.sl 32 _ _ :: _) = AO.box _ (DV.sl 32 _ _ :: _); simp only [List.length_append, List.length_set, List.length_cons, List.length_nil]; done) | (show AO.box _ (DV.sl 32 _ _ :: _) = AO.box _ (DV.sl 32 _ _ :: _); simp only [List.length_append, List.length_set, List.length_cons, List.length_nil]; rfl)) ?_
      refine .region ?_
      refine .step rfl (.ldpm (ds := Pf.dv ⟨p.path, (((a.toNat % 5 : Nat) : Int) - 1), p.it⟩) rfl rfl rfl rfl rfl rfl tk30) ?_
      refine .step rfl (.store rfl rfl rfl sz30 rfl rfl) ?_
      refine .nil ?_
      refine .next ?_
      refine .ret ?_
      rw [bent3 c0 c1 c2 c3]
      exact TE.retc rfl rfl rfl
     ·skip
      have c3 : ¬ (w.toNat % 7 = 3) := by have q := of_decide_eq_false h6; (try dsimp only at q); omega
      refine .seq ?_
      refine .region ?_
      refine .step rfl (.bin rfl rfl rfl rfl) ?_
      refine .step rfl (.assign rfl rfl) ?_
      refine .nil ?_
      refine .next ?_
      refine .cond rfl (fun h7 => ?_) (fun h7 => ?_)
      ·skip
       have c4 : w.toNat % 7 = 4 := by have q := of_decide_eq_true h7; (try dsimp only at q); omega
       refine .region ?_
       refine .step rfl (.ldem (ds := hdv h) rfl rfl rfl rfl rfl tk25) ?_
       refine .step rfl (.fieldp rfl rfl rfl rfl fo30_2) ?_
       refine .step rfl (.fieldp rfl rfl rfl rfl fo28_0) ?_
       refine .step rfl (.store rfl rfl rfl sz25 rfl rfl) ?_
       refine .nil ?_
       refine TE.obj 1 (.box 30 (.v (.slice u0 ((p.path).length : Nat) u0c) :: .v (.int .i64 p.en) :: It.dv ⟨h, p.it.vl⟩)) rfl rfl ?_
       refine TE.blk ?_
       refine .next ?_
       refine .seq ?_
       refine TC.map (fun a' w' h' => reps_cellf 1 0 4 rfl rfl rfl (h_flat (p.path) _ rfl) h') ?_
       refine TC.obj 1 (.box 30 (Pf.dv ⟨p.path, p.en, ⟨h, p.it.vl⟩⟩)) rfl (by first | rfl | (show AO.box _ (DV.sl 32 _ _ :: _) = AO.box _ (DV.sl 32 _ _ :: _); simp only [List.length_append, List.length_set, List.length_cons, List.length_nil]; done) | (show AO.box _ (DV.sl 32 _ _ :: _) = AO.box _ (DV.sl 32 _ _ :: _); simp only [List.length_append, List.length_set, List.length_cons, List.length_nil]; rfl)) ?_
       refine .region ?_
       refine .step rfl (.ldpm (ds := Pf.dv ⟨p.path, p.en, ⟨h, p.it.vl⟩⟩) rfl rfl rfl rfl rfl rfl tk30) ?_
       refine .step rfl (.store rfl rfl rfl sz30 rfl rfl) ?_
       refine .nil ?_
       refine .next ?_
       refine .ret ?_
       rw [bent4 c0 c1 c2 c3 c4]
       exact TE.retc rfl rfl rfl
      ·skip
       have c4 : ¬ (w.toNat % 7 = 4) := by have q := of_decide_eq_false h7; (try dsimp only at q); omega
       refine .seq ?_
       refine .region ?_
       refine .step rfl (.bin rfl rfl rfl rfl) ?_
       refine .step rfl (.assign rfl rfl) ?_
       refine .nil ?_
       refine .next ?_
       refine .cond rfl (fun h8 => ?_) (fun h8 => ?_)
       ·skip
        have c5 : w.toNat % 7 = 5 := by have q := of_decide_eq_true h8; (try dsimp only at q); omega
        refine .region ?_
        refine .step rfl (.ldem (ds := hdv h) rfl rfl rfl rfl rfl tk25) ?_
        refine .step rfl (.fieldp rfl rfl rfl rfl fo30_2) ?_
        refine .step rfl (.fieldp rfl rfl rfl rfl fo28_1) ?_
        refine .step rfl (.store rfl rfl rfl sz25 rfl rfl) ?_
        refine .nil ?_
        refine TE.obj 1 (.box 30 (.v (.slice u0 ((p.path).length : Nat) u0c) :: .v (.int .i64 p.en) :: It.dv ⟨p.it.ix, h⟩)) rfl rfl ?_
        refine TE.blk ?_
        refine .next ?_
        refine .seq ?_
        refine TC.map (fun a' w' h' => reps_cellf 1 0 4 rfl rfl rfl (h_flat (p.path) _ rfl) h') ?_
        refine TC.obj 1 (.box 30 (Pf.dv ⟨p.path, p.en, ⟨p.it.ix, h⟩⟩)) rfl (by first | rfl | (show AO.box _ (DV.sl 32 _ _ :: _) = AO.box _ (DV.sl 32 _ _ :: _); simp only [List.length_append, List.length_set, List.length_cons, List.length_nil]; done) | (show AO.box _ (DV.sl 32 _ _ :: _) = AO.box _ (DV.sl 32 _ _ :: _); simp only [List.length_append, List.length_set, List.length_cons, List.length_nil]; rfl)) ?_
        refine .region ?_
        refine .step rfl (.ldpm (ds := Pf.dv ⟨p.path, p.en, ⟨p.it.ix, h⟩⟩) rfl rfl rfl rfl rfl rfl tk30) ?_
        refine .step rfl (.store rfl rfl rfl sz30 rfl rfl) ?_
        refine .nil ?_
        refine .next ?_
        refine .ret ?_
        rw [bent5 c0 c1 c2 c3 c4 c5]
        exact TE.retc rfl rfl rfl
       ·skip
        have c5 : ¬ (w.toNat % 7 = 5) := by have q := of_decide_eq_false h8; (try dsimp only at q); omega
        refine .region ?_
        refine .step rfl (.fieldp rfl rfl rfl rfl fo30_0) ?_
        refine .step rfl (.ldp rfl rfl rfl rfl rfl tk26) ?_
        refine .step rfl (.build rfl rfl sp30 rfl rfl) ?_
        refine .step rfl (.store rfl rfl rfl sz30 rfl rfl) ?_
        refine .nil ?_
        refine TE.obj 1 (.box 30 (.v (.slice u0 ((p.path).length : Nat) u0c) :: .v (.int .i64 0) :: It.dv zeroIt)) rfl rfl ?_
        refine TE.blk ?_
        refine .next ?_
        refine .seq ?_
        refine TC.map (fun a' w' h' => reps_cellf 1 0 4 rfl rfl rfl (h_flat (p.path) _ rfl) h') ?_
        refine TC.obj 1 (.box 30 (Pf.dv ⟨p.path, 0, zeroIt⟩)) rfl (by first | rfl | (show AO.box _ (DV.sl 32 _ _ :: _) = AO.box _ (DV.sl 32 _ _ :: _); simp only [List.length_append, List.length_set, List.length_cons, List.length_nil]; done) | (show AO.box _ (DV.sl 32 _ _ :: _) = AO.box _ (DV.sl 32 _ _ :: _); simp only [List.length_append, List.length_set, List.length_cons, List.length_nil]; rfl)) ?_
        refine .region ?_
        refine .step rfl (.ldpm (ds := Pf.dv ⟨p.path, 0, zeroIt⟩) rfl rfl rfl rfl rfl rfl tk30) ?_
        refine .step rfl (.store rfl rfl rfl sz30 rfl rfl) ?_
        refine .nil ?_
        refine .next ?_
        refine .ret ?_
        rw [bent6 c0 c1 c2 c3 c4 c5]
        exact TE.retc rfl rfl rfl
end Go.Proofs.Ytejhgijjegnmnaa

