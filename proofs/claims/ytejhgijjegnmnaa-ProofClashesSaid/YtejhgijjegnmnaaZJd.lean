/-
  Which proofs may be, of both sides.
-/
import Derived.Test.YtejhgijjegnmnaaZJc
import Derived.Test.YtejhgijjegnmnaaZFd
namespace Go.Proofs.Ytejhgijjegnmnaa
set_option linter.unusedVariables false
set_option linter.unusedSimpArgs false
open Go.RowKit Pl
theorem qi28 : eqT Try.prog 28 = some iks := by kernel_rfl
set_option maxRecDepth 100000 in
set_option maxHeartbeats 1600000 in
theorem pfright_pf (ix : H) (p : Pf) : PF Try.prog 19 [.ag (hdv (ix)), .ag p.dv] (.v (.bool (rightF ix p))) := by
  refine PF.enter (fn := Try.f19) Try.func19 rfl Try.ntmps19 rfl (fun w0 => ?_)
  refine .seq ?_
  refine .region ?_
  refine .step rfl (.box 1 rfl rfl rfl rfl) ?_
  refine .step rfl (.box 2 rfl rfl rfl rfl) ?_
  refine .step rfl (.assign rfl rfl) ?_
  refine .nil ?_
  refine TE.frzb 2 rfl rfl rfl rfl ?_
  refine TE.frzb 3 rfl rfl rfl rfl ?_
  refine .next ?_
  refine .seq ?_
  refine .seq ?_
  refine .region ?_
  refine .step rfl (.fielde rfl rfl rfl fo30_0) ?_
  refine .step rfl (.lde rfl rfl rfl rfl tk26) ?_
  refine .step rfl (.len rfl rfl ⟨_, _, rfl⟩ is26) ?_
  refine .step rfl (.bin rfl rfl rfl rfl) ?_
  refine .nil ?_
  refine .next ?_
  refine .cond rfl (fun h1 => ?_) (fun h1 => ?_)
  ·skip
   have hlen : 256 < p.path.length := by have q := of_decide_eq_true h1; (try dsimp only at q); omega
   refine .seq ?_
   refine .region ?_
   refine .step rfl (.assign rfl rfl) ?_
   refine .nil ?_
   refine .next ?_
   refine .ret ?_
   rw [show rightF ix p = false from rightF_long hlen]
   exact TE.retf rfl rfl rfl trivial
  ·skip
   have hlen : ¬ (256 < p.path.length) := by have q := of_decide_eq_false h1; (try dsimp only at q); omega
   refine .skip ?_
   refine .next ?_
   refine .seq ?_
   refine .seq ?_
   refine .region ?_
   refine .step rfl (.fielde rfl rfl rfl fo30_1) ?_
   refine .step rfl (.lde rfl rfl rfl rfl tk3) ?_
   refine .nil ?_
   refine .next ?_
   refine .block ?_
   refine .seq ?_
   refine .region ?_
   refine .step rfl (.bin rfl rfl rfl rfl) ?_
   refine .step rfl (.assign rfl rfl) ?_
   refine .nil ?_
   refine .next ?_
   refine .cond rfl (fun h2 => ?_) (fun h2 => ?_)
   ·skip
    have he0 : p.en = 0 := of_decide_eq_true h2
    refine .seq ?_
    refine .region ?_
    refine .step rfl (.fielde rfl rfl rfl fo30_2) ?_
    refine .step rfl (.fielde rfl rfl rfl fo28_0) ?_
    refine .step rfl (.ldem (ds := hdv p.it.ix) rfl rfl rfl rfl rfl tk25) ?_
    refine .step rfl (.ldem (ds := hdv ix) rfl rfl rfl rfl rfl tk25) ?_
    refine .step rfl (.eqh (a := p.it.ix) (b := ix) rfl rfl rfl qh25) ?_
    refine .step rfl (.assign rfl rfl) ?_
    refine .nil ?_
    refine .next ?_
    refine .ret ?_
    rw [show rightF ix p = decide (H.l p.it.ix = H.l ix) from rightF_here hlen he0]
    exact TE.retf rfl rfl rfl trivial
   ·skip
    have he0 : ¬ p.en = 0 := of_decide_eq_false h2
    refine .seq ?_
    refine .region ?_
    refine .step rfl (.bin rfl rfl rfl rfl) ?_
    refine .step rfl (.assign rfl rfl) ?_
    refine .nil ?_
    refine .next ?_
    refine .cond rfl (fun h3 => ?_) (fun h3 => ?_)
    ·skip
     have he1 : p.en = 1 := of_decide_eq_true h3
     refine .seq ?_
     refine .region ?_
     refine .step rfl (.fielde rfl rfl rfl fo30_2) ?_
     refine .step rfl (.ldem (ds := p.it.dv) rfl rfl rfl rfl rfl tk28) ?_
     refine .step rfl (.build (ds := zeroIt.dv) rfl rfl sp28 rfl rfl) ?_
     refine .step rfl (.eqi (a := p.it) (b := zeroIt) rfl rfl rfl qi28) ?_
     refine .step rfl (.assign rfl rfl) ?_
     refine .nil ?_
     refine .next ?_
     refine .ret ?_
     rw [show rightF ix p = decide (iB p.it = iB zeroIt) from rightF_nobody hlen he1]
     exact TE.retf rfl rfl rfl trivial
    ·skip
     have he1 : ¬ p.en = 1 := of_decide_eq_false h3
     refine .seq ?_
     refine .region ?_
     refine .step rfl (.bin rfl rfl rfl rfl) ?_
     refine .step rfl (.assign rfl rfl) ?_
     refine .nil ?_
     refine .next ?_
     refine .cond rfl (fun h4 => ?_) (fun h4 => ?_)
     ·skip
      have he2 : p.en = 2 := of_decide_eq_true h4
      refine .seq ?_
      refine .seq ?_
      refine .region ?_
      refine .step rfl (.fielde rfl rfl rfl fo30_0) ?_
      refine .step rfl (.lde rfl rfl rfl rfl tk26) ?_
      refine .step rfl (.len rfl rfl ⟨_, _, rfl⟩ is26) ?_
      refine .step rfl (.move rfl rfl) ?_
      refine .nil ?_
      refine TE.setv 30 (.int .i64 ((0 : Nat) : Int)) rfl (congrArg _ (by first | rfl | (dsimp only; first | done | rfl | omega))) ?_
      refine TE.setv 29 (.int .i64 ((p.path.length : Nat) : Int)) rfl rfl ?_
      refine .next ?_
      refine .block ?_
      refine TC.loop (S := Nat) (fun i => i ≤ p.path.length ∧ sameB ix p.it.ix i = true) (fun i => p.path.length - i) (fun i => [(2, .d (.el (hdv ix))), (3, .d (.el p.dv)), (29, .d (.v (.int .i64 ((p.path.length : Nat) : Int)))), (30, .d (.v (.int .i64 ((i : Nat) : Int))))]) (fun i => [(1, .dead), (2, .dead)]) (0) ⟨Nat.zero_le _, rfl⟩ ⟨⟨rfl, rfl⟩, ⟨rfl, rfl⟩, ⟨rfl, rfl⟩, ⟨rfl, rfl⟩, trivial⟩ ⟨.inl rfl, .inl rfl, trivial⟩ (fun i hI => ?_)
      obtain ⟨i1, i2⟩ := hI
      refine .seq ?_
      refine .region ?_
      refine .step rfl (.bin rfl rfl rfl rfl) ?_
      refine .nil ?_
      refine .next ?_
      refine .seq ?_
      refine .cond rfl (fun h5 => ?_) (fun h5 => ?_)
      ·skip
       have hi : i < p.path.length := by have q := of_decide_eq_true h5; (try dsimp only at q); omega
       refine .skip ?_
       refine .next ?_
       refine .seq ?_
       refine .block ?_
       refine .seq ?_
       refine .region ?_
       refine .step rfl (.move rfl rfl) ?_
       refine .step rfl (.assign rfl rfl) ?_
       refine .nil ?_
       refine .next ?_
       refine .seq ?_
       refine .draw mixed [Ro.mk _ (Eff.mk (some (33, _)) []) [], Ro.mk _ (Eff.mk (some (34, _)) []) [], Ro.mk _ (Eff.mk (some (35, _)) []) [], Ro.mk _ (Eff.mk (some (36, _)) []) [], Ro.mk _ (Eff.mk (some (37, _)) []) [], Ro.mk _ (Eff.mk (some (38, _)) []) [], Ro.mk _ (Eff.mk (some (39, _)) []) [], Ro.mk _ (Eff.mk (some (40, _)) []) [], Ro.mk _ (Eff.mk (some (41, _)) []) []] rfl ⟨(fun _ _ => .fielde rfl rfl rfl fo30_2), (fun _ _ => .fielde rfl rfl rfl fo28_0), (fun _ _ => .ldem (ds := hdv p.it.ix) rfl rfl rfl rfl rfl tk25), (fun _ _ => .move rfl rfl), (fun _ _ => .callf rfl cf35 rfl ⟨trivial, trivial, trivial⟩ (bit_pf p.it.ix ((i : Nat) : Int))), (fun _ _ => .ldem (ds := hdv ix) rfl rfl rfl rfl rfl tk25), (fun _ _ => .move rfl rfl), (fun _ _ => .callf rfl cf35 rfl ⟨trivial, trivial, trivial⟩ (bit_pf ix ((i : Nat) : Int))), (fun _ _ => .bin rfl rfl rfl rfl), trivial⟩ (by kernel_rfl) ?_
       refine .next ?_
       refine .cond rfl (fun h6 => ?_) (fun h6 => ?_)
       ·skip
        have hb : ¬ bitI p.it.ix ((i : Nat) : Int) = bitI ix ((i : Nat) : Int) := by simpa using h6
        refine .seq ?_
        refine .region ?_
        refine .step rfl (.assign rfl rfl) ?_
        refine .nil ?_
        refine .next ?_
        refine .ret ?_
        rw [show rightF ix p = false from (rightF_other hlen he2).trans (by rw [sameB_false hi hb]; rfl)]
        exact TE.retf rfl rfl rfl trivial
       ·skip
        have hb : bitI p.it.ix ((i : Nat) : Int) = bitI ix ((i : Nat) : Int) := by simpa using h6
        refine .skip ?_
        refine TE.blk ?_
        refine .next ?_
        refine .region ?_
        refine .step rfl (.binv (.int .i64 ((i + 1 : Nat) : Int)) rfl rfl rfl rfl (congrArg _ (by (try dsimp only); rw [IntKind.wrap_i64]; omega))) ?_
        refine .step rfl (.move rfl rfl) ?_
        refine .nil ?_
        refine TE.setv 30 (.int .i64 ((i + 1 : Nat) : Int)) rfl (congrArg _ (by first | rfl | (dsimp only; first | done | rfl | omega))) ?_
        exact TE.round id (fun _ _ e => e) (i + 1) ⟨hi, by rw [sameB_succ, i2, decide_eq_true hb]; rfl⟩ (by omega) ⟨⟨rfl, rfl⟩, ⟨rfl, rfl⟩, ⟨rfl, rfl⟩, ⟨rfl, rfl⟩, trivial⟩ ⟨.inl rfl, .inl rfl, trivial⟩
      ·skip
       have hi : ¬ (i < p.path.length) := by have q := of_decide_eq_false h5; (try dsimp only at q); omega
       have hall : sameB ix p.it.ix p.path.length = true := by rw [show p.path.length = i by omega]; exact i2
       refine .exit ?_
       refine TE.pass ?_
       refine TE.pass ?_
       refine TE.here ?_
       refine .next ?_
       refine .seq ?_
       refine .region ?_
       refine .step rfl (.fielde rfl rfl rfl fo30_2) ?_
       refine .step rfl (.fielde rfl rfl rfl fo28_0) ?_
       refine .step rfl (.ldem (ds := hdv p.it.ix) rfl rfl rfl rfl rfl tk25) ?_
       refine .step rfl (.ldem (ds := hdv ix) rfl rfl rfl rfl rfl tk25) ?_
       refine .step rfl (.neh (a := p.it.ix) (b := ix) rfl rfl rfl qh25) ?_
       refine .step rfl (.assign rfl rfl) ?_
       refine .nil ?_
       refine .next ?_
       refine .ret ?_
       rw [show rightF ix p = decide (¬ H.l p.it.ix = H.l ix) from (rightF_other hlen he2).trans (by rw [hall]; rfl)]
       exact TE.retf rfl rfl rfl trivial
     ·skip
      have he2 : ¬ p.en = 2 := of_decide_eq_false h4
      refine .skip ?_
      refine TE.blk ?_
      refine .next ?_
      refine .seq ?_
      refine .region ?_
      refine .step rfl (.assign rfl rfl) ?_
      refine .nil ?_
      refine .next ?_
      refine .ret ?_
      rw [show rightF ix p = false from rightF_none hlen he0 he1 he2]
      exact TE.retf rfl rfl rfl trivial
set_option maxRecDepth 100000 in
set_option maxHeartbeats 1600000 in
theorem pfrright_pf (ix : H) (p : Pf) : PF Try.prog 20 [.ag (hdv (ix)), .ag p.dv] (.v (.bool (rightF ix p))) := by
  refine PF.enter (fn := Try.f20) Try.func20 rfl Try.ntmps20 rfl (fun w0 => ?_)
  refine .seq ?_
  refine .region ?_
  refine .step rfl (.box 1 rfl rfl rfl rfl) ?_
  refine .step rfl (.box 2 rfl rfl rfl rfl) ?_
  refine .step rfl (.assign rfl rfl) ?_
  refine .nil ?_
  refine TE.frzb 2 rfl rfl rfl rfl ?_
  refine TE.frzb 3 rfl rfl rfl rfl ?_
  refine .next ?_
  refine .seq ?_
  refine .seq ?_
  refine .region ?_
  refine .step rfl (.fielde rfl rfl rfl fo30_0) ?_
  refine .step rfl (.lde rfl rfl rfl rfl tk26) ?_
  refine .step rfl (.len rfl rfl ⟨_, _, rfl⟩ is26) ?_
  refine .step rfl (.bin rfl rfl rfl rfl) ?_
  refine .nil ?_
  refine .next ?_
  refine .cond rfl (fun h1 => ?_) (fun h1 => ?_)
  ·skip
   have hlen : 256 < p.path.length := by have q := of_decide_eq_true h1; (try dsimp only at q); omega
   refine .seq ?_
   refine .region ?_
   refine .step rfl (.assign rfl rfl) ?_
   refine .nil ?_
   refine .next ?_
   refine .ret ?_
   rw [show rightF ix p = false from rightF_long hlen]
   exact TE.retf rfl rfl rfl trivial
  ·skip
   have hlen : ¬ (256 < p.path.length) := by have q := of_decide_eq_false h1; (try dsimp only at q); omega
   refine .skip ?_
   refine .next ?_
   refine .seq ?_
   refine .seq ?_
   refine .region ?_
   refine .step rfl (.fielde rfl rfl rfl fo30_1) ?_
   refine .step rfl (.lde rfl rfl rfl rfl tk3) ?_
   refine .nil ?_
   refine .next ?_
   refine .block ?_
   refine .seq ?_
   refine .region ?_
   refine .step rfl (.bin rfl rfl rfl rfl) ?_
   refine .step rfl (.assign rfl rfl) ?_
   refine .nil ?_
   refine .next ?_
   refine .cond rfl (fun h2 => ?_) (fun h2 => ?_)
   ·skip
    have he0 : p.en = 0 := of_decide_eq_true h2
    refine .seq ?_
    refine .region ?_
    refine .step rfl (.fielde rfl rfl rfl fo30_2) ?_
    refine .step rfl (.fielde rfl rfl rfl fo28_0) ?_
    refine .step rfl (.ldem (ds := hdv p.it.ix) rfl rfl rfl rfl rfl tk25) ?_
    refine .step rfl (.ldem (ds := hdv ix) rfl rfl rfl rfl rfl tk25) ?_
    refine .step rfl (.eqh (a := p.it.ix) (b := ix) rfl rfl rfl qh25) ?_
    refine .step rfl (.assign rfl rfl) ?_
    refine .nil ?_
    refine .next ?_
    refine .ret ?_
    rw [show rightF ix p = decide (H.l p.it.ix = H.l ix) from rightF_here hlen he0]
    exact TE.retf rfl rfl rfl trivial
   ·skip
    have he0 : ¬ p.en = 0 := of_decide_eq_false h2
    refine .seq ?_
    refine .region ?_
    refine .step rfl (.bin rfl rfl rfl rfl) ?_
    refine .step rfl (.assign rfl rfl) ?_
    refine .nil ?_
    refine .next ?_
    refine .cond rfl (fun h3 => ?_) (fun h3 => ?_)
    ·skip
     have he1 : p.en = 1 := of_decide_eq_true h3
     refine .seq ?_
     refine .region ?_
     refine .step rfl (.fielde rfl rfl rfl fo30_2) ?_
     refine .step rfl (.ldem (ds := p.it.dv) rfl rfl rfl rfl rfl tk28) ?_
     refine .step rfl (.build (ds := zeroIt.dv) rfl rfl sp28 rfl rfl) ?_
     refine .step rfl (.eqi (a := p.it) (b := zeroIt) rfl rfl rfl qi28) ?_
     refine .step rfl (.assign rfl rfl) ?_
     refine .nil ?_
     refine .next ?_
     refine .ret ?_
     rw [show rightF ix p = decide (iB p.it = iB zeroIt) from rightF_nobody hlen he1]
     exact TE.retf rfl rfl rfl trivial
    ·skip
     have he1 : ¬ p.en = 1 := of_decide_eq_false h3
     refine .seq ?_
     refine .region ?_
     refine .step rfl (.bin rfl rfl rfl rfl) ?_
     refine .step rfl (.assign rfl rfl) ?_
     refine .nil ?_
     refine .next ?_
     refine .cond rfl (fun h4 => ?_) (fun h4 => ?_)
     ·skip
      have he2 : p.en = 2 := of_decide_eq_true h4
      refine .seq ?_
      refine .seq ?_
      refine .region ?_
      refine .step rfl (.fielde rfl rfl rfl fo30_2) ?_
      refine .step rfl (.fielde rfl rfl rfl fo28_0) ?_
      refine .step rfl (.ldem (ds := hdv p.it.ix) rfl rfl rfl rfl rfl tk25) ?_
      refine .step rfl (.ldem (ds := hdv ix) rfl rfl rfl rfl rfl tk25) ?_
      refine .step rfl (.eqh (a := p.it.ix) (b := ix) rfl rfl rfl qh25) ?_
      refine .nil ?_
      refine .next ?_
      refine .cond rfl (fun h5 => ?_) (fun h5 => ?_)
      ·skip
       have hix : H.l p.it.ix = H.l ix := of_decide_eq_true h5
       refine .seq ?_
       refine .region ?_
       refine .step rfl (.assign rfl rfl) ?_
       refine .nil ?_
       refine .next ?_
       refine .ret ?_
       rw [show rightF ix p = false from (rightF_other hlen he2).trans (by rw [decide_eq_false (fun q => q hix), Bool.and_false])]
       exact TE.retf rfl rfl rfl trivial
      ·skip
       have hix : ¬ H.l p.it.ix = H.l ix := of_decide_eq_false h5
       refine .skip ?_
       refine .next ?_
       refine .seq ?_
       refine .seq ?_
       refine .region ?_
       refine .step rfl (.assign rfl rfl) ?_
       refine .nil ?_
       refine TE.setv 5 (.int .i64 ((0 : Nat) : Int)) rfl (congrArg _ (by first | rfl | (dsimp only; first | done | rfl | omega))) ?_
       refine .next ?_
       refine .block ?_
       refine TC.loop (S := Nat) (fun i => i ≤ p.path.length ∧ sameB ix p.it.ix i = true) (fun i => p.path.length - i) (fun i => [(2, .d (.el (hdv ix))), (3, .d (.el p.dv)), (5, .d (.v (.int .i64 ((i : Nat) : Int))))]) (fun i => [(1, .dead), (2, .dead)]) (0) ⟨Nat.zero_le _, rfl⟩ ⟨⟨rfl, rfl⟩, ⟨rfl, rfl⟩, ⟨rfl, rfl⟩, trivial⟩ ⟨.inl rfl, .inl rfl, trivial⟩ (fun i hI => ?_)
       obtain ⟨i1, i2⟩ := hI
       refine .seq ?_
       refine .seq ?_
       refine .region ?_
       refine .step rfl (.move rfl rfl) ?_
       refine .step rfl (.fielde rfl rfl rfl fo30_0) ?_
       refine .step rfl (.lde rfl rfl rfl rfl tk26) ?_
       refine .step rfl (.len rfl rfl ⟨_, _, rfl⟩ is26) ?_
       refine .step rfl (.bin rfl rfl rfl rfl) ?_
       refine .nil ?_
       refine .next ?_
       refine .cond rfl (fun h6 => ?_) (fun h6 => ?_)
       ·skip
        have hi : i < p.path.length := by have q := of_decide_eq_true h6; (try dsimp only at q); omega
        refine .skip ?_
        refine .next ?_
        refine .seq ?_
        refine .block ?_
        refine .seq ?_
        refine .draw mixed [Ro.mk _ (Eff.mk (some (39, _)) []) [], Ro.mk _ (Eff.mk (some (40, _)) []) [], Ro.mk _ (Eff.mk (some (41, _)) []) [], Ro.mk _ (Eff.mk (some (42, _)) []) [], Ro.mk _ (Eff.mk (some (43, _)) []) [], Ro.mk _ (Eff.mk (some (44, _)) []) [], Ro.mk _ (Eff.mk (some (45, _)) []) [], Ro.mk _ (Eff.mk (some (46, _)) []) [], Ro.mk _ (Eff.mk (some (47, _)) []) []] rfl ⟨(fun _ _ => .fielde rfl rfl rfl fo30_2), (fun _ _ => .fielde rfl rfl rfl fo28_0), (fun _ _ => .ldem (ds := hdv p.it.ix) rfl rfl rfl rfl rfl tk25), (fun _ _ => .move rfl rfl), (fun _ _ => .callf rfl cf39 rfl ⟨trivial, trivial, trivial⟩ (rbit_pf p.it.ix ((i : Nat) : Int))), (fun _ _ => .ldem (ds := hdv ix) rfl rfl rfl rfl rfl tk25), (fun _ _ => .move rfl rfl), (fun _ _ => .callf rfl cf39 rfl ⟨trivial, trivial, trivial⟩ (rbit_pf ix ((i : Nat) : Int))), (fun _ _ => .bin rfl rfl rfl rfl), trivial⟩ (by kernel_rfl) ?_
        refine .next ?_
        refine .cond rfl (fun h7 => ?_) (fun h7 => ?_)
        ·skip
         have hb : ¬ bitI p.it.ix ((i : Nat) : Int) = bitI ix ((i : Nat) : Int) := by simpa using h7
         refine .seq ?_
         refine .region ?_
         refine .step rfl (.assign rfl rfl) ?_
         refine .nil ?_
         refine .next ?_
         refine .ret ?_
         rw [show rightF ix p = false from (rightF_other hlen he2).trans (by rw [sameB_false hi hb]; rfl)]
         exact TE.retf rfl rfl rfl trivial
        ·skip
         have hb : bitI p.it.ix ((i : Nat) : Int) = bitI ix ((i : Nat) : Int) := by simpa using h7
         refine .skip ?_
         refine TE.blk ?_
         refine .next ?_
         refine .region ?_
         refine .step rfl (.move rfl rfl) ?_
         refine .step rfl (.binv (.int .i64 ((i + 1 : Nat) : Int)) rfl rfl rfl rfl (congrArg _ (by (try dsimp only); rw [IntKind.wrap_i64]; omega))) ?_
         refine .step rfl (.assign rfl rfl) ?_
         refine .nil ?_
         refine TE.setv 5 (.int .i64 ((i + 1 : Nat) : Int)) rfl (congrArg _ (by first | rfl | (dsimp only; first | done | rfl | omega))) ?_
         exact TE.round id (fun _ _ e => e) (i + 1) ⟨hi, by rw [sameB_succ, i2, decide_eq_true hb]; rfl⟩ (by omega) ⟨⟨rfl, rfl⟩, ⟨rfl, rfl⟩, ⟨rfl, rfl⟩, trivial⟩ ⟨.inl rfl, .inl rfl, trivial⟩
       ·skip
        have hi : ¬ (i < p.path.length) := by have q := of_decide_eq_false h6; (try dsimp only at q); omega
        have hall : sameB ix p.it.ix p.path.length = true := by rw [show p.path.length = i by omega]; exact i2
        refine .exit ?_
        refine TE.pass ?_
        refine TE.pass ?_
        refine TE.here ?_
        refine .next ?_
        refine .seq ?_
        refine .region ?_
        refine .step rfl (.assign rfl rfl) ?_
        refine .nil ?_
        refine .next ?_
        refine .ret ?_
        rw [show rightF ix p = true from (rightF_other hlen he2).trans (by rw [hall]; rw [decide_eq_true hix]; rfl)]
        exact TE.retf rfl rfl rfl trivial
     ·skip
      have he2 : ¬ p.en = 2 := of_decide_eq_false h4
      refine .skip ?_
      refine TE.blk ?_
      refine .next ?_
      refine .seq ?_
      refine .region ?_
      refine .step rfl (.assign rfl rfl) ?_
      refine .nil ?_
      refine .next ?_
      refine .ret ?_
      rw [show rightF ix p = false from rightF_none hlen he0 he1 he2]
      exact TE.retf rfl rfl rfl trivial
end Go.Proofs.Ytejhgijjegnmnaa

