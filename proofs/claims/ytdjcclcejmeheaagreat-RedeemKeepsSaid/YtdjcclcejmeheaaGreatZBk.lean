import Derived.Test.YtdjcclcejmeheaaGreatZKb
import Derived.Test.YtdjcclcejmeheaaGreatZEv
import Derived.Test.YtdjcclcejmeheaaGreatZFb
import Derived.Test.YtdjcclcejmeheaaGreatZQ3
import Derived.TacticsInMore
/-
  What bytes are read as a promise.
-/
namespace Go.Proofs.YtdjcclcejmeheaaGreat
set_option linter.unusedVariables false
set_option linter.unusedSimpArgs false
open Go.RowKit Pl
set_option maxRecDepth 100000
set_option maxHeartbeats 3200000
theorem pnear_pf (n : Int) (hn : u64I n) : PF Tryz.prog 65 [.v (.int .u64 n)] (.v (.int .i64 (nearI n))) := by
 refine PF.enter (fn := Tryz.f65) Tryz.func65 rfl Tryz.ntmps65 rfl (fun w0 => .w ?_)
 refine .q 3 1 rfl rfl (fun h1 => ?_) (fun h1 => ?_)
 ·skip
  have hb : 1152921504606846976 < n := of_decide_eq_true h1
  have e : nearI n = -1 := if_pos hb
  rw [e]
  exact .z 1 1 rfl (TE.retf rfl rfl rfl trivial)
 ·skip
  have hb : ¬ 1152921504606846976 < n := of_decide_eq_false h1
  have e : nearI n = n := if_neg hb
  refine .t 1 1 rfl rfl (.cv (n) rfl (by rw [IntKind.wrap_i64]; have := hn.1; omega)) ?_
  rw [e]
  exact .z 1 1 rfl (TE.retf rfl rfl rfl trivial)
theorem pread_pc (l : List UInt8) (hl : l.length ≤ 1099511627776) : PC Tryz.prog 25 [slT bdv 1 l] (.tp [.ag (readQ intI l).1.dv, .v (.int .i64 (readQ intI l).2)]) := by
 refine PC.enter (fn := Tryz.f25) Tryz.func25 rfl Tryz.ntmps25 rfl (fun w0 K0 => .w ?_)
 refine .g 2 1 rfl ?_
 refine TE.obj 1 (.box 73 zeroPm.dv) rfl rfl ?_
 refine .q 4 2 rfl rfl (fun h1 => ?_) (fun h1 => ?_)
 ·skip
  have h1 : 512 < l.length := by have q := of_decide_eq_true h1; (try dsimp only at q); omega
  refine .t 0 2 rfl rfl (.bd (zeroPm.dv) rfl) ?_
  rw [← readQ_near]
  rw [readQ_long h1]
  exact .z 2 2 rfl (TE.rettc rfl rfl rfl)
 ·skip
  have h1 : ¬ (512 < l.length) := by have q := of_decide_eq_false h1; (try dsimp only at q); omega
  refine .q 4 2 rfl rfl (fun h2 => ?_) (fun h2 => ?_)
  ·skip
   have h2 : l.length = 0 := by have q := of_decide_eq_true h2; (try dsimp only at q); omega
   refine .t 0 2 rfl rfl (.bd (zeroPm.dv) rfl) ?_
   rw [← readQ_near]
   rw [readQ_none h2]
   exact .z 2 2 rfl (TE.rettc rfl rfl rfl)
  ·skip
   have h2 : ¬ l.length = 0 := by have q := of_decide_eq_false h2; (try dsimp only at q); omega
   have hp : 0 < l.length := by omega
   have g0 : l.getD 0 0 = l[0] := by rw [List.getD_eq_getElem?_getD, List.getElem?_eq_getElem hp]; rfl
   refine .t 1 2 rfl rfl (.idx (l[0]'hp) rfl rfl rfl rfl et22 (fun _ => rfl) (by decide) (List.getElem?_eq_getElem hp)) ?_
   refine .q 3 2 rfl rfl (fun h3 => ?_) (fun h3 => ?_)
   ·skip
    have h3 : ¬ l.getD 0 0 = 80 := by rw [g0]; intro q; rw [q] at h3; exact absurd h3 (by decide)
    refine .t 0 2 rfl rfl (.bd (zeroPm.dv) rfl) ?_
    rw [← readQ_near]
    rw [readQ_bytes h1 h2 h3]
    exact .z 2 2 rfl (TE.rettc rfl rfl rfl)
   ·skip
    have h3 : l.getD 0 0 = 80 := by rw [g0]; have z : ((l[0].toNat : Nat) : Int) = 80 := (by simpa using h3); exact UInt8.toNat_inj.1 (by show l[0].toNat = 80; omega)
    refine .t 1 2 rfl rfl (.slice rfl rfl rfl rfl rfl et22 (fun _ => rfl) (by decide) (by omega) (Int.le_refl _)) ?_
    refine .sub 24 (slT bdv 1 (l.drop 1)) rfl rfl (fun K w u h => by have e : ((l.take (l.length : Int).toNat).drop (1 : Int).toNat) = l.drop 1 := (by simp); rw [← e]; exact h) ?_
    refine .t 0 2 rfl rfl (.callb 2 rfl rfl cf63 rfl ⟨trivial, trivial⟩ (new_pb (l.drop 1) (by rw [List.length_drop]; omega))) ?_
    refine .g 1 3 rfl ?_
    obtain ⟨s0, he0⟩ : ∃ s0 : RS, s0 = (l.drop 1, 0) := ⟨_, rfl⟩
    have hs0 : s0.1.length ≤ 1099511627776 := by rw [he0, List.length_drop]; omega
    refine TE.obj 2 (.box 166 (rdC (s0).1 (s0).2)) rfl (by (rw [he0]); try rfl) ?_
    refine .d 0 3 rfl ?_
    refine .t 1 3 (E := ⟨some (27, _), [(2, _)]⟩) [2] rfl rfl (fun _ _ => .cm 2 (.box 166 (rdC (pmA s0 0).1 (pmA s0 0).2)) rfl (lump_s s0 32 hs0 (by decide)) rfl) ?_
    refine .v 0 3 [] rfl rfl (fun _ _ => .convbd (l := (rdL s0 32).1) rfl rfl u822 us9) ?_
    refine .t 1 3 (E := ⟨some (30, _), [(2, _)]⟩) [2] rfl rfl (fun _ _ => .cm 2 (.box 166 (rdC (pmA s0 1).1 (pmA s0 1).2)) rfl (num_s (pmA s0 0) (Nat.le_trans (pmA_le s0 0) hs0)) rfl) ?_
    refine .v 0 3 [] rfl rfl (fun _ _ => .cf (pnear_pf (rdN (pmA s0 0)) (rdN_bd _)) rfl) ?_
    refine .t 1 3 (E := ⟨some (33, _), [(2, _)]⟩) [2] rfl rfl (fun _ _ => .cm 2 (.box 166 (rdC (pmA s0 2).1 (pmA s0 2).2)) rfl (num_s (pmA s0 1) (Nat.le_trans (pmA_le s0 1) hs0)) rfl) ?_
    refine .v 0 3 [] rfl rfl (fun _ _ => .bd (En.dv ⟨(rdL s0 32).1, nearI (rdN (pmA s0 0)), rdN (pmA s0 1)⟩) rfl) ?_
    refine .y 2 3 rfl (by kernel_rfl) ?_
    refine TE.obj 3 (.box 35 (En.dv ⟨(rdL s0 32).1, nearI (rdN (pmA s0 0)), rdN (pmA s0 1)⟩)) rfl rfl ?_
    refine .d 0 4 rfl ?_
    refine .v 0 4 [3] rfl rfl (fun _ _ => .lp (En.dv ⟨(rdL s0 32).1, nearI (rdN (pmA s0 0)), rdN (pmA s0 1)⟩) rfl) ?_
    refine .t 1 4 (E := ⟨some (37, _), [(2, _)]⟩) [2] rfl rfl (fun _ _ => .cm 2 (.box 166 (rdC (pmA s0 3).1 (pmA s0 3).2)) rfl (num_s (pmA s0 2) (Nat.le_trans (pmA_le s0 2) hs0)) rfl) ?_
    refine .v 0 4 [] rfl rfl (fun _ _ => .cf (pnear_pf (rdN (pmA s0 2)) (rdN_bd _)) rfl) ?_
    refine .t 1 4 (E := ⟨some (40, _), [(2, _)]⟩) [2] rfl rfl (fun _ _ => .cm 2 (.box 166 (rdC (pmA s0 4).1 (pmA s0 4).2)) rfl (num_s (pmA s0 3) (Nat.le_trans (pmA_le s0 3) hs0)) rfl) ?_
    refine .v 0 4 [] rfl rfl (fun _ _ => .cf (pnear_pf (rdN (pmA s0 3)) (rdN_bd _)) rfl) ?_
    refine .v 0 4 [] rfl rfl (fun _ _ => .bd (Pm.dv (⟨⟨(rdL s0 32).1, nearI (rdN (pmA s0 0)), rdN (pmA s0 1)⟩, nearI (rdN (pmA s0 2)), nearI (rdN (pmA s0 3)), 0, 0⟩ : Pm)) rfl) ?_
    refine .y 2 4 rfl (by kernel_rfl) ?_
    refine TE.obj 4 (.box 73 (Pm.dv (⟨⟨(rdL s0 32).1, nearI (rdN (pmA s0 0)), rdN (pmA s0 1)⟩, nearI (rdN (pmA s0 2)), nearI (rdN (pmA s0 3)), 0, 0⟩ : Pm))) rfl rfl ?_
    refine .t 1 5 rfl rfl (.cm 2 (.box 166 (rdC (pmA s0 5).1 (pmA s0 5).2)) rfl (num_s (pmA s0 4) (Nat.le_trans (pmA_le s0 4) hs0)) rfl) ?_
    refine .t 1 5 rfl rfl (.cm 2 (.box 166 (rdC (pmA s0 6).1 (pmA s0 6).2)) rfl (num_s (pmA s0 5) (Nat.le_trans (pmA_le s0 5) hs0)) rfl) ?_
    refine .t 0 5 rfl rfl (.bd (sgdv (rdN (pmA s0 4)) (rdN (pmA s0 5))) rfl) ?_
    refine .g 2 5 rfl ?_
    refine TE.obj 4 (.box 73 (pmF nearI s0).dv) rfl rfl ?_
    refine .t 1 5 rfl rfl (.cm 2 (.box 166 (rdC (pmA s0 6).1 (pmA s0 6).2)) rfl (err_pm (pmA s0 6).1 (pmA s0 6).2) rfl) ?_
    refine .q 2 5 rfl rfl (fun h4 => ?_) (fun h4 => ?_)
    ·skip
     have h4 : ¬ (pmA s0 6).2 = 0 := by simpa using h4
     refine .t 0 5 rfl rfl (.bd (zeroPm.dv) rfl) ?_
     refine .t 1 5 rfl rfl (.cm 2 (.box 166 (rdC (pmA s0 6).1 (pmA s0 6).2)) rfl (err_pm (pmA s0 6).1 (pmA s0 6).2) rfl) ?_
     rw [← readQ_near]
     rw [readQ_err h1 h2 h3 (he0 ▸ h4), ← he0]
     exact .z 2 5 rfl (TE.rettc rfl rfl rfl)
    ·skip
     have h4 : (pmA s0 6).2 = 0 := by simpa using h4
     refine .t 1 5 rfl rfl (.cm 2 (.box 166 (rdC (pmA s0 6).1 (pmA s0 6).2)) rfl (left_pm (pmA s0 6).1 (pmA s0 6).2) rfl) ?_
     refine .q 2 5 rfl rfl (fun h5 => ?_) (fun h5 => ?_)
     ·skip
      have h5 : 0 < (pmA s0 6).1.length := by have q := of_decide_eq_true h5; (try dsimp only at q); omega
      refine .t 0 5 rfl rfl (.bd (zeroPm.dv) rfl) ?_
      rw [← readQ_near]
      rw [readQ_left h1 h2 h3 (he0 ▸ h4) (he0 ▸ h5)]
      exact .z 2 5 rfl (TE.rettc rfl rfl rfl)
     ·skip
      have h5 : ¬ (0 < (pmA s0 6).1.length) := by have q := of_decide_eq_false h5; (try dsimp only at q); omega
      refine .t 0 5 rfl rfl (.lp ((pmF nearI s0).dv) rfl) ?_
      refine .t 0 5 rfl rfl (.cf (prt_pf (pmF nearI s0)) rfl) ?_
      refine .q 2 5 rfl rfl (fun h6 => ?_) (fun h6 => ?_)
      ·skip
       have h6 : rightQ (pmF nearI s0) = false := by simpa using h6
       refine .t 0 5 rfl rfl (.bd (zeroPm.dv) rfl) ?_
       rw [← readQ_near]
       rw [readQ_form h1 h2 h3 (he0 ▸ h4) (he0 ▸ h5) (he0 ▸ h6)]
       exact .z 2 5 rfl (TE.rettc rfl rfl rfl)
      ·skip
       have h6 : rightQ (pmF nearI s0) = true := by simpa using h6
       refine .t 0 5 rfl rfl (.lp ((pmF nearI s0).dv) rfl) ?_
       rw [← readQ_near]
       rw [readQ_ok h1 h2 h3 (he0 ▸ h4) (he0 ▸ h5) (he0 ▸ h6), ← he0]
       exact .z 2 5 rfl (TE.rettc rfl rfl rfl)
end Go.Proofs.YtdjcclcejmeheaaGreat
/-
  A logic of walks: a range over slices.Backward of hashes.
-/
namespace Go.Proofs.YtdjcclcejmeheaaGreat
set_option linter.unusedVariables false
set_option linter.unusedSimpArgs false
open Go.RowKit Pl
namespace Pl
section
variable {P : Program} {C : Cx} {Q : Exit → Act → World → Prop} {L : Lo} {Γ : Ga} {a : Act} {w : World}
theorem act_def {a : Act} (h : a.defers = []) : ({ a with defers := [] } : Act) = a := by cases a; simp at h; subst h; rfl
def TLi (M : Fm) (P : Program) (C : Cx) (ops : Array Oper) (Q : Exit → Act → World → Prop) (rest : List Oper) (L : Lo) (Γ : Ga) : Prop := ∀ a w, Reps C L Γ a w → Fr M a → wpListIn M.F M.n P ops Q rest { a with defers := M.ds } w
theorem TLi.step {M : Fm} {ops : Array Oper} {o : Oper} {rest : List Oper} {L' : Lo} {Γ' : Ga} (hF : OpenF M.F) (hg : o.guard = none) (hd : okOp M.T o = true) (h : OT P C o L Γ L' Γ') (k : TLi M P C ops Q rest L' Γ') : TLi M P C ops Q (o :: rest) L Γ := fun a w hr hf => by
  unfold wpListIn
  rw [wanted_ds, if_pos (by simp [Region.wanted, hg])]
  exact op_in hF hd hf (h a w hr) (fun a' w' q => reps_def q) (fun a' w' q hf' => k a' w' q hf')
theorem TLi.nil {M : Fm} {ops : Array Oper} (h : TE C (QF M Q .normal) L Γ) : TLi M P C ops Q [] L Γ := fun a w hr hf => (h a w hr).2 hf
theorem TCF.regionI {M : Fm} {id : Nat} {l : List Oper} (hF : OpenF M.F) (h : TLi M P C l.toArray Q l L Γ) : TCF M P C (.region id l.toArray false) Q L Γ := ⟨hF, fun a w hr hf => wpIn_region_lit (h a w hr hf)⟩
theorem TCF.exit {M : Fm} {id : Nat} (hF : OpenF M.F) (h : TE C (fun a w => Fr M a → Q (.exit id) { a with defers := M.ds } w) L Γ) : TCF M P C (.exit id) Q L Γ := ⟨hF, fun a w hr hf => wpIn_exit (h a w hr hf)⟩
/-- Plain slots alone. -/
def plL (l : List (Nat × Value)) : Lo := ls (l.map fun x => (x.1, .d (.v x.2)))
theorem plL_get : ∀ {l : List (Nat × Value)} {t : Nat} {X : AV}, plL l t = some X → ∃ v, X = .d (.v v) ∧ (t, v) ∈ l
  | [], t, X, h => by cases h
  | (s, v) :: r, t, X, h => by
    unfold plL at h
    simp only [List.map_cons, ls] at h
    cases hb : Nat.beq t s with
    | true =>
      rw [hb] at h
      simp at h
      rw [Nat.beq_eq] at hb
      subst hb
      exact ⟨v, h.symm, by simp⟩
    | false =>
      rw [hb] at h
      simp only [cond_false] at h
      obtain ⟨u, h1, h2⟩ := plL_get (l := r) h
      exact ⟨u, h1, List.mem_cons_of_mem _ h2⟩
theorem reps_plain {n : Nat} {l : List (Nat × Value)} (hd : a.defers = []) (hs : a.tmps.size = n) (h : ∀ x ∈ l, a.tmps.getD x.1 undef = x.2) (W : World) : Reps ⟨W, noK, n, noM⟩ (plL l) (fun _ => none) a W := by
  refine ⟨fun _ => none, hd, hs, fun b hb => hb.elim, Kept.refl _ _, fun _ _ => rfl, fun t X g ht hg => ?_, fun _ _ h => (by cases h), fun _ _ _ h => (by cases h), fun _ _ _ h => (by cases h), fun _ _ _ _ h => (by cases h), fun _ _ h => (by cases h), fun t X ht => ?_⟩
  · obtain ⟨v, rfl, _⟩ := plL_get ht
    simp [AV.id] at hg
  · obtain ⟨v, rfl, hv⟩ := plL_get ht
    show DV.rep _ _ _ _
    unfold DV.rep
    exact h _ hv
theorem hash_val {K : Nat → Prop} {w : World} {h : H} {u : Value} (hr : (DV.ag (hdv h)).rep K w u) : u = hashV (H.l h) := by
  unfold DV.rep at hr
  obtain ⟨us, rfl, hu⟩ := hr
  have : ∀ (l : List UInt8) (us : List Value), repL K w (l.flatMap bdv) us → us = bvs l := fun l => by
    induction l with
    | nil => intro us h; simp only [List.flatMap_nil, repL] at h; subst h; rfl
    | cons x r ih =>
      intro us h
      have h : repL K w (DV.v (.int .u8 x.toNat) :: r.flatMap bdv) us := h
      unfold repL at h
      obtain ⟨u, t, rfl, h1, h2⟩ := h
      rw [ih t h2, v_rep h1]; rfl
  rw [this _ us hu]; rfl
theorem TLi.yield {M : Fm} {nt l d tf : Nat} {x y : Operand} {at_ : Array TypeId} {ty : TypeId} {pos : String} {af : Array Edge} {ops : Array Oper} {rest : List Oper} {W : World} {i : Int} {h : H} {J : World → Prop} (lst : List (Nat × Value)) (hF : M.F = Fence.wide) (hds : M.ds = []) (hn : Nat.blt d nt = true) (hT : mem M.T d = false)
    (hf : evv L (.tmp tf) = some (.func (.yield l) #[] #[])) (hx : evv L x = some (.int .i64 i)) (hy : evd L y = some (.ag (hdv h))) (hd : ∀ p ∈ lst, (evv L (.tmp p.1) = some p.2 ∨ (p.1 ∈ M.T ∧ M.v p.1 = p.2)) ∧ p.1 ≠ d)
    (hY : ∀ w, Below W.heap.size W w → YieldAt Fence.wide (M.n - 1) P l #[.int .i64 i, hashV (H.l h)] w fun e W' => e = .returned (.bool true) ∧ J W')
    (k : ∀ W', J W' → TLi M P ⟨W', noK, nt, noM⟩ ops Q rest (plL ((d, .bool true) :: lst)) (fun _ => none)) :
    TLi M P ⟨W, noK, nt, noM⟩ ops Q (⟨some d, .call { callee := .value (.tmp tf), args := #[x, y], argTypes := at_ }, ty, pos, af, none⟩ :: rest) L (fun _ => none) := fun a w ⟨ρ, hr⟩ hfr => by
  unfold wpListIn
  rw [wanted_ds, if_pos (by simp [Region.wanted])]
  rw [hds, act_def hr.df]
  have hb : Below W.heap.size W w := hr.fr.below (fun b => noMB b)
  obtain ⟨fn, tmps, assign, body, hrun, hR⟩ := hY w hb
  rw [hF]
  refine ⟨fun _ _ => trivial, ?_⟩
  have e1 : a.eval (.tmp tf) = .func (.yield l) #[] #[] := evv_eval hr hf
  have e2 : a.eval x = .int .i64 i := evv_eval hr hx
  have e3 : a.eval y = hashV (H.l h) := hash_val (evd_rep hr hy)
  have : ((⟨some d, .call { callee := .value (.tmp tf), args := #[x, y], argTypes := at_ }, ty, pos, af, none⟩ : Oper).semAt Fence.wide.round a.eval).run P w = .ok (.round l fn tmps assign body) w := by
    rw [Oper.semAt_eq _ _ _ (fun c e => by cases e)]
    simp [execOp, resolve, e1, e2, e3, Deferred.ofValue, invoke, hrun]
  rw [this]
  refine ⟨fun e => (by cases e), RoundIn.mono hR fun e w'' q => ?_⟩
  obtain ⟨rfl, hJ⟩ := q
  show wpListIn Fence.wide M.n P ops Q rest (a.put (some d) (.bool true)) w''
  have hdn : d < a.tmps.size := by rw [hr.sz]; simpa using hn
  have hfr' : Fr M (a.put (some d) (.bool true)) := fun t ht => by
    rw [getD_put a d t _ hdn, if_neg (fun e => by subst e; rw [mem_iff.2 ht] at hT; cases hT)]
    exact hfr t ht
  have := k w'' hJ (a.put (some d) (.bool true)) w'' (reps_plain (by rw [put_def]; exact hr.df) (by simp [Act.put]; exact hr.sz) (fun p hp => by
    rw [getD_put a d p.1 _ hdn]
    rcases List.mem_cons.1 hp with rfl | hp
    · rw [if_pos rfl]
    · rw [if_neg (hd p hp).2]
      rcases (hd p hp).1 with q | q
      · exact evv_eval hr q
      · rw [← q.2]; exact hfr p.1 q.1) w'') hfr'
  rw [hds, act_def (by rw [put_def]; exact hr.df), hF] at this
  exact this
/-- A loop, walked without a round. -/
theorem TCF.loopW {M : Fm} {c : Code} (hF : M.F = Fence.wide) (hds : M.ds = []) (I : Nat → Act → World → Prop) (k : Nat) (h0 : ∀ a w, Reps C L Γ a w → Fr M a → I k a w) (round : ∀ k a w, I k a w → c.wpIn Fence.wide M.n P (Exit.then (fun a' w' => ∃ k', k' < k ∧ I k' a' w') Q) a w) : TCF M P C (.loop c) Q L Γ := ⟨by rw [hF]; exact open_wide, fun a w hr hf => by
  rw [hds, act_def (reps_def hr), hF]
  exact wpIn_wide.2 (wp_loop_nat I k (h0 a w hr hf) (fun k a w h => wpIn_wide.1 (round k a w h)))⟩
theorem tcf_at {c : Code} {n : Nat} {T : List Nat} {v : Nat → Value} (hd : a.defers = []) (hr : Reps C L Γ a w) (hT : ∀ t ∈ T, a.tmps.getD t undef = v t) (h : TCF ⟨Fence.wide, n, T, v, []⟩ P C c Q L Γ) : c.wpIn Fence.wide n P Q a w := by
  have := h.2 a w hr hT
  rwa [show ({ a with defers := (Fm.mk Fence.wide n T v []).ds } : Act) = a from act_def hd] at this
theorem callsF_enter {f : FuncId} {fn : Func} {c : Code} {w : World} {Xs : List DV} {us : List Value} {R : Ending → World → Prop} {n : Nat} {T : List Nat} {v : Nat → Value} (hf : P.funcs[f]? = some fn) (hb : fn.body = some c) {nt : Nat} (hnt : fn.ntmps = nt) (hn : Nat.ble Xs.length nt = true) (hr : repL noK w Xs us) (hT : ∀ t ∈ T, us[t]? = some (v t))
    (h : TCF ⟨Fence.wide, n, T, v, []⟩ P ⟨w, noK, nt, noM⟩ c (bodyPost P fn R) (argL Xs) (fun _ => none)) : CallsIn Fence.wide n P f us.toArray w R := by
  subst hnt
  refine callsIn_of_wp hf hb trivial (h.2 _ _ (reps_enter (fun b hb => hb.elim) hr (by simpa using hn)) (fun t ht => ?_)) rfl
  have h1 := hT t ht
  have h2 : t < us.length := (List.getElem?_eq_some_iff.1 h1).1
  rw [Array.getD_eq_getD_getElem?, Array.getElem?_append_left (by simpa using h2)]
  simp [h1]
end
end Pl
end Go.Proofs.YtdjcclcejmeheaaGreat

