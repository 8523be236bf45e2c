import Derived.Test.YtdjcclcejmeheaaGreatZFb
import Derived.Test.YtdjcclcejmeheaaGreatZQ3
import Derived.TacticsInMore
import Derived.Test.YtdjcclcejmeheaaGreatZQ2
/-
  A logic of walks: a range over slices.Backward of hashes.
-/
namespace Go.Proofs.YtdjcclcejmeheaaGreat
set_option linter.unusedVariables false
set_option linter.unusedSimpArgs false
open Go.RowKit Pl
namespace Pl
section
variable {P : Program} {C : Cx} {Q : Exit → Act → World → Prop} {L : Lo} {Γ : Ga} {a : Act} {w : World}
theorem act_def {a : Act} (h : a.defers = []) : ({ a with defers := [] } : Act) = a := by cases a; simp at h; subst h; rfl
def TLi (M : Fm) (P : Program) (C : Cx) (ops : Array Oper) (Q : Exit → Act → World → Prop) (rest : List Oper) (L : Lo) (Γ : Ga) : Prop := ∀ a w, Reps C L Γ a w → Fr M a → wpListIn M.F M.n P ops Q rest { a with defers := M.ds } w
theorem TLi.step {M : Fm} {ops : Array Oper} {o : Oper} {rest : List Oper} {L' : Lo} {Γ' : Ga} (hF : OpenF M.F) (hg : o.guard = none) (hd : okOp M.T o = true) (h : OT P C o L Γ L' Γ') (k : TLi M P C ops Q rest L' Γ') : TLi M P C ops Q (o :: rest) L Γ := fun a w hr hf => by
  unfold wpListIn
  rw [wanted_ds, if_pos (by simp [Region.wanted, hg])]
  exact op_in hF hd hf (h a w hr) (fun a' w' q => reps_def q) (fun a' w' q hf' => k a' w' q hf')
theorem TLi.nil {M : Fm} {ops : Array Oper} (h : TE C (QF M Q .normal) L Γ) : TLi M P C ops Q [] L Γ := fun a w hr hf => (h a w hr).2 hf
theorem TCF.regionI {M : Fm} {id : Nat} {l : List Oper} (hF : OpenF M.F) (h : TLi M P C l.toArray Q l L Γ) : TCF M P C (.region id l.toArray false) Q L Γ := ⟨hF, fun a w hr hf => wpIn_region_lit (h a w hr hf)⟩
theorem TCF.exit {M : Fm} {id : Nat} (hF : OpenF M.F) (h : TE C (fun a w => Fr M a → Q (.exit id) { a with defers := M.ds } w) L Γ) : TCF M P C (.exit id) Q L Γ := ⟨hF, fun a w hr hf => wpIn_exit (h a w hr hf)⟩
/-- Plain slots alone. -/
def plL (l : List (Nat × Value)) : Lo := ls (l.map fun x => (x.1, .d (.v x.2)))
theorem plL_get : ∀ {l : List (Nat × Value)} {t : Nat} {X : AV}, plL l t = some X → ∃ v, X = .d (.v v) ∧ (t, v) ∈ l
  | [], t, X, h => by cases h
  | (s, v) :: r, t, X, h => by
    unfold plL at h
    simp only [List.map_cons, ls] at h
    cases hb : Nat.beq t s with
    | true =>
      rw [hb] at h
      simp at h
      rw [Nat.beq_eq] at hb
      subst hb
      exact ⟨v, h.symm, by simp⟩
    | false =>
      rw [hb] at h
      simp only [cond_false] at h
      obtain ⟨u, h1, h2⟩ := plL_get (l := r) h
      exact ⟨u, h1, List.mem_cons_of_mem _ h2⟩
theorem reps_plain {n : Nat} {l : List (Nat × Value)} (hd : a.defers = []) (hs : a.tmps.size = n) (h : ∀ x ∈ l, a.tmps.getD x.1 undef = x.2) (W : World) : Reps ⟨W, noK, n, noM⟩ (plL l) (fun _ => none) a W := by
  refine ⟨fun _ => none, hd, hs, fun b hb => hb.elim, Kept.refl _ _, fun _ _ => rfl, fun t X g ht hg => ?_, fun _ _ h => (by cases h), fun _ _ _ h => (by cases h), fun _ _ _ h => (by cases h), fun _ _ _ _ h => (by cases h), fun _ _ h => (by cases h), fun t X ht => ?_⟩
  · obtain ⟨v, rfl, _⟩ := plL_get ht
    simp [AV.id] at hg
  · obtain ⟨v, rfl, hv⟩ := plL_get ht
    show DV.rep _ _ _ _
    unfold DV.rep
    exact h _ hv
theorem hash_val {K : Nat → Prop} {w : World} {h : H} {u : Value} (hr : (DV.ag (hdv h)).rep K w u) : u = hashV (H.l h) := by
  unfold DV.rep at hr
  obtain ⟨us, rfl, hu⟩ := hr
  have : ∀ (l : List UInt8) (us : List Value), repL K w (l.flatMap bdv) us → us = bvs l := fun l => by
    induction l with
    | nil => intro us h; simp only [List.flatMap_nil, repL] at h; subst h; rfl
    | cons x r ih =>
      intro us h
      have h : repL K w (DV.v (.int .u8 x.toNat) :: r.flatMap bdv) us := h
      unfold repL at h
      obtain ⟨u, t, rfl, h1, h2⟩ := h
      rw [ih t h2, v_rep h1]; rfl
  rw [this _ us hu]; rfl
theorem TLi.yield {M : Fm} {nt l d tf : Nat} {x y : Operand} {at_ : Array TypeId} {ty : TypeId} {pos : String} {af : Array Edge} {ops : Array Oper} {rest : List Oper} {W : World} {i : Int} {h : H} {J : World → Prop} (lst : List (Nat × Value)) (hF : M.F = Fence.wide) (hds : M.ds = []) (hn : Nat.blt d nt = true) (hT : mem M.T d = false)
    (hf : evv L (.tmp tf) = some (.func (.yield l) #[] #[])) (hx : evv L x = some (.int .i64 i)) (hy : evd L y = some (.ag (hdv h))) (hd : ∀ p ∈ lst, (evv L (.tmp p.1) = some p.2 ∨ (p.1 ∈ M.T ∧ M.v p.1 = p.2)) ∧ p.1 ≠ d)
    (hY : ∀ w, Below W.heap.size W w → YieldAt Fence.wide (M.n - 1) P l #[.int .i64 i, hashV (H.l h)] w fun e W' => e = .returned (.bool true) ∧ J W')
    (k : ∀ W', J W' → TLi M P ⟨W', noK, nt, noM⟩ ops Q rest (plL ((d, .bool true) :: lst)) (fun _ => none)) :
    TLi M P ⟨W, noK, nt, noM⟩ ops Q (⟨some d, .call { callee := .value (.tmp tf), args := #[x, y], argTypes := at_ }, ty, pos, af, none⟩ :: rest) L (fun _ => none) := fun a w ⟨ρ, hr⟩ hfr => by
  unfold wpListIn
  rw [wanted_ds, if_pos (by simp [Region.wanted])]
  rw [hds, act_def hr.df]
  have hb : Below W.heap.size W w := hr.fr.below (fun b => noMB b)
  obtain ⟨fn, tmps, assign, body, hrun, hR⟩ := hY w hb
  rw [hF]
  refine ⟨fun _ _ => trivial, ?_⟩
  have e1 : a.eval (.tmp tf) = .func (.yield l) #[] #[] := evv_eval hr hf
  have e2 : a.eval x = .int .i64 i := evv_eval hr hx
  have e3 : a.eval y = hashV (H.l h) := hash_val (evd_rep hr hy)
  have : ((⟨some d, .call { callee := .value (.tmp tf), args := #[x, y], argTypes := at_ }, ty, pos, af, none⟩ : Oper).semAt Fence.wide.round a.eval).run P w = .ok (.round l fn tmps assign body) w := by
    rw [Oper.semAt_eq _ _ _ (fun c e => by cases e)]
    simp [execOp, resolve, e1, e2, e3, Deferred.ofValue, invoke, hrun]
  rw [this]
  refine ⟨fun e => (by cases e), RoundIn.mono hR fun e w'' q => ?_⟩
  obtain ⟨rfl, hJ⟩ := q
  show wpListIn Fence.wide M.n P ops Q rest (a.put (some d) (.bool true)) w''
  have hdn : d < a.tmps.size := by rw [hr.sz]; simpa using hn
  have hfr' : Fr M (a.put (some d) (.bool true)) := fun t ht => by
    rw [getD_put a d t _ hdn, if_neg (fun e => by subst e; rw [mem_iff.2 ht] at hT; cases hT)]
    exact hfr t ht
  have := k w'' hJ (a.put (some d) (.bool true)) w'' (reps_plain (by rw [put_def]; exact hr.df) (by simp [Act.put]; exact hr.sz) (fun p hp => by
    rw [getD_put a d p.1 _ hdn]
    rcases List.mem_cons.1 hp with rfl | hp
    · rw [if_pos rfl]
    · rw [if_neg (hd p hp).2]
      rcases (hd p hp).1 with q | q
      · exact evv_eval hr q
      · rw [← q.2]; exact hfr p.1 q.1) w'') hfr'
  rw [hds, act_def (by rw [put_def]; exact hr.df), hF] at this
  exact this
/-- A loop, walked without a round. -/
theorem TCF.loopW {M : Fm} {c : Code} (hF : M.F = Fence.wide) (hds : M.ds = []) (I : Nat → Act → World → Prop) (k : Nat) (h0 : ∀ a w, Reps C L Γ a w → Fr M a → I k a w) (round : ∀ k a w, I k a w → c.wpIn Fence.wide M.n P (Exit.then (fun a' w' => ∃ k', k' < k ∧ I k' a' w') Q) a w) : TCF M P C (.loop c) Q L Γ := ⟨by rw [hF]; exact open_wide, fun a w hr hf => by
  rw [hds, act_def (reps_def hr), hF]
  exact wpIn_wide.2 (wp_loop_nat I k (h0 a w hr hf) (fun k a w h => wpIn_wide.1 (round k a w h)))⟩
theorem tcf_at {c : Code} {n : Nat} {T : List Nat} {v : Nat → Value} (hd : a.defers = []) (hr : Reps C L Γ a w) (hT : ∀ t ∈ T, a.tmps.getD t undef = v t) (h : TCF ⟨Fence.wide, n, T, v, []⟩ P C c Q L Γ) : c.wpIn Fence.wide n P Q a w := by
  have := h.2 a w hr hT
  rwa [show ({ a with defers := (Fm.mk Fence.wide n T v []).ds } : Act) = a from act_def hd] at this
theorem callsF_enter {f : FuncId} {fn : Func} {c : Code} {w : World} {Xs : List DV} {us : List Value} {R : Ending → World → Prop} {n : Nat} {T : List Nat} {v : Nat → Value} (hf : P.funcs[f]? = some fn) (hb : fn.body = some c) {nt : Nat} (hnt : fn.ntmps = nt) (hn : Nat.ble Xs.length nt = true) (hr : repL noK w Xs us) (hT : ∀ t ∈ T, us[t]? = some (v t))
    (h : TCF ⟨Fence.wide, n, T, v, []⟩ P ⟨w, noK, nt, noM⟩ c (bodyPost P fn R) (argL Xs) (fun _ => none)) : CallsIn Fence.wide n P f us.toArray w R := by
  subst hnt
  refine callsIn_of_wp hf hb trivial (h.2 _ _ (reps_enter (fun b hb => hb.elim) hr (by simpa using hn)) (fun t ht => ?_)) rfl
  have h1 := hT t ht
  have h2 : t < us.length := (List.getElem?_eq_some_iff.1 h1).1
  rw [Array.getD_eq_getD_getElem?, Array.getElem?_append_left (by simpa using h2)]
  simp [h1]
end
end Pl
end Go.Proofs.YtdjcclcejmeheaaGreat
/-
  What comes in, by its type; what a law hands back.
-/
namespace Go.Proofs.YtdjcclcejmeheaaGreat
set_option linter.unusedVariables false
set_option linter.unusedSimpArgs false
set_option maxRecDepth 20000
open Go.RowKit Pl
theorem shpN_map {α : Type} {enc : α → List DV} {p : α → Prop} {g : List DV → Prop} (hg : ∀ cs, g cs → ∃ x, p x ∧ cs = enc x) : ∀ (n : Nat) (cs : List DV), ShpN g n cs → ∃ xs : List α, xs.length = n ∧ (∀ x ∈ xs, p x) ∧ cs = xs.flatMap enc
  | 0, cs, h => ⟨[], rfl, by simp, h⟩
  | n + 1, cs, ⟨a, b, e, h1, h2⟩ => by
    obtain ⟨x, hx, rfl⟩ := hg a h1
    obtain ⟨xs, k1, k2, rfl⟩ := shpN_map hg n b h2
    exact ⟨x :: xs, by simp [k1], by simp [hx]; exact k2, e⟩
theorem shp_sl {P : Program} {d t e sz : Nat} {X : DV} (hu : P.underlying t = some (.slice e)) (hc : P.cellsOf e = sz) {α : Type} {enc : α → List DV} {p : α → Prop} (hg : ∀ cs, Shp P d e cs → ∃ x, p x ∧ cs = enc x) (h : ShV P (d + 1) t X) : ∃ xs : List α, X = slT enc sz xs ∧ ∀ x ∈ xs, p x := by
  unfold ShV at h
  rw [hu] at h
  unfold Shp at h
  simp only [hu] at h
  obtain ⟨n, ds, h1, h2⟩ := h
  obtain ⟨xs, k1, k2, rfl⟩ := shpN_map hg n ds h2
  simp only [List.cons.injEq, and_true] at h1
  exact ⟨xs, by rw [h1, hc, ← k1], k2⟩
theorem shp_int {P : Program} {d t : Nat} {k : IntKind} {cs : List DV} (hu : P.underlying t = some (.int k)) (h : Shp P (d + 1) t cs) : ∃ n, cs = [.v (.int k n)] ∧ (Lit.int k n).wf = true := by
  unfold Shp at h; simpa only [hu] using h
theorem shv_int {P : Program} {d t : Nat} {k : IntKind} {X : DV} (hu : P.underlying t = some (.int k)) (h : ShV P (d + 1) t X) : ∃ n, X = .v (.int k n) ∧ (Lit.int k n).wf = true := by
  unfold ShV at h
  rw [hu] at h
  obtain ⟨n, h1, h2⟩ := shp_int hu h
  exact ⟨n, by simpa using h1, h2⟩
theorem u8_nat {n : Int} (h : (Lit.int .u8 n).wf = true) : ∃ b : UInt8, n = (b.toNat : Nat) := by
  simp [Lit.wf, IntKind.min, IntKind.max, IntKind.signed, IntKind.bits] at h
  exact ⟨UInt8.ofNat n.toNat, by rw [UInt8.toNat_ofNat']; omega⟩
theorem shp_u8 {d : Nat} (cs : List DV) (h : Shp Tryz.prog (d + 1) 5 cs) : ∃ b : UInt8, True ∧ cs = bdv b := by
  obtain ⟨n, rfl, hw⟩ := shp_int Tryz.underlying5 h
  obtain ⟨b, rfl⟩ := u8_nat hw
  exact ⟨b, trivial, rfl⟩
theorem shp_hash {d : Nat} (cs : List DV) (h : Shp Tryz.prog (d + 2) 41 cs) : ∃ x : H, True ∧ cs = hdv x := by
  unfold Shp at h
  simp only [Tryz.underlying41] at h
  obtain ⟨l, h1, _, rfl⟩ := shpN_map (p := fun _ => True) shp_u8 32 cs h
  exact ⟨ofL l, trivial, by unfold hdv; rw [ofL_l h1]⟩
theorem o_bytes {X : DV} (h : ShV Tryz.prog 6 22 X) : ∃ l : List UInt8, X = slT bdv 1 l ∧ True := by
  obtain ⟨l, h1, _⟩ := shp_sl (p := fun _ => True) Tryz.underlying22 (by kernel_rfl) shp_u8 h
  exact ⟨l, h1, trivial⟩
theorem o_hash {X : DV} (h : ShV Tryz.prog 6 41 X) : ∃ x : H, X = .ag (hdv x) ∧ True := by
  unfold ShV at h
  simp only [Tryz.underlying41] at h
  obtain ⟨ds, rfl, h⟩ := h
  obtain ⟨x, _, rfl⟩ := shp_hash _ h
  exact ⟨x, rfl, trivial⟩
theorem o_u8 {X : DV} (h : ShV Tryz.prog 6 5 X) : ∃ b : UInt8, X = .v (.int .u8 b.toNat) ∧ True := by
  obtain ⟨n, rfl, hw⟩ := shv_int Tryz.underlying5 h
  obtain ⟨b, rfl⟩ := u8_nat hw
  exact ⟨b, rfl, trivial⟩
theorem repl_nil {K : Nat → Prop} {w : World} : repL K w [] [] := by simp [repL]
theorem repl_cons {K : Nat → Prop} {w : World} {X : DV} {Xs : List DV} {u : Value} {us : List Value} (h : X.rep K w u) (k : repL K w Xs us) : repL K w (X :: Xs) (u :: us) := by unfold repL; exact ⟨u, us, rfl, h, k⟩
theorem pf_bool {P : Program} {f : FuncId} {Xs : List DV} {us : List Value} {W : World} (h : PF P f Xs (.v (.bool true))) (hr : repL noK W Xs us) : Calls P f us.toArray W fun e W' => e = .returned (.bool true) ∧ Below W.heap.size W W' :=
  (h W us hr).mono fun e W' ⟨u, h1, h2, h3⟩ => by
    have := h3 noK (fun b hb => hb.elim)
    unfold DV.rep at this
    subst this
    exact ⟨h1, h2⟩
end Go.Proofs.YtdjcclcejmeheaaGreat
/-
  slices.Backward of hashes: the iterator calls its round for each hash, the last one first.
-/
namespace Go.Proofs.YtdjcclcejmeheaaGreat
set_option linter.unusedVariables false
set_option linter.unusedSimpArgs false
set_option maxRecDepth 20000
open Go.RowKit Pl
theorem bk_tk1 : tyk Tryz.prog 52 = some none := by kernel_rfl
theorem bk_tk2 : tyk Tryz.prog 41 = some (some 32) := by kernel_rfl
theorem bk_is : isSl Tryz.prog 52 = some true := by kernel_rfl
theorem bk_et : elt Tryz.prog 52 = some (41, 32) := by kernel_rfl
theorem back_get {α : Type} {l : List α} {n : Nat} (h : n < l.length) : l[((n : Nat) : Int).toNat]? = some l[n] := by rw [Int.toNat_natCast]; exact List.getElem?_eq_getElem h
theorem results_none' {P : Program} {fn : Func} (h : fn.results = #[]) (tmps : Array Value) (w : World) : ∃ v, (results fn tmps).run P w = .ok v w := ⟨_, by have := results_run (P := P) (a := { tmps := tmps, defers := [] }) (w := w) (fn := fn) (rs := []) h [] (by simp); exact this⟩
def bkI (path : List H) (yf v1 : Value) (J : Nat → World → Prop) (m : Nat) (a : Act) (w : World) : Prop := ∃ k, k ≤ path.length ∧ m = path.length - k ∧ a.defers = [] ∧ a.tmps.size = 19 ∧ a.tmps.getD 0 undef = yf ∧ a.tmps.getD 1 undef = v1 ∧ a.tmps.getD 3 undef = .int .i64 ((path.length : Int) - 1 - k) ∧ J k w
set_option maxHeartbeats 1600000 in
theorem back_gives (n l : Nat) (path : List H) (hp : path.length ≤ 1048576) (v1 : Value) (J : Nat → World → Prop) (hext : ∀ k W W', J k W → Below W.heap.size W W' → J k W') (hread : ∀ k W, J k W → (DV.el [slT hdv 32 path]).rep noK W v1)
    (hround : ∀ k, k < path.length → ∀ (hj : path.length - 1 - k < path.length) (W1 : World), J k W1 → YieldAt Fence.wide n Tryz.prog l #[.int .i64 ((path.length - 1 - k : Nat) : Int), hashV (H.l path[path.length - 1 - k])] W1 fun e W' => e = .returned (.bool true) ∧ J (k + 1) W')
    (W : World) (h0 : J 0 W) : CallsIn Fence.wide (n + 1) Tryz.prog 149 #[.func (.yield l) #[] #[], v1] W fun e W' => (∃ v, e = .returned v) ∧ J path.length W' := by
  obtain ⟨yf, hyf⟩ : ∃ yf, yf = Value.func (.yield l) #[] #[] := ⟨_, rfl⟩
  rw [← hyf]
  obtain ⟨vv, hvv⟩ : ∃ vv : Nat → Value, vv = fun t => if t = 0 then yf else v1 := ⟨_, rfl⟩
  have hv0 : vv 0 = yf := by rw [hvv]; rfl
  have hv1 : vv 1 = v1 := by rw [hvv]; rfl
  have open' : OpenF (Fm.mk Fence.wide (n + 1) [0, 1] vv []).F := open_wide
  have hkeep : ∀ (ρ : Rho) (w : World), Keeps noK (KK noK ρ (fun _ => none)) w w := fun ρ w b hb hn => ⟨rfl, hb, fun x => x.elim id fun ⟨g, ⟨o, h, _⟩, _⟩ => by cases h⟩
  have enter : repL noK W [.v yf, .el [slT hdv 32 path]] [yf, v1] := repl_cons (by unfold DV.rep; rfl) (repl_cons (hread 0 W h0) repl_nil)
  refine callsF_enter (us := [yf, v1]) (v := vv) (T := [0, 1]) Tryz.func149 rfl Tryz.ntmps149 rfl enter (fun t ht => ?_) ?_
  · rcases List.mem_cons.1 ht with rfl | ht
    · exact congrArg some hv0.symm
    · rw [List.mem_singleton] at ht; subst ht; exact congrArg some hv1.symm
  refine .seq ?_
  refine .region open' rfl ?_
  refine .step rfl (.lde rfl rfl rfl rfl bk_tk1) ?_
  refine .step rfl (.len rfl rfl ⟨_, _, rfl⟩ bk_is) ?_
  refine .step rfl (.binv (.int .i64 ((path.length : Int) - 1)) rfl rfl rfl rfl (congrArg _ (by rw [IntKind.wrap_i64]; omega))) ?_
  refine .step rfl (.assign rfl rfl) ?_
  refine .nil ?_
  refine .nextF ?_
  refine .block ?_
  refine .loopW rfl rfl (bkI path yf v1 J) path.length (fun a w hr hf => ?_) (fun m a w hI => ?_)
  · obtain ⟨ρ, h⟩ := hr
    refine ⟨0, Nat.zero_le _, rfl, h.df, h.sz, (hf 0 (by simp)).trans hv0, (hf 1 (by simp)).trans hv1, ?_, hext 0 W w h0 (h.fr.below (fun b => noMB b))⟩
    have : a.eval (.tmp 3) = .int .i64 ((path.length : Int) - 1) := evv_eval h rfl
    exact this.trans (by simp)
  · obtain ⟨k, hk, rfl, hd, hs, e0, e1, e3, hJ⟩ := hI
    have hr : Reps ⟨w, noK, 19, noM⟩ (upd (plL [(0, yf), (1, v1), (3, .int .i64 ((path.length : Int) - 1 - k))]) 1 (.d (.el [slT hdv 32 path]))) (fun _ => none) a w := by
      obtain ⟨ρ, h⟩ := reps_plain (l := [(0, yf), (1, v1), (3, .int .i64 ((path.length : Int) - 1 - k))]) hd hs (fun x hx => by
        simp only [List.mem_cons, List.not_mem_nil, or_false] at hx
        rcases hx with rfl | rfl | rfl
        · exact e0
        · exact e1
        · exact e3) w
      exact ⟨ρ, h.tell 1 _ (by rw [e1]; exact DV.rep_mono (hkeep ρ w) _ _ (hread k w hJ)) (fun g hg => by simp [AV.id] at hg)⟩
    refine tcf_at (v := vv) (T := [0, 1]) hd hr (fun t ht => ?_) ?_
    · rcases List.mem_cons.1 ht with rfl | ht
      · exact e0.trans hv0.symm
      · rw [List.mem_singleton] at ht; subst ht; exact e1.trans hv1.symm
    refine .seq ?_
    refine .seq ?_
    refine .region open' rfl ?_
    refine .step rfl (.move rfl rfl) ?_
    refine .step rfl (.bin rfl rfl rfl rfl) ?_
    refine .nil ?_
    refine .nextF ?_
    refine .cond open' rfl (fun h => ?_) (fun h => ?_)
    · refine .skip open' ?_
      refine .nextF ?_
      have hge : 0 ≤ (path.length : Int) - 1 - k := by have q := of_decide_eq_true h; (try dsimp only at q); omega
      have hlt : k < path.length := by omega
      have hj : path.length - 1 - k < path.length := by omega
      have hi : (path.length : Int) - 1 - k = ((path.length - 1 - k : Nat) : Int) := by omega
      refine .seq ?_
      refine .block ?_
      refine .seq ?_
      refine .regionI open' ?_
      refine .step open' rfl rfl (.move rfl rfl) ?_
      refine .step open' rfl rfl (.move rfl rfl) ?_
      refine .step open' rfl rfl (.lde rfl rfl rfl rfl bk_tk1) ?_
      refine .step open' rfl rfl (.move rfl rfl) ?_
      refine .step open' rfl rfl (.idx (path[path.length - 1 - k]) rfl rfl rfl rfl bk_et (fun _ => rfl) hge (by rw [hi]; exact back_get hj)) ?_
      refine .step open' rfl rfl (.ldem rfl rfl rfl rfl rfl bk_tk2) ?_
      refine TLi.yield (h := path[path.length - 1 - k]) (i := ((path.length - 1 - k : Nat) : Int)) (J := J (k + 1)) [(0, yf), (1, v1), (3, .int .i64 ((path.length : Int) - 1 - k))] rfl rfl rfl rfl (by rw [← hyf]; rfl) (by rw [← hi]; rfl) rfl ?_ (fun w' hb => hround k hlt hj w' (hext k w w' hJ hb)) (fun W' hJ' => ?_)
      · intro p hp
        simp only [List.mem_cons, List.not_mem_nil, or_false] at hp
        rcases hp with rfl | rfl | rfl
        · exact ⟨.inr ⟨by simp, hv0⟩, by show (0 : Nat) ≠ 17; decide⟩
        · exact ⟨.inr ⟨by simp, hv1⟩, by show (1 : Nat) ≠ 17; decide⟩
        · exact ⟨.inl rfl, by show (3 : Nat) ≠ 17; decide⟩
      refine .step open' rfl rfl (.un rfl rfl rfl) ?_
      refine .nil ?_
      refine .nextF ?_
      refine .cond open' rfl (fun h => absurd h (by decide)) (fun h => ?_)
      refine .skip open' ?_
      refine TE.blkF ?_
      refine .nextF ?_
      refine .region open' rfl ?_
      refine .step rfl (.move rfl rfl) ?_
      refine .step rfl (.binv (.int .i64 ((path.length : Int) - 1 - (k + 1 : Nat))) rfl rfl rfl rfl (congrArg _ (by rw [IntKind.wrap_i64]; omega))) ?_
      refine .step rfl (.assign rfl rfl) ?_
      refine .nil ?_
      intro a2 w2 hr2
      refine ⟨reps_def hr2, fun hf2 => ?_⟩
      obtain ⟨ρ, h2⟩ := hr2
      refine ⟨path.length - (k + 1), by omega, k + 1, by omega, rfl, rfl, h2.sz, (hf2 0 (by simp)).trans hv0, (hf2 1 (by simp)).trans hv1, ?_, hext _ W' w2 hJ' (h2.fr.below (fun b => noMB b))⟩
      have : a2.eval (.tmp 3) = .int .i64 ((path.length : Int) - 1 - (k + 1 : Nat)) := evv_eval h2 rfl
      exact this
    · refine .exit open' ?_
      intro a2 w2 hr2 hf2
      have hge : ¬ 0 ≤ (path.length : Int) - 1 - k := by have q := of_decide_eq_false h; (try dsimp only at q); omega
      have hkl : k = path.length := by omega
      obtain ⟨ρ, h2⟩ := hr2
      obtain ⟨v, hv⟩ := results_none' (P := Tryz.prog) (fn := Tryz.f149) rfl a2.tmps w2
      simp only [Exit.then, Exit.inBlock, if_true]
      exact ⟨rfl, v, hv, ⟨_, rfl⟩, by rw [← hkl]; exact hext k w w2 hJ (h2.fr.below (fun b => noMB b))⟩
end Go.Proofs.YtdjcclcejmeheaaGreat

