import Derived.Test.YtdjcclcejmeheaaGreatZFd
import Derived.Test.YtdjcclcejmeheaaGreatZXc
import Derived.Test.YtdjcclcejmeheaaGreatZKm
import Derived.Test.YtdjcclcejmeheaaGreatZEv
/-
  A logic of walks: results that hold a row of one's own and a truth.
-/
namespace Go.Proofs.YtdjcclcejmeheaaGreat.Pl
set_option linter.unusedVariables false
set_option linter.unusedSimpArgs false
set_option linter.unusedSectionVars false
open Go.RowKit
/-- The result is a row of one's own and a truth. -/
def PT (P : Program) (f : FuncId) (Xs : List DV) (e sz n : Nat) (cs : List DV) (b : Bool) : Prop := ∀ w us, repL noK w Xs us → Calls P f us.toArray w fun r w' => ∃ u vs, r = .returned (.tuple #[u, .bool b]) ∧ Below w.heap.size w w' ∧ w'.ownsRow w.heap.size e sz u n vs ∧ (∀ x ∈ vs, x.oneCell' = true) ∧ ∀ K, (∀ b, K b → b < w.heap.size ∨ u.ownBlock = some b) → repL K w' cs vs
section
variable {P : Program} {f : FuncId} {fn : Func} {c : Code} {Xs : List DV}
theorem PT.enter {e sz n : Nat} {cs : List DV} {b : Bool} (hf : P.funcs[f]? = some fn) (hb : fn.body = some c) {nt : Nat} (hnt : fn.ntmps = nt) (hn : Nat.ble Xs.length nt = true)
    (h : ∀ w, TC P ⟨w, noK, nt, noM⟩ c (bodyPost P fn fun r w' => ∃ u vs, r = .returned (.tuple #[u, .bool b]) ∧ Below w.heap.size w w' ∧ w'.ownsRow w.heap.size e sz u n vs ∧ (∀ x ∈ vs, x.oneCell' = true) ∧ ∀ K, (∀ b, K b → b < w.heap.size ∨ u.ownBlock = some b) → repL K w' cs vs) (argL Xs) (fun _ => none)) : PT P f Xs e sz n cs b := fun w us hr =>
  calls_enter hf hb hnt (by simpa using hn) (fun b hb => hb.elim) hr (h w)
/-- Read alone, the row is data. -/
theorem PT.pf {e sz n : Nat} {cs : List DV} {b : Bool} (h : PT P f Xs e sz n cs b) : PF P f Xs (.tp [.sl sz n cs, .v (.bool b)]) := fun w us hr =>
  (h w us hr).mono fun r w' ⟨u, vs, h1, h2, h3, h4, h5⟩ => ⟨_, h1, h2, fun K hK => by
    have hK' := fun b hb => Or.inl (b := u.ownBlock = some b) (hK b hb)
    have hl := repL_length (h5 K hK')
    have hy : (DV.sl sz n cs).rep K w' u := by
      unfold DV.rep
      rcases h3.2 with ⟨rfl, rfl⟩ | ⟨g, cap, cur, rfl, hb, hg, hnc, hcm, hcs, htake⟩
      · exact .inl ⟨rfl, rfl, List.eq_nil_of_length_eq_zero (by rw [← hl, h3.1]; simp)⟩
      · refine .inr ⟨g, 0, cap, rfl, hnc, hcm, by rw [← hl, h3.1], .inr ⟨(Array.getElem?_eq_some_iff.1 hg).1, fun x => by have := hK g x; omega⟩, repAt_of_cells (h5 K hK') (fun j u hj => ?_) h4⟩
        have := World.ownsRow.cells h3 (g := g) rfl j u hj
        rwa [addr_add] at this
    unfold DV.rep
    refine ⟨[u, .bool b], rfl, ?_⟩
    unfold repL
    refine ⟨u, _, rfl, hy, ?_⟩
    unfold repL
    refine ⟨_, _, rfl, by unfold DV.rep; rfl, ?_⟩
    unfold repL; rfl⟩
end
theorem owns_nrow {K : Nat → Prop} {w : World} {B e sz n : Nat} {cs : List DV} {u : Value} {us : List Value} (h : w.ownsRow B e sz u n us) (hr : repL K w cs us) (h1 : ∀ x ∈ us, x.oneCell' = true) : (AO.nrow u n e sz cs).rep K w u.ownBlock := by
  obtain ⟨h2, hs⟩ := owns_row h hr h1
  rcases hs with ⟨e0, hu, hn⟩ | ⟨b, c, e0, hu, k1, k2, k3⟩
  · rw [e0] at h2 ⊢
    rcases h2 with ⟨_, q⟩ | ⟨b', _, _, q, _⟩
    · exact .inl ⟨rfl, hu, hn, q⟩
    · cases q
  · rw [e0] at h2 ⊢
    rcases h2 with ⟨q, _⟩ | ⟨b', vs, cap, q, q1, q2, q3, q4, q5, q6⟩
    · cases q
    · cases q
      refine .inr ⟨b, vs, c, rfl, hu, k1, q1, ?_, k2, q4, q5, q6⟩
      rw [k3]; unfold bsz; rw [q1]; simp
/-- An operation whose outcome has a letter. -/
def OTX (P : Program) (C : Cx) (o : Oper) (L : Lo) (Γ : Ga) (L' : Value → Lo) (Γ' : Value → Ga) : Prop :=
  ∀ a w, Reps C L Γ a w → o.wp P a w (fun a' w' => ∃ u, Reps C (L' u) (Γ' u) a' w') (fun _ _ _ => False)
section
variable {P : Program} {C : Cx} {L : Lo} {Γ : Ga} {d : Nat} {ty : TypeId} {pos : String} {af : Array Edge} {gd : Option (Nat × Bool)}
theorem OTX.callt {f : FuncId} {xs : List Operand} {at_ : Array TypeId} {Xs : List DV} {e sz n : Nat} {cs : List DV} {b : Bool} (g : Nat) (hn : Nat.blt d C.n = true) (hg : Γ g = none) (hf : cfn P f = true) (hx : evR L Γ xs = some Xs) (hok : okR L Γ xs) (hc : PT P f Xs e sz n cs b) :
    OTX P C ⟨some d, .call { callee := .value (.func f), args := xs.toArray, argTypes := at_ }, ty, pos, af, gd⟩ L Γ (fun u => upd L d (.d (.tp [.v u, .v (.bool b)]))) (fun u => upd Γ g (.nrow u n e sz cs)) := by
  rintro a w ⟨ρ, h⟩
  unfold Oper.wp
  rw [call_run hf, Oper.upon_enter]
  refine (hc w _ (evR_rep h hx hok)).mono ?_
  rintro r w' ⟨u, vs, rfl, hb, ho, h1, hY⟩
  have hlt := owns_lt ho
  have hge : ∀ b, u.ownBlock = some b → w.heap.size ≤ b := fun b hb => (World.ownsRow.lt ho b hb).1
  have hgr : w.grownBy w' none := ⟨hb.os, hb.tape, hb.output, hb.size, fun k hk _ => hb.block k hk⟩
  obtain ⟨ρ', hr, hρ', hk⟩ := h.gain (g := g) (ob := none) (ob' := u.ownBlock) (o' := .nrow u n e sz cs) (w' := w') (Γ1 := Γ) hg (fun _ _ h _ => h) (fun _ h => h) (fun b g' e => by cases e) (fun b e => by cases e) hgr
    (fun b eb => ⟨.inr (hge b eb), hlt b eb⟩) (by simp) rfl
    (fun K hK hb => owns_nrow (K := K) ho (hY K hb) h1)
  refine ⟨u, ρ', hr.put (by simpa using hn) ?_ (fun g1 hg1 => by simp [AV.id] at hg1)⟩
  show (DV.tp _).rep _ _ _
  unfold DV.rep
  refine ⟨[u, .bool b], rfl, ?_⟩
  unfold repL
  refine ⟨u, _, rfl, by unfold DV.rep; rfl, ?_⟩
  unfold repL
  refine ⟨_, _, rfl, by unfold DV.rep; rfl, ?_⟩
  unfold repL; rfl
end
section
variable {P : Program} [V : Env P] {C : Cx} {Q : Exit → Act → World → Prop} {L L' : Lo} {Γ Γ' : Ga} {p : Pt} {S S' : List Fx} {m' : Nat}
theorem TL.wtx {S : List Fx} {all r : List Oper} {o : Oper} {L2 : Value → Lo} {Γ2 : Value → Ga} (hw : Pl.wt C.n all L o.guard = some true) (h : OTX P C o L Γ L2 Γ2) (k : ∀ u, TE C (Pt.wp P Q S (.o all r)) (L2 u) (Γ2 u)) : TE C (Pt.wp P Q S (.o all (o :: r))) L Γ := fun a w hr => by
  obtain ⟨ρ, hr'⟩ := hr
  show wpList P all.toArray (den P Q S) (o :: r) a w
  unfold wpList
  rw [if_pos (wt_ok hr' hw)]
  exact .inl (wp_weak (h a w ⟨ρ, hr'⟩) (fun a' w' ⟨u, hu⟩ => k u a' w' hu))
/-- One operation whose outcome has a letter. -/
theorem TE.tx (k m : Nat) {all r : List Oper} {o : Oper} {L2 : Value → Lo} {Γ2 : Value → Ga} (h : go P C.n 999 k p S L Γ m = some ⟨.o all (o :: r), S', L', Γ', m'⟩) (hw : wt C.n all L' o.guard = some true) (h2 : OTX P C o L' Γ' L2 Γ2) (w : ∀ u, TE C (Pt.wp P Q S' (.o all r)) (L2 u) (Γ2 u)) : TE C (p.wp P Q S) L Γ := go_ok 999 h (TL.wtx hw h2 w)
/-- A row of one's own and a truth are handed back. -/
theorem TE.retot {fn : Func} {t t2 e sz m g : Nat} {b : Bool} {cs : List DV} {w0 : World} {n : Nat} (hf : fn.results = #[.tmp t, .tmp t2]) (hr : L t = some (.ow g m sz)) (hb : evv L (.tmp t2) = some (.bool b)) (hg : Γ g = some (.row e sz cs)) (hl : cs.length = m * sz) (hsz : 0 < sz) (hp : ∀ X ∈ cs, Pl X) :
    TE ⟨w0, noK, n, noM⟩ (bodyPost P fn (fun r w' => ∃ u vs, r = .returned (.tuple #[u, .bool b]) ∧ Below w0.heap.size w0 w' ∧ w'.ownsRow w0.heap.size e sz u m vs ∧ (∀ x ∈ vs, x.oneCell' = true) ∧ ∀ K, (∀ b, K b → b < w0.heap.size ∨ u.ownBlock = some b) → repL K w' cs vs) .ret) L Γ := fun a w ⟨ρ, h⟩ => by
  obtain ⟨ob, h1, h2⟩ := h.obj g _ hg (by simp)
  obtain ⟨us, k1, k2, k3, k4⟩ := row_owns (B := w0.heap.size) h2 (h.slot t _ hr ob h1) hl hsz (fun b e => h.new g b _ hg (by simp) rfl (by rw [h1, e]))
  have e2 : a.tmps.getD t2 undef = .bool b := evv_slot h hb
  refine ⟨h.df, _, results_run (rs := [.tmp t, .tmp t2]) hf [a.tmps.getD t undef, a.tmps.getD t2 undef] (by simp [List.mapM_cons, oneRes]), _, us, by show Ending.returned (Value.tuple #[a.tmps.getD t undef, a.tmps.getD t2 undef]) = _; rw [e2], h.fr.below noMB, k1, k4, fun K _ => pl_list hp _ _ _ _ _ k2⟩
end
end Go.Proofs.YtdjcclcejmeheaaGreat.Pl
/-
  Proofs that a log begins with another one, neighbours of a leaf.
-/
namespace Go.Proofs.YtdjcclcejmeheaaGreat
set_option linter.unusedVariables false
set_option linter.unusedSimpArgs false
open Go.RowKit Pl
set_option maxRecDepth 100000
set_option maxHeartbeats 3200000
theorem cf16 : cfn Tryz.prog 16 = true := by kernel_rfl
theorem sub_step (N : Nat) (ih : ∀ (l : List H) (m : Nat) (w : Bool), l.length < N → 1 ≤ m → m ≤ l.length → l.length ≤ 1048576 → PO Tryz.prog 50 [slT hdv 32 (l), .v (.int .i64 ((m : Nat) : Int)), .v (.bool w)] 41 32 (subF l m w).length ((subF l m w).flatMap hdv)) (l : List H) (m : Nat) (w : Bool) (hN : l.length ≤ N) (h0 : 1 ≤ m) (hml : m ≤ l.length) (hl : l.length ≤ 1048576) : PO Tryz.prog 50 [slT hdv 32 (l), .v (.int .i64 ((m : Nat) : Int)), .v (.bool w)] 41 32 (subF l m w).length ((subF l m w).flatMap hdv) := by
 refine PO.enter (fn := Tryz.f50) Tryz.func50 rfl Tryz.ntmps50 rfl (fun w0 => .w ?_)
 refine .q 5 1 rfl rfl (fun h1 => ?_) (fun h1 => ?_)
 ·skip
  have hmm : m = l.length := by have q := of_decide_eq_true h1; (try dsimp only at q); omega
  cases w with
  | true =>
   refine .g 3 1 rfl ?_
   refine TE.own0 6 1 41 32 rfl rfl ?_
   rw [show subF l m true = [] by rw [hmm, subF_same (by omega)]; rfl]
   exact .z 0 2 rfl (TE.retof rfl rfl rfl rfl (by decide) pl_nil)
  | false =>
   refine .t 3 2 rfl rfl (.cf (rlog_pf l hl) rfl) ?_
   refine .t 0 2 rfl rfl (.bb ([lroot l].flatMap hdv) 2 rfl) ?_
   rw [show subF l m false = [lroot l] by rw [hmm, subF_same (by omega)]; rfl]
   exact .z 1 3 rfl (TE.retof rfl rfl rfl (flat_length (sz := 32) (enc := hdv) (fun _ => rfl) _) (by decide) (pl_flat pl_h _))
 ·skip
  have hlt : m < l.length := by have q := of_decide_eq_false h1; (try dsimp only at q); omega
  have hs := splitN_two (n := l.length) (by omega)
  have t1 : (l.take (splitN l.length)).length = splitN l.length := by rw [List.length_take]; omega
  have t2 : (l.drop (splitN l.length)).length = l.length - splitN l.length := List.length_drop
  refine .t 2 3 rfl rfl (.cf (rsplit_pf l.length (by omega)) rfl) ?_
  refine .q 4 3 rfl rfl (fun h5 => ?_) (fun h5 => ?_)
  ·skip
   have hk : m ≤ splitN l.length := by have q := of_decide_eq_true h5; (try dsimp only at q); omega
   have c1 := ih (l.take (splitN l.length)) m w (by omega) h0 (by omega) (by omega)
   have c2 : PF Tryz.prog 52 [slT hdv 32 (((l.take l.length).drop (splitN l.length)))] (.ag (hdv (lroot (l.drop (splitN l.length))))) := by rw [List.take_length]; exact rlog_pf _ (by omega)
   have hbig : (subF (l.take (splitN l.length)) m w).length + 1 ≤ 1048578 := by have z : (subF (l.take (splitN l.length)) m w).length ≤ (l.take (splitN l.length)).length + 1 := subF_len _ _ _ _; omega
   refine .d 0 3 rfl ?_
   refine .v 2 3 [] rfl rfl (fun _ _ => .slice rfl rfl rfl rfl rfl et52 (fun _ => rfl) (by omega) (by omega) (by omega)) ?_
   refine .t 2 3 (E := ⟨some (27, _), [(3, _)]⟩) [3] rfl rfl (fun _ _ => .co 3 (c1) rfl) ?_
   refine .v 2 4 [] rfl rfl (fun _ _ => .slice rfl rfl rfl rfl rfl et52 (fun _ => rfl) (by omega) (by omega) (by omega)) ?_
   refine .v 0 4 [] rfl rfl (fun _ _ => .cf (c2) rfl) ?_
   refine .t 0 4 (E := ⟨some (32, _), [(4, .dead)]⟩) [4] rfl rfl (fun _ _ => .letgo (.buildsl (ds := [lroot (l.drop (splitN l.length))].flatMap hdv) 4 rfl rfl rfl ap52 zc41 rfl rfl rfl) rfl rfl) ?_
   refine .t 0 5 (E := ⟨some (33, _), [(3, .dead), (5, _)]⟩) [3, 5] rfl rfl (fun _ _ => .ap 5 rfl (flat_length (sz := 32) (enc := hdv) (fun _ => rfl) _) (flat_one hg_one _) (by show (_ + 1) * _ ≤ _; omega) (by show _ + 1 ≤ _; omega)) ?_
   refine .y 1 6 rfl (by kernel_rfl) ?_
   rw [subF_left h0 hlt hk]
   refine TE.obj 5 (.row 41 32 ((subF (l.take (splitN l.length)) m w ++ [lroot (l.drop (splitN l.length))]).flatMap hdv)) rfl (congrArg (AO.row _ _) (by simp only [List.flatMap_append])) ?_
   refine TE.set 6 (.ow 5 (subF (l.take (splitN l.length)) m w ++ [lroot (l.drop (splitN l.length))]).length 32) rfl (congrArg (fun n => AV.ow _ n 32) (by simp only [List.length_append]; rfl)) ?_
   exact .z 0 6 rfl (TE.retof rfl rfl rfl (flat_length (sz := 32) (enc := hdv) (fun _ => rfl) _) (by decide) (pl_flat pl_h _))
  ·skip
   have hk : ¬ m ≤ splitN l.length := by have q := of_decide_eq_false h5; (try dsimp only at q); omega
   have c1 : PO Tryz.prog 50 [slT hdv 32 (((l.take l.length).drop (splitN l.length))), .v (.int .i64 ((m - splitN l.length : Nat) : Int)), .v (.bool false)] 41 32 (subF (l.drop (splitN l.length)) (m - splitN l.length) false).length ((subF (l.drop (splitN l.length)) (m - splitN l.length) false).flatMap hdv) := by rw [List.take_length]; exact ih (l.drop (splitN l.length)) (m - splitN l.length) false (by omega) (by omega) (by omega) (by omega)
   have c2 := rlog_pf (l.take (splitN l.length)) (by omega)
   have hbig : (subF (l.drop (splitN l.length)) (m - splitN l.length) false).length + 1 ≤ 1048578 := by have z : (subF (l.drop (splitN l.length)) (m - splitN l.length) false).length ≤ (l.drop (splitN l.length)).length + 1 := subF_len _ _ _ _; omega
   refine .d 0 6 rfl ?_
   refine .v 2 6 [] rfl rfl (fun _ _ => .slice rfl rfl rfl rfl rfl et52 (fun _ => rfl) (by omega) (by omega) (by omega)) ?_
   refine .v 2 6 [] rfl rfl (fun _ _ => .bv (.int .i64 ((m - splitN l.length : Nat) : Int)) rfl (congrArg _ (by (try dsimp only); rw [IntKind.wrap_i64]; omega))) ?_
   refine .t 0 6 (E := ⟨some (40, _), [(6, _)]⟩) [6] rfl rfl (fun _ _ => .co 6 (c1) rfl) ?_
   refine .v 2 7 [] rfl rfl (fun _ _ => .slice rfl rfl rfl rfl rfl et52 (fun _ => rfl) (by omega) (by omega) (by omega)) ?_
   refine .v 0 7 [] rfl rfl (fun _ _ => .cf (c2) rfl) ?_
   refine .t 0 7 (E := ⟨some (45, _), [(7, .dead)]⟩) [7] rfl rfl (fun _ _ => .letgo (.buildsl (ds := [lroot (l.take (splitN l.length))].flatMap hdv) 7 rfl rfl rfl ap52 zc41 rfl rfl rfl) rfl rfl) ?_
   refine .t 0 8 (E := ⟨some (46, _), [(6, .dead), (8, _)]⟩) [6, 8] rfl rfl (fun _ _ => .ap 8 rfl (flat_length (sz := 32) (enc := hdv) (fun _ => rfl) _) (flat_one hg_one _) (by show (_ + 1) * _ ≤ _; omega) (by show _ + 1 ≤ _; omega)) ?_
   refine .y 1 9 rfl (by kernel_rfl) ?_
   rw [subF_right h0 hlt hk]
   refine TE.obj 8 (.row 41 32 ((subF (l.drop (splitN l.length)) (m - splitN l.length) false ++ [lroot (l.take (splitN l.length))]).flatMap hdv)) rfl (congrArg (AO.row _ _) (by simp only [List.flatMap_append])) ?_
   refine TE.set 6 (.ow 8 (subF (l.drop (splitN l.length)) (m - splitN l.length) false ++ [lroot (l.take (splitN l.length))]).length 32) rfl (congrArg (fun n => AV.ow _ n 32) (by simp only [List.length_append]; rfl)) ?_
   exact .z 0 9 rfl (TE.retof rfl rfl rfl (flat_length (sz := 32) (enc := hdv) (fun _ => rfl) _) (by decide) (pl_flat pl_h _))
theorem sub_all (N : Nat) : ∀ (l : List H) (m : Nat) (w : Bool), l.length ≤ N → 1 ≤ m → m ≤ l.length → l.length ≤ 1048576 → PO Tryz.prog 50 [slT hdv 32 (l), .v (.int .i64 ((m : Nat) : Int)), .v (.bool w)] 41 32 (subF l m w).length ((subF l m w).flatMap hdv) := by
  induction N with
  | zero => exact sub_step 0 (fun l m w h => absurd h (Nat.not_lt_zero _))
  | succ N ih => exact sub_step (N + 1) (fun l m w h => ih l m w (by omega))
theorem rprove_pc (l : List H) (m : Nat) (hl : l.length ≤ 1048576) (hm : m ≤ 1048576) : PC Tryz.prog 15 [slT hdv 32 (l), .v (.int .i64 ((m : Nat) : Int))] (.tp [slT hdv 32 ((if 1 ≤ m ∧ m ≤ l.length then subF l m true else [])), .v (.bool (decide (1 ≤ m ∧ m ≤ l.length)))]) := by
 refine PC.enter (fn := Tryz.f15) Tryz.func15 rfl Tryz.ntmps15 rfl (fun w0 K0 => .w ?_)
 by_cases g1 : m < 1
 ·skip
  have hb : ¬ (1 ≤ m ∧ m ≤ l.length) := by omega
  refine .t 3 1 rfl rfl (.bv (.bool true) rfl (congrArg Value.bool (decide_eq_true (by omega)))) ?_
  refine .g 9 1 rfl ?_
  rw [if_neg hb, decide_eq_false hb]
  refine TE.sub 4 (slT hdv 32 ([])) rfl rfl (nil_sub _ _) ?_
  exact .z 0 1 rfl (TE.rettc rfl rfl rfl)
 ·skip
  by_cases g2 : l.length < m
  ·skip
   have hb : ¬ (1 ≤ m ∧ m ≤ l.length) := by omega
   refine .t 3 1 rfl rfl (.bv (.bool false) rfl (congrArg Value.bool (decide_eq_false (by omega)))) ?_
   refine .t 4 1 rfl rfl (.bv (.bool true) rfl (congrArg Value.bool (decide_eq_true (by omega)))) ?_
   refine .g 4 1 rfl ?_
   rw [if_neg hb, decide_eq_false hb]
   refine TE.sub 4 (slT hdv 32 ([])) rfl rfl (nil_sub _ _) ?_
   exact .z 0 1 rfl (TE.rettc rfl rfl rfl)
  ·skip
   have hb : 1 ≤ m ∧ m ≤ l.length := by omega
   have c1 := sub_all l.length l m true (Nat.le_refl _) hb.1 hb.2 hl
   refine .t 3 1 rfl rfl (.bv (.bool false) rfl (congrArg Value.bool (decide_eq_false (by omega)))) ?_
   refine .t 4 1 rfl rfl (.bv (.bool false) rfl (congrArg Value.bool (decide_eq_false (by omega)))) ?_
   refine .t 4 1 rfl rfl (.co 1 (c1) rfl) ?_
   refine .g 2 2 rfl ?_
   rw [if_pos hb, decide_eq_true hb]
   refine TE.frz 4 (slT hdv 32 (subF l m true)) rfl rfl (flat_length (sz := 32) (enc := hdv) (fun _ => rfl) _) rfl ?_
   exact .z 0 2 rfl (TE.rettc rfl rfl rfl)
theorem path_step (N : Nat) (ih : ∀ (l : List H) (i : Nat), l.length < N → i < l.length → l.length ≤ 1048576 → PT Tryz.prog 16 [slT hdv 32 (l), .v (.int .i64 ((i : Nat) : Int))] 41 32 (pathF l i).length ((pathF l i).flatMap hdv) true) (l : List H) (i : Nat) (hN : l.length ≤ N) (hi : i < l.length) (hl : l.length ≤ 1048576) : PT Tryz.prog 16 [slT hdv 32 (l), .v (.int .i64 ((i : Nat) : Int))] 41 32 (pathF l i).length ((pathF l i).flatMap hdv) true := by
 refine PT.enter (fn := Tryz.f16) Tryz.func16 rfl Tryz.ntmps16 rfl (fun w0 => .w ?_)
 refine .t 3 1 rfl rfl (.bv (.bool false) rfl (congrArg Value.bool (decide_eq_false (by omega)))) ?_
 refine .t 4 1 rfl rfl (.bv (.bool false) rfl (congrArg Value.bool (decide_eq_false (by omega)))) ?_
 refine .q 5 1 rfl rfl (fun h2 => ?_) (fun h2 => ?_)
 ·skip
  have hl1 : l.length = 1 := by have q := of_decide_eq_true h2; (try dsimp only at q); omega
  refine .g 2 1 rfl ?_
  refine TE.own0 4 1 41 32 rfl rfl ?_
  rw [pathF_one (l := l) (i := i) (by omega)]
  exact .z 0 2 rfl (TE.retot rfl rfl rfl rfl rfl (by decide) pl_nil)
 ·skip
  have hl2 : 2 ≤ l.length := by have q := of_decide_eq_false h2; (try dsimp only at q); omega
  have hs := splitN_two (n := l.length) hl2
  have t1 : (l.take (splitN l.length)).length = splitN l.length := by rw [List.length_take]; omega
  have t2 : (l.drop (splitN l.length)).length = l.length - splitN l.length := List.length_drop
  refine .t 2 2 rfl rfl (.cf (rsplit_pf l.length (by omega)) rfl) ?_
  refine .q 4 2 rfl rfl (fun h3 => ?_) (fun h3 => ?_)
  ·skip
   have hk : i < splitN l.length := by have q := of_decide_eq_true h3; (try dsimp only at q); omega
   have c1 := ih (l.take (splitN l.length)) i (by omega) (by omega) (by omega)
   have c2 : PF Tryz.prog 52 [slT hdv 32 (((l.take l.length).drop (splitN l.length)))] (.ag (hdv (lroot (l.drop (splitN l.length))))) := by rw [List.take_length]; exact rlog_pf _ (by omega)
   have hbig : (pathF (l.take (splitN l.length)) i).length ≤ (l.take (splitN l.length)).length := pathF_len _ _ _
   refine .t 2 2 rfl rfl (.slice rfl rfl rfl rfl rfl et52 (fun _ => rfl) (by omega) (by omega) (by omega)) ?_
   refine .tx 1 2 rfl rfl (.callt 2 rfl rfl cf16 rfl ⟨trivial, trivial, trivial⟩ (c1)) (fun u2 => ?_)
   refine .g 5 3 rfl ?_
   refine TE.asow 7 2 rfl rfl ?_
   refine TE.unn 2 rfl ?_
   refine .t 3 3 rfl rfl (.slice rfl rfl rfl rfl rfl et52 (fun _ => rfl) (by omega) (by omega) (by omega)) ?_
   refine .t 0 3 rfl rfl (.cf (c2) rfl) ?_
   refine .t 0 3 rfl rfl (.letgo (.buildsl (ds := [lroot (l.drop (splitN l.length))].flatMap hdv) 3 rfl rfl rfl ap52 zc41 rfl rfl rfl) rfl rfl) ?_
   refine .t 0 4 rfl rfl (.ap 4 rfl (flat_length (sz := 32) (enc := hdv) (fun _ => rfl) _) (flat_one hg_one _) (by show (_ + 1) * _ ≤ _; omega) (by show _ + 1 ≤ _; omega)) ?_
   refine .g 2 5 rfl ?_
   rw [pathF_left (l := l) (i := i) hl2 hk]
   refine TE.obj 4 (.row 41 32 ((pathF (l.take (splitN l.length)) i ++ [lroot (l.drop (splitN l.length))]).flatMap hdv)) rfl (congrArg (AO.row _ _) (by simp only [List.flatMap_append])) ?_
   refine TE.set 4 (.ow 4 (pathF (l.take (splitN l.length)) i ++ [lroot (l.drop (splitN l.length))]).length 32) rfl (congrArg (fun n => AV.ow _ n 32) (by simp only [List.length_append]; rfl)) ?_
   exact .z 0 5 rfl (TE.retot rfl rfl rfl rfl (flat_length (sz := 32) (enc := hdv) (fun _ => rfl) _) (by decide) (pl_flat pl_h _))
  ·skip
   have hk : ¬ i < splitN l.length := by have q := of_decide_eq_false h3; (try dsimp only at q); omega
   have c1 : PT Tryz.prog 16 [slT hdv 32 (((l.take l.length).drop (splitN l.length))), .v (.int .i64 ((i - splitN l.length : Nat) : Int))] 41 32 (pathF (l.drop (splitN l.length)) (i - splitN l.length)).length ((pathF (l.drop (splitN l.length)) (i - splitN l.length)).flatMap hdv) true := by rw [List.take_length]; exact ih (l.drop (splitN l.length)) (i - splitN l.length) (by omega) (by omega) (by omega)
   have c2 := rlog_pf (l.take (splitN l.length)) (by omega)
   have hbig : (pathF (l.drop (splitN l.length)) (i - splitN l.length)).length ≤ (l.drop (splitN l.length)).length := pathF_len _ _ _
   refine .t 2 5 rfl rfl (.slice rfl rfl rfl rfl rfl et52 (fun _ => rfl) (by omega) (by omega) (by omega)) ?_
   refine .t 2 5 rfl rfl (.bv (.int .i64 ((i - splitN l.length : Nat) : Int)) rfl (congrArg _ (by (try dsimp only); rw [IntKind.wrap_i64]; omega))) ?_
   refine .tx 0 5 rfl rfl (.callt 5 rfl rfl cf16 rfl ⟨trivial, trivial, trivial⟩ (c1)) (fun u5 => ?_)
   refine .g 5 6 rfl ?_
   refine TE.asow 9 5 rfl rfl ?_
   refine TE.unn 5 rfl ?_
   refine .t 3 6 rfl rfl (.slice rfl rfl rfl rfl rfl et52 (fun _ => rfl) (by omega) (by omega) (by omega)) ?_
   refine .t 0 6 rfl rfl (.cf (c2) rfl) ?_
   refine .t 0 6 rfl rfl (.letgo (.buildsl (ds := [lroot (l.take (splitN l.length))].flatMap hdv) 6 rfl rfl rfl ap52 zc41 rfl rfl rfl) rfl rfl) ?_
   refine .t 0 7 rfl rfl (.ap 7 rfl (flat_length (sz := 32) (enc := hdv) (fun _ => rfl) _) (flat_one hg_one _) (by show (_ + 1) * _ ≤ _; omega) (by show _ + 1 ≤ _; omega)) ?_
   refine .g 2 8 rfl ?_
   rw [pathF_right (l := l) (i := i) hl2 hk]
   refine TE.obj 7 (.row 41 32 ((pathF (l.drop (splitN l.length)) (i - splitN l.length) ++ [lroot (l.take (splitN l.length))]).flatMap hdv)) rfl (congrArg (AO.row _ _) (by simp only [List.flatMap_append])) ?_
   refine TE.set 4 (.ow 7 (pathF (l.drop (splitN l.length)) (i - splitN l.length) ++ [lroot (l.take (splitN l.length))]).length 32) rfl (congrArg (fun n => AV.ow _ n 32) (by simp only [List.length_append]; rfl)) ?_
   exact .z 0 8 rfl (TE.retot rfl rfl rfl rfl (flat_length (sz := 32) (enc := hdv) (fun _ => rfl) _) (by decide) (pl_flat pl_h _))
theorem path_all (N : Nat) : ∀ (l : List H) (i : Nat), l.length ≤ N → i < l.length → l.length ≤ 1048576 → PT Tryz.prog 16 [slT hdv 32 (l), .v (.int .i64 ((i : Nat) : Int))] 41 32 (pathF l i).length ((pathF l i).flatMap hdv) true := by
  induction N with
  | zero => exact path_step 0 (fun l i h => absurd h (Nat.not_lt_zero _))
  | succ N ih => exact path_step (N + 1) (fun l i h => ih l i (by omega))
theorem rpath_out (l : List H) (i : Nat) (hi : l.length ≤ i) (hb : i ≤ 1048576) : PC Tryz.prog 16 [slT hdv 32 (l), .v (.int .i64 ((i : Nat) : Int))] (.tp [slT hdv 32 ([]), .v (.bool false)]) := by
 refine PC.enter (fn := Tryz.f16) Tryz.func16 rfl Tryz.ntmps16 rfl (fun w0 K0 => .w ?_)
 refine .t 3 1 rfl rfl (.bv (.bool false) rfl (congrArg Value.bool (decide_eq_false (by omega)))) ?_
 refine .t 4 1 rfl rfl (.bv (.bool true) rfl (congrArg Value.bool (decide_eq_true (by omega)))) ?_
 refine .g 4 1 rfl ?_
 refine TE.sub 4 (slT hdv 32 ([])) rfl rfl (nil_sub _ _) ?_
 exact .z 0 1 rfl (TE.rettc rfl rfl rfl)
theorem rpath_pc (l : List H) (i : Nat) (hl : l.length ≤ 1048576) (hb : i ≤ 1048576) : PC Tryz.prog 16 [slT hdv 32 (l), .v (.int .i64 ((i : Nat) : Int))] (.tp [slT hdv 32 ((if i < (l).length then pathF (l) (i) else [])), .v (.bool (decide (i < l.length)))]) := by
  by_cases h : i < l.length
  · rw [if_pos h, decide_eq_true h]; exact (path_all l.length l i (Nat.le_refl _) h hl).pf.pc
  · rw [if_neg h, decide_eq_false h]; exact rpath_out l i (by omega) hb
end Go.Proofs.YtdjcclcejmeheaaGreat

