import Derived.Test.YtdjcclcejmeheaaGreatZIf
import Derived.Test.YtdjcclcejmeheaaGreatZEv
import Derived.Test.YtdjcclcejmeheaaGreatZQ4
import Derived.RangeFuncBox
import Derived.RangeFuncLeaves
import Derived.RangeFuncCalls
import Derived.TacticsIn
import Derived.OrdersIn
/-
  The program's Add.
-/
namespace Go.Proofs.YtdjcclcejmeheaaGreat
set_option linter.unusedVariables false
set_option linter.unusedSimpArgs false
open Go.RowKit Pl
set_option maxRecDepth 100000
set_option maxHeartbeats 3200000
end Go.Proofs.YtdjcclcejmeheaaGreat
/-
  Items of both directories.
-/
namespace Go.Proofs.YtdjcclcejmeheaaGreat
set_option linter.unusedVariables false
set_option linter.unusedSimpArgs false
open Go.RowKit Pl
set_option maxRecDepth 100000
set_option maxHeartbeats 3200000
theorem cf96 : cfn Tryz.prog 96 = true := by kernel_rfl
/-- The items that an epoch shows. -/
def itsK (ep : Int) (l : List Kn) : List It := (l.filter (fun k => decide (k.ep ≤ ep))).map (fun k => itemI k.nm k.ver k.key)
theorem itsK_yes {ep : Int} {l : List Kn} {i : Nat} (h : i < l.length) (hy : l[i].ep ≤ ep) : itsK ep (l.take (i + 1)) = itsK ep (l.take i) ++ [itemI l[i].nm l[i].ver l[i].key] := by
  unfold itsK; rw [take_snoc' h, List.filter_append, List.map_append]; simp [hy]
theorem itsK_no {ep : Int} {l : List Kn} {i : Nat} (h : i < l.length) (hy : ¬ l[i].ep ≤ ep) : itsK ep (l.take (i + 1)) = itsK ep (l.take i) := by
  unfold itsK; rw [take_snoc' h, List.filter_append, List.map_append]; simp [hy]
theorem itsK_le (ep : Int) (l : List Kn) : (itsK ep l).length ≤ l.length := by
  unfold itsK; rw [List.length_map]; exact List.length_filter_le _ _
theorem itsK_take (ep : Int) (l : List Kn) (i : Nat) : (itsK ep (l.take i)).length ≤ l.length := Nat.le_trans (itsK_le _ _) (by rw [List.length_take]; omega)
/-- Knowledge that can be hashed. -/
def knIn (l : List Kn) : Prop := ∀ k ∈ l, k.nm.length ≤ 1048576 ∧ 0 ≤ k.key ∧ k.key < 18446744073709551616
theorem ritems_pf (l : List Kn) (ep : Int) (hl : l.length ≤ 1048576) (hk : knIn l) : PF Tryz.prog 44 [slT Kn.dv 4 l, .v (.int .i64 ep)] (slT It.dv 64 (setR (itsK ep l) [])) := by
 have hle0 := itsK_le ep l
 refine PF.enter (fn := Tryz.f44) Tryz.func44 rfl Tryz.ntmps44 rfl (fun w0 => .w ?_)
 refine .g 2 1 rfl ?_
 refine TE.own0 5 1 79 64 rfl rfl ?_
 refine .g 1 2 rfl ?_
 refine TE.setv 6 (.int .i64 ((0 : Nat) : Int)) rfl (congrArg _ (by first | rfl | (dsimp only; first | done | rfl | omega))) ?_
 refine TE.set 5 (.ow 1 (itsK ep (l.take (0))).length 64) rfl rfl ?_
 refine TE.obj 1 (.row 79 64 ((itsK ep (l.take (0))).flatMap It.dv)) rfl rfl ?_
 refine .lo (T := Nat) 0 2 rfl (fun i => i ≤ l.length) (fun i => l.length - i) [0, 1] [] (fun i => [(5, .ow 1 (itsK ep (l.take (i))).length 64), (6, .d (.v (.int .i64 ((i : Nat) : Int))))]) (fun i => [(1, .row 79 64 ((itsK ep (l.take (i))).flatMap It.dv))]) (0) rfl rfl (Nat.zero_le _) rfl rfl rfl (fun i hI => ?_)
 refine .q 4 2 rfl rfl (fun h1 => ?_) (fun h1 => ?_)
 ·skip
  have hi : i < l.length := by have q := of_decide_eq_true h1; (try dsimp only at q); omega
  have hin := hk l[i] (List.getElem_mem hi)
  have hle := itsK_take ep l i
  refine .t 2 2 rfl rfl (.idx (l[i]) rfl rfl rfl rfl et27 (fun _ => rfl) (Int.natCast_nonneg i) (get_nat hi)) ?_
  refine .q 4 2 rfl rfl (fun h2 => ?_) (fun h2 => ?_)
  ·skip
   have hy : l[i].ep ≤ ep := of_decide_eq_true h2
   refine .t 3 2 rfl rfl (.idx (l[i]) rfl rfl rfl rfl et27 (fun _ => rfl) (Int.natCast_nonneg i) (get_nat hi)) ?_
   refine .t 1 2 rfl rfl (.lm (entD l[i].nm l[i].ver l[i].key) rfl) ?_
   refine .t 0 2 rfl rfl (.cf (ritem_pf l[i].nm l[i].ver l[i].key hin.1 hin.2.1 hin.2.2) rfl) ?_
   refine .t 0 2 rfl rfl (.bb ((itemI l[i].nm l[i].ver l[i].key).dv) 2 rfl) ?_
   refine .t 0 3 rfl rfl (.ap 3 rfl (it_flat _) (it_one _) (by omega) (by omega)) ?_
   refine .t 2 4 rfl rfl (.bv (.int .i64 ((i + 1 : Nat) : Int)) rfl (congrArg _ (by (try dsimp only); rw [IntKind.wrap_i64]; omega))) ?_
   refine .g 1 4 rfl ?_
   refine TE.set 5 (.ow 3 (itsK ep (l.take (i + 1))).length 64) rfl (by rw [itsK_yes hi hy]; simp) ?_
   refine TE.obj 3 (.row 79 64 ((itsK ep (l.take (i + 1))).flatMap It.dv)) rfl (by rw [itsK_yes hi hy]; simp [List.flatMap_append]) ?_
   refine TE.setv 6 (.int .i64 ((i + 1 : Nat) : Int)) rfl (congrArg _ (by first | rfl | (dsimp only; first | done | rfl | omega))) ?_
   exact .rd 0 4 (swp 1 3) (swp_inj 1 3) rfl (i + 1) (by omega) (by omega) rfl rfl rfl
  ·skip
   have hno : ¬ l[i].ep ≤ ep := of_decide_eq_false h2
   refine .t 1 4 rfl rfl (.bv (.int .i64 ((i + 1 : Nat) : Int)) rfl (congrArg _ (by (try dsimp only); rw [IntKind.wrap_i64]; omega))) ?_
   refine .g 1 4 rfl ?_
   refine TE.set 5 (.ow 1 (itsK ep (l.take (i + 1))).length 64) rfl (by rw [itsK_no hi hno]) ?_
   refine TE.obj 1 (.row 79 64 ((itsK ep (l.take (i + 1))).flatMap It.dv)) rfl (by rw [itsK_no hi hno]) ?_
   refine TE.setv 6 (.int .i64 ((i + 1 : Nat) : Int)) rfl (congrArg _ (by first | rfl | (dsimp only; first | done | rfl | omega))) ?_
   exact .rd 0 4 id (fun _ _ e => e) rfl (i + 1) (by omega) (by omega) rfl rfl rfl
 ·skip
  have hi : ¬ (i < l.length) := by have q := of_decide_eq_false h1; (try dsimp only at q); omega
  have e : itsK ep l = itsK ep (l.take (i)) := by rw [List.take_of_length_le (by omega)]
  rw [← e]
  refine .t 1 4 rfl rfl (.callf rfl cf96 rfl ⟨okA_len rfl (it_flat _), trivial, trivial⟩ (.nil2 (PO.pf (rset_po (itsK ep l) [] (by simp; omega))))) ?_
  exact .z 1 4 rfl (TE.retf rfl rfl rfl trivial)
end Go.Proofs.YtdjcclcejmeheaaGreat
/-
  The seat's names and entries.
-/
namespace Go.Proofs.YtdjcclcejmeheaaGreat
set_option linter.unusedVariables false
set_option linter.unusedSimpArgs false
open Go.RowKit Pl
set_option maxRecDepth 100000
set_option maxHeartbeats 3200000
theorem name_pf (b : UInt8) : PF Tryz.prog 23 [.v (.int .u8 ((b.toNat : Nat) : Int))] (.v (strV (nameL ((b.toNat : Nat) : Int)))) := by
 refine PF.enter (fn := Tryz.f23) Tryz.func23 rfl Tryz.ntmps23 rfl (fun w0 => .w ?_)
 by_cases n0 : b.toNat % 6 = 0
 ·skip
  have e : nameL ((b.toNat : Nat) : Int) = [97] := by unfold nameL; rw [if_pos (by omega)]
  refine .t 1 1 rfl rfl (.ba 1 rfl) ?_
  refine .t 1 2 rfl rfl (.rem (0) rfl rfl rfl (by decide) (by rw [Int.tmod_eq_emod_of_nonneg (by omega)]; omega)) ?_
  refine .t 0 2 rfl rfl (.ixo rfl (by decide) (by decide)) ?_
  rw [e]
  exact .z 2 2 rfl (TE.retf rfl rfl rfl (pl_v _))
 ·skip
  by_cases n1 : b.toNat % 6 = 1
  ·skip
   have e : nameL ((b.toNat : Nat) : Int) = [98] := by unfold nameL; rw [if_neg (by omega), if_pos (by omega)]
   refine .t 1 1 rfl rfl (.ba 2 rfl) ?_
   refine .t 1 3 rfl rfl (.rem (1) rfl rfl rfl (by decide) (by rw [Int.tmod_eq_emod_of_nonneg (by omega)]; omega)) ?_
   refine .t 0 3 rfl rfl (.ixo rfl (by decide) (by decide)) ?_
   rw [e]
   exact .z 2 3 rfl (TE.retf rfl rfl rfl (pl_v _))
  ·skip
   by_cases n2 : b.toNat % 6 = 2
   ·skip
    have e : nameL ((b.toNat : Nat) : Int) = [97, 110, 110] := by unfold nameL; rw [if_neg (by omega), if_neg (by omega), if_pos (by omega)]
    refine .t 1 1 rfl rfl (.ba 3 rfl) ?_
    refine .t 1 4 rfl rfl (.rem (2) rfl rfl rfl (by decide) (by rw [Int.tmod_eq_emod_of_nonneg (by omega)]; omega)) ?_
    refine .t 0 4 rfl rfl (.ixo rfl (by decide) (by decide)) ?_
    rw [e]
    exact .z 2 4 rfl (TE.retf rfl rfl rfl (pl_v _))
   ·skip
    by_cases n3 : b.toNat % 6 = 3
    ·skip
     have e : nameL ((b.toNat : Nat) : Int) = [98, 111, 98] := by unfold nameL; rw [if_neg (by omega), if_neg (by omega), if_neg (by omega), if_pos (by omega)]
     refine .t 1 1 rfl rfl (.ba 4 rfl) ?_
     refine .t 1 5 rfl rfl (.rem (3) rfl rfl rfl (by decide) (by rw [Int.tmod_eq_emod_of_nonneg (by omega)]; omega)) ?_
     refine .t 0 5 rfl rfl (.ixo rfl (by decide) (by decide)) ?_
     rw [e]
     exact .z 2 5 rfl (TE.retf rfl rfl rfl (pl_v _))
    ·skip
     by_cases n4 : b.toNat % 6 = 4
     ·skip
      have e : nameL ((b.toNat : Nat) : Int) = [195, 169] := by unfold nameL; rw [if_neg (by omega), if_neg (by omega), if_neg (by omega), if_neg (by omega), if_pos (by omega)]
      refine .t 1 1 rfl rfl (.ba 5 rfl) ?_
      refine .t 1 6 rfl rfl (.rem (4) rfl rfl rfl (by decide) (by rw [Int.tmod_eq_emod_of_nonneg (by omega)]; omega)) ?_
      refine .t 0 6 rfl rfl (.ixo rfl (by decide) (by decide)) ?_
      rw [e]
      exact .z 2 6 rfl (TE.retf rfl rfl rfl (pl_v _))
     ·skip
      have e : nameL ((b.toNat : Nat) : Int) = [48, 49, 50, 51, 52, 53, 54, 55, 56, 57, 48, 49, 50, 51, 52, 53, 54, 55, 56, 57, 48, 49, 50, 51, 52, 53, 54, 55, 56, 57, 48, 122] := by unfold nameL; rw [if_neg (by omega), if_neg (by omega), if_neg (by omega), if_neg (by omega), if_neg (by omega)]
      refine .t 1 1 rfl rfl (.ba 6 rfl) ?_
      refine .t 1 7 rfl rfl (.rem (5) rfl rfl rfl (by decide) (by rw [Int.tmod_eq_emod_of_nonneg (by omega)]; omega)) ?_
      refine .t 0 7 rfl rfl (.ixo rfl (by decide) (by decide)) ?_
      rw [e]
      exact .z 2 7 rfl (TE.retf rfl rfl rfl (pl_v _))
/-- The seat's entries. -/
def keyE (b : UInt8) (v : Int) : Int := IntKind.u64.wrap (IntKind.u64.wrap (IntKind.u64.wrap (IntKind.u64.wrap v * 1000) + ((b.toNat : Nat) : Int)) + 1)
def seatE (b : UInt8) (v : Int) : En := ⟨nameL ((b.toNat : Nat) : Int), v, keyE b v⟩
theorem entry_pf (b : UInt8) (v : Int) : PF Tryz.prog 21 [.v (.int .u8 ((b.toNat : Nat) : Int)), .v (.int .i64 v)] (.ag (seatE b v).dv) := by
 refine PF.enter (fn := Tryz.f21) Tryz.func21 rfl Tryz.ntmps21 rfl (fun w0 => .w ?_)
 refine .t 2 1 rfl rfl (.cf (name_pf b) rfl) ?_
 refine .t 2 2 rfl rfl (.cv (IntKind.u64.wrap v) rfl (rfl)) ?_
 refine .t 2 2 rfl rfl (.cv (((b.toNat : Nat) : Int)) rfl (by rw [IntKind.wrap_u64]; have := b.toNat_lt; omega)) ?_
 refine .t 2 2 rfl rfl (.bd ((seatE b v).dv) rfl) ?_
 exact .z 1 2 rfl (TE.retf rfl rfl rfl (pl_ag (pl_en _)))
end Go.Proofs.YtdjcclcejmeheaaGreat
/-
  A logic of walks: what is walked without a fence is walked in a round's frame too; slots that a code leaves alone; deferred calls that lie by.
-/
namespace Go.Proofs.YtdjcclcejmeheaaGreat.Pl
set_option linter.unusedVariables false
set_option linter.unusedSimpArgs false
open Go.RowKit
/-- A fence that lets everything in. -/
structure OpenF (F : Fence) : Prop where
  fn : ∀ f, F.fn f
  dep : F.depth = none
  calls : ∀ {n : Nat} {P : Program} {f : FuncId} {args : Array Value} {w : World} {R : Ending → World → Prop}, Calls P f args w R → CallsIn F n P f args w R
  rows : ∀ {n : Nat} {P : Program} {row : String} {args : Array Value} {w : World} {R : Value → World → Prop}, Rows P row args w R → RowsIn F n P row args w R
theorem open_wide : OpenF Fence.wide := ⟨fun _ => trivial, rfl, fun h => callsIn_wide.2 h, fun h c cs _ => let ⟨v, w', r, s⟩ := h c cs; ⟨v, w', r, stepsIn_wide.2 s⟩⟩
theorem open_round (l : Nat) : OpenF (Fence.wide.inRound l) := ⟨fun _ => trivial, rfl, fun h => CallsIn.inRound l (callsIn_wide.2 h), fun h => open_wide.rows h⟩
/-- How a piece of code is walked: the fence, the slots that it leaves alone and their values, what is deferred. -/
structure Fm where
  F : Fence
  n : Nat
  T : List Nat
  v : Nat → Value
  ds : List Deferred
def Fr (M : Fm) (a : Act) : Prop := ∀ t ∈ M.T, a.tmps.getD t undef = M.v t
def okOp (T : List Nat) (o : Oper) : Bool := (match o.dst with | some d => !(mem T d) | none => true) && (match o.op with | .defer _ => false | _ => true)
theorem okOp_defer {T : List Nat} {o : Oper} (h : okOp T o = true) : ∀ c, o.op ≠ .defer c := fun c e => by
  unfold okOp at h; rw [e] at h; simp at h
theorem fr_put {M : Fm} {a : Act} {o : Oper} (h : Fr M a) (ho : okOp M.T o = true) (v : Value) : Fr M (a.put o.dst v) := by
  intro t ht
  unfold okOp at ho
  simp only [Bool.and_eq_true] at ho
  cases hd : o.dst with
  | none => exact h t ht
  | some d =>
    rw [hd] at ho
    have hne : t ≠ d := fun e => by
      subst e
      have := mem_iff.2 ht
      simp [this] at ho
    simp only [Act.put, Array.getD_eq_getD_getElem?]
    rw [Array.getElem?_setIfInBounds_ne (Ne.symm hne), ← Array.getD_eq_getD_getElem?]
    exact h t ht
theorem put_ds (a : Act) (ds : List Deferred) (d : Option Nat) (v : Value) : ({ a with defers := ds } : Act).put d v = { a.put d v with defers := ds } := by cases d <;> rfl
section
variable {P : Program} {M : Fm}
theorem put_def (a : Act) (d : Option Nat) (v : Value) : (a.put d v).defers = a.defers := by cases d <;> rfl
theorem wp_next {o : Oper} {a : Act} {w : World} {N : Act → World → Prop} (h : o.wp P a w N (fun _ _ _ => False)) : ∃ a' w', N a' w' ∧ (a'.defers = [] → a.defers = []) := by
  unfold Oper.wp at h
  generalize (execOp a.eval o).run P w = r at h
  cases r with
  | ok x w' =>
    cases x <;> simp only [Oper.upon] at h
    case value v => exact ⟨_, _, h, fun e => by rw [put_def] at e; exact e⟩
    case skip => exact ⟨_, _, h, fun e => by rw [put_def] at e; exact e⟩
    case defer d => exact ⟨_, _, h, fun e => by rw [put_def] at e; cases e⟩
    case enter f args =>
      obtain ⟨e, w'', fr, hr, _⟩ := h []
      cases e with
      | returned v => exact ⟨_, _, hr, fun e => by rw [put_def] at e; exact e⟩
      | panicked c => exact hr.elim
      | outgrown => exact hr.elim fun _ q => q.elim fun _ q => q.elim
    case row r args =>
      obtain ⟨v, w'', hr, _⟩ := h default []
      exact ⟨_, _, hr, fun e => by rw [put_def] at e; exact e⟩
  | halt x w' => cases x <;> simp only [Oper.upon] at h
theorem op_in {o : Oper} {a : Act} {w : World} {N N' : Act → World → Prop} {E' : Exit → Act → World → Prop} (hF : OpenF M.F) (ho : okOp M.T o = true) (hfr : Fr M a) (h : o.wp P a w N (fun _ _ _ => False)) (hd : ∀ a' w', N a' w' → a'.defers = []) (hN : ∀ a' w', N a' w' → Fr M a' → N' { a' with defers := M.ds } w') :
    o.wpIn M.F M.n P { a with defers := M.ds } w N' E' := by
  refine ⟨fun f _ => hF.fn f, ?_⟩
  rw [Oper.semAt_eq _ _ _ (okOp_defer ho)]
  show o.uponIn M.F M.n P { a with defers := M.ds } N' E' ((execOp a.eval o).run P w)
  unfold Oper.wp at h
  generalize (execOp a.eval o).run P w = r at h
  have hdep : M.F.depth.isSome = true → 1 ≤ M.n := fun e => by rw [hF.dep] at e; cases e
  cases r with
  | ok x w' =>
    cases x <;> simp only [Oper.upon] at h <;> simp only [Oper.uponIn]
    case value v => rw [put_ds]; exact hN _ _ h (fr_put hfr ho _)
    case skip => rw [put_ds]; exact hN _ _ h (fr_put hfr ho _)
    case defer d =>
      have := hd _ _ h
      rw [put_def] at this; cases this
    case enter f args =>
      refine ⟨hdep, hF.calls (h.mono fun e w'' hr => ?_)⟩
      cases e with
      | returned v => show N' _ _; rw [put_ds]; exact hN _ _ hr (fr_put hfr ho _)
      | panicked c => exact hr.elim
      | outgrown => exact hr.elim fun _ q => q.elim fun _ q => q.elim
    case row r args =>
      refine ⟨hdep, hF.rows (h.mono fun v w'' hr => ?_)⟩
      rw [put_ds]; exact hN _ _ hr (fr_put hfr ho _)
  | halt x w' => cases x <;> simp only [Oper.upon] at h
def okOps (T : List Nat) (l : List Oper) : Bool := l.all (okOp T)
/-- What a region ends in. -/
def QF (M : Fm) (Q : Exit → Act → World → Prop) : Exit → Act → World → Prop
  | .normal, a, w => a.defers = [] ∧ (Fr M a → Q .normal { a with defers := M.ds } w)
  | _, _, _ => False
theorem qf_none {Q : Exit → Act → World → Prop} : ¬ LetsOut (QF M Q) := fun ⟨_, _, h⟩ => h
theorem qf_weak {Q : Exit → Act → World → Prop} {o : Oper} {a : Act} {w : World} {N : Act → World → Prop} (h : o.wp P a w N (QF M Q)) : o.wp P a w N (fun _ _ _ => False) := by
  unfold Oper.wp at h ⊢
  generalize (execOp a.eval o).run P w = r at h
  cases r with
  | ok x w' =>
    cases x <;> simp only [Oper.upon] at h ⊢
    case enter f args =>
      exact h.mono fun e w'' hr => by
        cases e with
        | returned v => exact hr
        | panicked c => exact hr.elim
        | outgrown => exact (qf_none hr).elim
    all_goals exact h
  | halt x w' => cases x <;> simp only [Oper.upon] at h ⊢ <;> exact h
theorem list_def {Q : Exit → Act → World → Prop} {ops : Array Oper} : ∀ (l : List Oper) (a : Act) (w : World), wpList P ops (QF M Q) l a w → a.defers = []
  | [], a, w, h => by simp only [wpList, QF] at h; exact h.1
  | o :: r, a, w, h => by
    unfold wpList at h
    split at h
    · rcases h with h | ⟨_, h⟩
      · obtain ⟨a', w', h1, h2⟩ := wp_next (qf_weak h)
        exact h2 (list_def r a' w' h1)
      · exact (qf_none h).elim
    · have := list_def r _ w h
      rwa [put_def] at this
theorem wanted_ds (o : Oper) (ops : Array Oper) (a : Act) (ds : List Deferred) : Region.wanted o (yielded ops ({ a with defers := ds } : Act).tmps) = Region.wanted o (yielded ops a.tmps) := rfl
theorem list_in {Q : Exit → Act → World → Prop} {ops : Array Oper} (hF : OpenF M.F) : ∀ (l : List Oper) (a : Act) (w : World), okOps M.T l = true → Fr M a → wpList P ops (QF M Q) l a w → wpListIn M.F M.n P ops Q l { a with defers := M.ds } w
  | [], a, w, _, hfr, h => by simp only [wpList, QF] at h; exact h.2 hfr
  | o :: r, a, w, ho, hfr, h => by
    simp only [okOps, List.all_cons, Bool.and_eq_true] at ho
    unfold wpList at h
    unfold wpListIn
    rw [wanted_ds]
    split at h
    · rename_i hw
      rw [if_pos hw]
      rcases h with h | ⟨_, h⟩
      · exact op_in hF ho.1 hfr (qf_weak h) (fun a' w' hn => list_def r a' w' hn) (fun a' w' hn hf => list_in hF r a' w' ho.2 hf hn)
      · exact (qf_none h).elim
    · rename_i hw
      rw [if_neg hw, put_ds]
      exact ⟨fun f _ => hF.fn f, list_in hF r _ w ho.2 (fr_put hfr ho.1 _) h⟩
theorem op_weak {Q : Exit → Act → World → Prop} {ops : Array Oper} {i : Nat} {K : Act → World → Prop} {a : Act} {w : World} {o : Oper} (ho : ops[i]? = some o) (h : wpOp P ops (QF M Q) i K a w) : if Region.wanted o (yielded ops a.tmps) then o.wp P a w K (fun _ _ _ => False) else K (a.put o.dst undef) w := by
  unfold wpOp at h
  simp only [ho] at h
  split
  · rename_i hw
    rw [if_pos hw] at h
    rcases h with h | ⟨_, h⟩
    · exact qf_weak h
    · exact (qf_none h).elim
  · rename_i hw
    rw [if_neg hw] at h; exact h
theorem any_def {Q : Exit → Act → World → Prop} {ops : Array Oper} {md : Region.Mode} : ∀ (fuel : Nat) (listed : Array Bool) (a : Act) (w : World), wpAny P md ops (QF M Q) fuel listed a w → a.defers = []
  | 0, listed, a, w, h => by simp only [wpAny, QF] at h; exact h.2.1
  | fuel + 1, listed, a, w, h => by
    unfold wpAny at h
    cases hr : Region.ready md ops listed with
    | nil => have := h.1 hr; simp only [QF] at this; exact this.1
    | cons i r =>
      have h := h.2 i (by rw [hr]; simp)
      cases ho : ops[i]? with
      | none =>
        unfold wpOp at h
        simp only [ho] at h
        exact any_def fuel _ a w h
      | some o =>
        have h := op_weak ho h
        split at h
        · obtain ⟨a', w', h1, h2⟩ := wp_next h
          exact h2 (any_def fuel _ a' w' h1)
        · have := any_def fuel _ _ w h
          rwa [put_def] at this
theorem any_in {Q : Exit → Act → World → Prop} {ops : Array Oper} {md : Region.Mode} (hF : OpenF M.F) (hops : ∀ (i : Nat) (o : Oper), ops[i]? = some o → okOp M.T o = true) : ∀ (fuel : Nat) (listed : Array Bool) (a : Act) (w : World), Fr M a → wpAny P md ops (QF M Q) fuel listed a w → wpAnyIn M.F M.n P md ops Q fuel listed { a with defers := M.ds } w
  | 0, listed, a, w, hfr, h => by simp only [wpAny, QF] at h; exact ⟨h.1, h.2.2 hfr⟩
  | fuel + 1, listed, a, w, hfr, h => by
    unfold wpAny at h
    refine ⟨fun hr => (h.1 hr).2 hfr, fun i hi => ?_⟩
    have h := h.2 i hi
    unfold wpOpIn
    cases ho : ops[i]? with
    | none =>
      unfold wpOp at h
      simp only [ho] at h ⊢
      exact any_in hF hops fuel _ a w hfr h
    | some o =>
      have h := op_weak ho h
      simp only []
      rw [wanted_ds]
      split at h
      · rename_i hw
        rw [if_pos hw]
        exact op_in hF (hops i o ho) hfr h (fun a' w' hn => any_def fuel _ a' w' hn) (fun a' w' hn hf => any_in hF hops fuel _ a' w' hf hn)
      · rename_i hw
        rw [if_neg hw, put_ds]
        exact ⟨fun f _ => hF.fn f, any_in hF hops fuel _ _ w (fr_put hfr (hops i o ho) _) h⟩
end
def TCF (M : Fm) (P : Program) (C : Cx) (c : Code) (Q : Exit → Act → World → Prop) (L : Lo) (Γ : Ga) : Prop := OpenF M.F ∧ ∀ a w, Reps C L Γ a w → Fr M a → c.wpIn M.F M.n P Q { a with defers := M.ds } w
section
variable {P : Program} {C : Cx} {M : Fm} {Q : Exit → Act → World → Prop} {L : Lo} {Γ : Ga}
theorem reps_def {a : Act} {w : World} (h : Reps C L Γ a w) : a.defers = [] := h.elim fun ρ h => h.df
theorem TCF.region {id : Nat} {l : List Oper} (hF : OpenF M.F) (hok : okOps M.T l = true) (h : TL P C l.toArray (QF M Q) l L Γ) : TCF M P C (.region id l.toArray false) Q L Γ := ⟨hF, fun a w hr hf => wpIn_region_lit (list_in hF l a w hok hf (h a w hr))⟩
theorem TCF.draw {id : Nat} {l : List Oper} (hF : OpenF M.F) (hok' : okOps M.T l = true) (hm : P.follows .mixedOrders = true) (rs : List Ro) (hl : l = rs.map (·.o)) (hobs : Obs P C l.toArray rs L Γ) (hok : drawOK rs = true) (hend : TE C (QF M Q .normal) (stL rs L) (stG rs Γ)) :
    TCF M P C (.region id l.toArray true) Q L Γ := ⟨hF, fun a w hr hf => by
  refine wpIn_region_any hm (any_in hF (fun i o ho => ?_) _ _ a _ hf ?_)
  · unfold okOps at hok'
    rw [List.all_eq_true] at hok'
    exact hok' o (List.mem_of_getElem? (by simpa using ho))
  refine draw_sound (by rw [hl]) hok hobs hend _ _ a _ (by rw [hl]; simp) ?_ (fun j o _ hj => ?_) ?_
  · have : ∀ n, cnt (List.replicate n false) = n := fun n => by induction n with
      | zero => rfl
      | succ n ih => rw [List.replicate_succ]; simp only [cnt, ih, cond_false]; omega
    simp [this]
  · rw [Array.getD_eq_getD_getElem?, Array.getElem?_replicate] at hj
    split at hj <;> simp at hj
  · have h0 : (fun i => (Array.replicate l.toArray.size false).getD i false) = fun _ => false := by
      funext i
      rw [Array.getD_eq_getD_getElem?, Array.getElem?_replicate]
      split <;> rfl
    rw [h0, mL_none, mG_none]
    exact reps_drawn hr⟩
theorem TCF.seq {x y : Code} (h : TCF M P C x (Exit.then (fun a w => y.wpIn M.F M.n P Q a w) Q) L Γ) : TCF M P C (.seq x y) Q L Γ := ⟨h.1, fun a w hr hf => wpIn_seq (h.2 a w hr hf)⟩
theorem TE.nextF {y : Code} (h : TCF M P C y Q L Γ) : TE C (QF M (Exit.then (fun a w => y.wpIn M.F M.n P Q a w) Q) .normal) L Γ := fun a w hr => ⟨reps_def hr, fun hf => h.2 a w hr hf⟩
theorem TCF.cond {c : Operand} {x y : Code} {b : Bool} (hF : OpenF M.F) (hc : evv L c = some (.bool b)) (h1 : b = true → TCF M P C x Q L Γ) (h2 : b = false → TCF M P C y Q L Γ) : TCF M P C (.cond c x y) Q L Γ := ⟨hF, fun a w hr hf => by
  obtain ⟨ρ, hr'⟩ := hr
  exact wpIn_cond_split (t := b) (evv_eval hr' hc) (fun e => (h1 e).2 a w ⟨ρ, hr'⟩ hf) (fun e => (h2 e).2 a w ⟨ρ, hr'⟩ hf)⟩
theorem TCF.block {id : Nat} {c : Code} (h : TCF M P C c (Exit.inBlock id Q) L Γ) : TCF M P C (.block id c) Q L Γ := ⟨h.1, fun a w hr hf => wpIn_block (h.2 a w hr hf)⟩
theorem TE.blkF {i : Nat} (h : TE C (QF M Q .normal) L Γ) : TE C (QF M (Exit.inBlock i Q) .normal) L Γ := h
theorem TCF.skip (hF : OpenF M.F) (h : TE C (QF M Q .normal) L Γ) : TCF M P C .skip Q L Γ := ⟨hF, fun a w hr hf => wpIn_skip ((h a w hr).2 hf)⟩
theorem TCF.ret (hF : OpenF M.F) (h : TE C (fun a w => Fr M a → Q .ret { a with defers := M.ds } w) L Γ) : TCF M P C .ret Q L Γ := ⟨hF, fun a w hr hf => wpIn_ret (h a w hr hf)⟩
end
end Go.Proofs.YtdjcclcejmeheaaGreat.Pl

