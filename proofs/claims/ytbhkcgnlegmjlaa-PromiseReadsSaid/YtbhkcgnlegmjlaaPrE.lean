/-
  Promises are compared; the seat's Entry.
-/
import Derived.Test.YtbhkcgnlegmjlaaPrC
import Derived.Test.YtbhkcgnlegmjlaaUpE
import Derived.Test.YtbhkcgnlegmjlaaUpS
namespace Go.Proofs.Ytbhkcgnlegmjlaa
set_option linter.unusedVariables false
set_option linter.unusedSimpArgs false
open Go.RowKit

theorem keys_ent2 (n : List UInt8) (v k : Int) (hn : n.length ≤ 1048576) (hv : isI64 v) (hk : isU64 k) : ∃ la, Try.prog.keyLits 2 27 (entCells n v k) = some la := by
  have hi : Try.prog.cellsOf 3 = 1 := by kernel_rfl
  have hj : Try.prog.cellsOf 25 = 1 := by kernel_rfl
  have hs : Try.prog.cellsOf 9 = 1 := by kernel_rfl
  have e0 : ((entCells n v k).drop 0).take 1 = [.string ⟨n.toArray⟩] := rfl
  have e1 : ((entCells n v k).drop 1).take 1 = [.int .i64 v] := rfl
  have e2 : ((entCells n v k).drop 2).take 1 = [.int .u64 k] := rfl
  have hl : (entCells n v k).length = 3 := rfl
  unfold Program.keyLits
  rw [Try.underlying27]
  simp only [ent_cells, hl]
  rw [if_pos ⟨trivial, by decide +kernel⟩]
  simp only [List.mapM_cons, List.mapM_nil, hi, hj, hs, e0, e1, e2, keys_str _ hn 0, keys_one 3 .i64 _ 0 Try.underlying3 (wf_i64 v hv), keys_one 25 .u64 _ 0 Try.underlying25 (wf_u64 k hk)]
  exact ⟨_, rfl⟩
theorem pr_cells : Try.prog.cellsOf 31 = 7 := by kernel_rfl
theorem keys_pr (p : Pr) (ok : p.ok) : ∃ la, Try.prog.keyLits 3 31 p.cells = some la := by
  have hi : Try.prog.cellsOf 2 = 1 := by kernel_rfl
  obtain ⟨r0, k0⟩ := keys_ent2 p.nm p.ver p.key ok.nm ok.ver ok.key
  obtain ⟨r3, k3⟩ := keys_sig p.r p.s ok.r ok.s 0
  have e0 : (p.cells.drop 0).take 3 = entCells p.nm p.ver p.key := rfl
  have e1 : (p.cells.drop 3).take 1 = [.int .i64 p.tk] := rfl
  have e2 : (p.cells.drop 4).take 1 = [.int .i64 p.dl] := rfl
  have e3 : (p.cells.drop 5).take 2 = [.int .u64 p.r, .int .u64 p.s] := rfl
  have hl : p.cells.length = 7 := rfl
  unfold Program.keyLits
  rw [Try.underlying31]
  simp only [pr_cells, hl]
  rw [if_pos ⟨trivial, by decide +kernel⟩]
  simp only [List.mapM_cons, List.mapM_nil, hi, ent_cells, sig_cells, e0, e1, e2, e3, k0, k3, keys_one 2 .i64 _ 1 Try.underlying2 (wf_i64 p.tk ok.tk), keys_one 2 .i64 _ 1 Try.underlying2 (wf_i64 p.dl ok.dl)]
  exact ⟨_, rfl⟩
theorem form_pr (p : Pr) : (prV p).formed Try.prog 31 = true := by
  have hs : Try.prog.cellsOf 31 = 7 := by kernel_rfl
  have hl : p.cells.length = 7 := rfl
  simp [prV, Value.formed, Try.underlying31, hs, hl]
theorem key_pr : Try.prog.keyTypeAt 3 31 = true := by kernel_rfl
theorem eq_pr (p : Pr) (ok : p.ok) (w : World) : (Op.equalIn 10000 31 (prV p) (prV p)).run Try.prog w = .ok true w := by
  obtain ⟨la, hla⟩ := keys_pr p ok
  obtain ⟨r, h1, h2⟩ := run_equalIn_deep 9997 3 31 key_pr w 3 3 (prV p) (prV p) la la (form_pr p) (form_pr p) (by simpa [prV, Value.cells] using hla) (by simpa [prV, Value.cells] using hla)
  rw [h1, h2.2 rfl]
theorem eql_pr (p : Pr) (ok : p.ok) (w : World) : (binOp .eql 31 (prV p) (prV p)).run Try.prog w = .ok (.bool true) w := by
  unfold prV
  rw [run_eql_struct]
  have e := eq_pr p ok w
  unfold prV at e
  rw [e]
  rfl
theorem neq_pr (p : Pr) (ok : p.ok) (w : World) : (binOp .neq 31 (prV p) (prV p)).run Try.prog w = .ok (.bool false) w := by
  unfold prV
  rw [run_neq_struct]
  have e := eq_pr p ok w
  unfold prV at e
  rw [e]
  rfl
theorem guard_pr (op : BinOp) (x y : Operand) (p q : Pr) (w : World) : (eqGuard op 31 x y (prV p) (prV q)).run Try.prog w = .ok () w := run_eqGuard_agg w op _ x y _ _ (by kernel_rfl)
theorem wpList_eql_pr_g {ops : Array Oper} {rest : List Oper} {o : Oper} {a : Act} {w : World} {Q : Exit → Act → World → Prop} (hw : Region.wanted o (yielded ops a.tmps) = true) (x y : Operand) (T : TypeId) (ho : o.op = .binOp .eql 31 x y T)
    (p : Pr) (hx : a.eval x = prV p) (hy : a.eval y = prV p) (ok : p.ok) (hh : wpList Try.prog ops Q rest (a.put o.dst (.bool true)) w) : wpList Try.prog ops Q (o :: rest) a w :=
  wpList_wanted hw fun K hK => by
    unfold Oper.wp execOp
    simp only [ho, hx, hy, Sem.run_bind, guard_pr, eql_pr p ok, Result.andThen_ok, Sem.run_pure]
    exact hK _ _ hh
theorem wpList_neq_pr_g {ops : Array Oper} {rest : List Oper} {o : Oper} {a : Act} {w : World} {Q : Exit → Act → World → Prop} (hw : Region.wanted o (yielded ops a.tmps) = true) (x y : Operand) (T : TypeId) (ho : o.op = .binOp .neq 31 x y T)
    (p : Pr) (hx : a.eval x = prV p) (hy : a.eval y = prV p) (ok : p.ok) (hh : wpList Try.prog ops Q rest (a.put o.dst (.bool false)) w) : wpList Try.prog ops Q (o :: rest) a w :=
  wpList_wanted hw fun K hK => by
    unfold Oper.wp execOp
    simp only [ho, hx, hy, Sem.run_bind, guard_pr, neq_pr p ok, Result.andThen_ok, Sem.run_pure]
    exact hK _ _ hh
theorem wpList_built_g {ops : Array Oper} {rest : List Oper} {o : Oper} {a : Act} {w : World} {Q : Exit → Act → World → Prop} (hw : Region.wanted o (yielded ops a.tmps) = true) (t : TypeId) (parts : Array (Nat × Operand)) (ho : o.op = .build t parts)
    (vs : List (Nat × Value)) (hv : (parts.map fun (i, x) => (i, a.eval x)).toList = vs) (cells : Array Value) (hb : Try.prog.built t vs = some cells)
    (h : wpList Try.prog ops Q rest (a.put o.dst (.agg cells)) w) : wpList Try.prog ops Q (o :: rest) a w :=
  wpList_wanted hw fun K hK => wp_build t parts ho (by rw [hv, hb]; rfl) (by rw [hv, hb]; exact hK _ _ h)
theorem yields_eql_pr {ops : Array Oper} {S : World → Prop} {op : Oper} {a : Act} (hw : Region.wanted op (yielded ops a.tmps) = true) (x y : Operand) (T : TypeId) (ho : op.op = .binOp .eql 31 x y T) (p : Pr) (hx : a.eval x = prV p) (hy : a.eval y = prV p) (ok : p.ok) :
    YieldsIf Try.prog ops S op (.bool true) a :=
  .inl ⟨hw, fun w _ => by
    unfold execOp
    simp only [ho, hx, hy, Sem.run_bind, guard_pr, eql_pr p ok, Result.andThen_ok, Sem.run_pure]⟩
theorem yields_eql_ent {ops : Array Oper} {S : World → Prop} {op : Oper} {a : Act} (hw : Region.wanted op (yielded ops a.tmps) = true) (x y : Operand) (T : TypeId) (ho : op.op = .binOp .eql 27 x y T) (n : List UInt8) (v k : Int) (hx : a.eval x = entV n v k) (hy : a.eval y = entV n v k) (hn : n.length ≤ 1048576) (hv : isI64 v) (hk : isU64 k) :
    YieldsIf Try.prog ops S op (.bool true) a :=
  .inl ⟨hw, fun w _ => by
    unfold execOp
    simp only [ho, hx, hy, Sem.run_bind, guard_ent, eql_ent n v k hn hv hk, Result.andThen_ok, Sem.run_pure]⟩
theorem yields_build_pr0 {ops : Array Oper} {S : World → Prop} {op : Oper} {a : Act} (hw : Region.wanted op (yielded ops a.tmps) = true) (ho : op.op = .build 31 #[]) : YieldsIf Try.prog ops S op (prV zeroP) a :=
  yields_build_pr hw ho (vals := []) (by simp) built_pr0
/-- The seat's Entry. -/
def seatK (k v : Int) : Int := u64 (u64 (u64 (u64 v * 1000) + k) + 1)

set_option maxRecDepth 100000 in
set_option maxHeartbeats 3200000 in
theorem seatEnt_any (k v : Int) (w : World) (k0 : 0 ≤ k) (k1 : k < 256) :
    Calls Try.prog 7 #[.int .u8 k, .int .i64 v] w fun e w' => e = .returned (entV (nameL k) v (seatK k v)) ∧ Below w.heap.size w w' := by
  have hwk : IntKind.u64.wrap k = k := by rw [IntKind.wrap_u64]; omega
  have e1 : IntKind.u64.wrap v = u64 v := by rw [IntKind.wrap_u64]; rfl
  have e2 : IntKind.u64.wrap (u64 v * 1000) = u64 (u64 v * 1000) := by rw [IntKind.wrap_u64]; rfl
  have e3 : IntKind.u64.wrap (u64 (u64 v * 1000) + k) = u64 (u64 (u64 v * 1000) + k) := by rw [IntKind.wrap_u64]; rfl
  have e4 : IntKind.u64.wrap (u64 (u64 (u64 v * 1000) + k) + 1) = seatK k v := by rw [IntKind.wrap_u64]; rfl
  have HNM := Lib.hid (fun w => name_any k w k0 k1)
  generalize nameL k = nm at *
  generalize seatK k v = key at *
  go_enter Try.func7, Try.ntmps7
  go_upto_region 1 with fail
  rw [ent_zero]
  refine wp_world (fun W => EA w.heap.size [] 0 0 W ∧ Below w.heap.size w W) ⟨EA.new _ _ _ _, bl_alloc (Below.refl _ _) _⟩ ?_
  rintro W ⟨hE, hB⟩
  have HE := Lib.hid hE
  have HB := Lib.hid hB
  clear hE hB
  go_wp2_with fail
  refine (HNM.out _).mono ?_
  rintro e w1 ⟨rfl, hb⟩
  have HE1 := Lib.hid (HE.out.below hb)
  have HB1 := Lib.hid (bl_bl HB.out hb)
  clear hb
  go_wp2_with (first
    | refine wpList_built rfl 27 #[(0, .tmp 6), (1, .tmp 7), (2, .tmp 14)] rfl [(0, .string ⟨nm.toArray⟩), (1, .int .i64 v), (2, .int .u64 key)] (by simp only [List.map_toArray, List.map_cons, List.map_nil]; rfl) (entCells nm v key).toArray (built_ent _ _ _) ?_
    | refine wpList_store_row rfl 27 (.tmp 4) (.tmp 15) rfl w.heap.size (entCells nm v key).toArray rfl rfl 27 _ HE1.out.row (ent_size _ _ _) rfl (all_oneCell_toArray (entCells_one _ _ _)) ?_)
  exact bodyPost_ret (v := entV nm v key) (results_cell_row rfl _ _ w.heap.size 27 _ (0, 0) _ rfl (setRow_heap _ _ _ _ _ _ HE1.out.row) Try.underlying27 rfl (ent_size _ _ _)) rfl ⟨rfl, below_setRow HB1.out (Nat.le_refl _)⟩
end Go.Proofs.Ytbhkcgnlegmjlaa
