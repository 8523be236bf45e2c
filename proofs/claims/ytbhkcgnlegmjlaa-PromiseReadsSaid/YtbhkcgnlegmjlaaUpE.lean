/-
  Requests and entries are compared; loads behind a guard.
-/
import Derived.Test.YtbhkcgnlegmjlaaUpC
namespace Go.Proofs.Ytbhkcgnlegmjlaa
set_option linter.unusedVariables false
set_option linter.unusedSimpArgs false
open Go.RowKit

theorem up_cells : Try.prog.cellsOf 85 = 6 := by kernel_rfl
theorem ent_cells : Try.prog.cellsOf 27 = 3 := by kernel_rfl
theorem keys_str (n : List UInt8) (h : n.length ≤ 1048576) (d : Nat) : Try.prog.keyLits (d + 1) 9 [.string ⟨n.toArray⟩] = some [.string n] := by
  unfold Program.keyLits
  rw [Try.underlying9]
  have hs : (ByteArray.mk n.toArray).size ≤ maxLen := Nat.le_trans h (by decide)
  simp only [hs, if_true]
theorem keys_up (u : Up) (ok : u.ok) : ∃ la, Try.prog.keyLits 3 85 u.cells = some la := by
  have hi : Try.prog.cellsOf 3 = 1 := by kernel_rfl
  have hj : Try.prog.cellsOf 25 = 1 := by kernel_rfl
  have hs : Try.prog.cellsOf 9 = 1 := by kernel_rfl
  obtain ⟨r3, k3⟩ := keys_sig u.r u.s ok.r ok.s 0
  have e0 : (u.cells.drop 0).take 1 = [.string ⟨u.nm.toArray⟩] := rfl
  have e1 : (u.cells.drop 1).take 1 = [.int .i64 u.ver] := rfl
  have e2 : (u.cells.drop 2).take 1 = [.int .u64 u.key] := rfl
  have e3 : (u.cells.drop 3).take 1 = [.int .i64 u.cls] := rfl
  have e4 : (u.cells.drop 4).take 2 = [.int .u64 u.r, .int .u64 u.s] := rfl
  have hl : u.cells.length = 6 := rfl
  unfold Program.keyLits
  rw [Try.underlying85]
  simp only [up_cells, hl]
  rw [if_pos ⟨trivial, by decide +kernel⟩]
  simp only [List.mapM_cons, List.mapM_nil, hi, hj, hs, sig_cells, e0, e1, e2, e3, e4, k3, keys_str _ ok.nm 1, keys_one 3 .i64 _ 1 Try.underlying3 (wf_i64 u.ver ok.ver), keys_one 3 .i64 _ 1 Try.underlying3 (wf_i64 u.cls ok.cls), keys_one 25 .u64 _ 1 Try.underlying25 (wf_u64 u.key ok.key)]
  exact ⟨_, rfl⟩
theorem keys_ent (n : List UInt8) (v k : Int) (hn : n.length ≤ 1048576) (hv : isI64 v) (hk : isU64 k) : ∃ la, Try.prog.keyLits 3 27 (entCells n v k) = some la := by
  have hi : Try.prog.cellsOf 3 = 1 := by kernel_rfl
  have hj : Try.prog.cellsOf 25 = 1 := by kernel_rfl
  have hs : Try.prog.cellsOf 9 = 1 := by kernel_rfl
  have e0 : ((entCells n v k).drop 0).take 1 = [.string ⟨n.toArray⟩] := rfl
  have e1 : ((entCells n v k).drop 1).take 1 = [.int .i64 v] := rfl
  have e2 : ((entCells n v k).drop 2).take 1 = [.int .u64 k] := rfl
  have hl : (entCells n v k).length = 3 := rfl
  unfold Program.keyLits
  rw [Try.underlying27]
  simp only [ent_cells, hl]
  rw [if_pos ⟨trivial, by decide +kernel⟩]
  simp only [List.mapM_cons, List.mapM_nil, hi, hj, hs, e0, e1, e2, keys_str _ hn 1, keys_one 3 .i64 _ 1 Try.underlying3 (wf_i64 v hv), keys_one 25 .u64 _ 1 Try.underlying25 (wf_u64 k hk)]
  exact ⟨_, rfl⟩
theorem form_up (u : Up) : (upV u).formed Try.prog 85 = true := by
  have hs : Try.prog.cellsOf 85 = 6 := by kernel_rfl
  have hl : u.cells.length = 6 := rfl
  simp [upV, Value.formed, Try.underlying85, hs, hl]
theorem key_up : Try.prog.keyTypeAt 3 85 = true := by kernel_rfl
theorem form_ent (n : List UInt8) (v k : Int) : (entV n v k).formed Try.prog 27 = true := by
  have hs : Try.prog.cellsOf 27 = 3 := by kernel_rfl
  have hl : (entCells n v k).length = 3 := rfl
  simp [entV, Value.formed, Try.underlying27, hs, hl]
theorem key_ent : Try.prog.keyTypeAt 3 27 = true := by kernel_rfl
theorem eq_up (u : Up) (ok : u.ok) (w : World) : (Op.equalIn 10000 85 (upV u) (upV u)).run Try.prog w = .ok true w := by
  obtain ⟨la, hla⟩ := keys_up u ok
  obtain ⟨r, h1, h2⟩ := run_equalIn_deep 9997 3 85 key_up w 3 3 (upV u) (upV u) la la (form_up u) (form_up u) (by simpa [upV, Value.cells] using hla) (by simpa [upV, Value.cells] using hla)
  rw [h1, h2.2 rfl]
theorem eq_ent (n : List UInt8) (v k : Int) (hn : n.length ≤ 1048576) (hv : isI64 v) (hk : isU64 k) (w : World) : (Op.equalIn 10000 27 (entV n v k) (entV n v k)).run Try.prog w = .ok true w := by
  obtain ⟨la, hla⟩ := keys_ent n v k hn hv hk
  obtain ⟨r, h1, h2⟩ := run_equalIn_deep 9997 3 27 key_ent w 3 3 (entV n v k) (entV n v k) la la (form_ent n v k) (form_ent n v k) (by simpa [entV, Value.cells] using hla) (by simpa [entV, Value.cells] using hla)
  rw [h1, h2.2 rfl]
theorem eql_up (u : Up) (ok : u.ok) (w : World) : (binOp .eql 85 (upV u) (upV u)).run Try.prog w = .ok (.bool true) w := by
  unfold upV
  rw [run_eql_struct]
  have e := eq_up u ok w
  unfold upV at e
  rw [e]
  rfl
theorem neq_up (u : Up) (ok : u.ok) (w : World) : (binOp .neq 85 (upV u) (upV u)).run Try.prog w = .ok (.bool false) w := by
  unfold upV
  rw [run_neq_struct]
  have e := eq_up u ok w
  unfold upV at e
  rw [e]
  rfl
theorem eql_ent (n : List UInt8) (v k : Int) (hn : n.length ≤ 1048576) (hv : isI64 v) (hk : isU64 k) (w : World) : (binOp .eql 27 (entV n v k) (entV n v k)).run Try.prog w = .ok (.bool true) w := by
  unfold entV
  rw [run_eql_struct]
  have e := eq_ent n v k hn hv hk w
  unfold entV at e
  rw [e]
  rfl
theorem neq_ent (n : List UInt8) (v k : Int) (hn : n.length ≤ 1048576) (hv : isI64 v) (hk : isU64 k) (w : World) : (binOp .neq 27 (entV n v k) (entV n v k)).run Try.prog w = .ok (.bool false) w := by
  unfold entV
  rw [run_neq_struct]
  have e := eq_ent n v k hn hv hk w
  unfold entV at e
  rw [e]
  rfl
theorem guard_up (op : BinOp) (x y : Operand) (u v : Up) (w : World) : (eqGuard op 85 x y (upV u) (upV v)).run Try.prog w = .ok () w := run_eqGuard_agg w op _ x y _ _ (by kernel_rfl)
theorem guard_ent (op : BinOp) (x y : Operand) (n m : List UInt8) (a b c d : Int) (w : World) : (eqGuard op 27 x y (entV n a b) (entV m c d)).run Try.prog w = .ok () w := run_eqGuard_agg w op _ x y _ _ (by kernel_rfl)
theorem wpList_load_up_g {ops : Array Oper} {rest : List Oper} {o : Oper} {a : Act} {w : World} {Q : Exit → Act → World → Prop} (hw : Region.wanted o (yielded ops a.tmps) = true) (x : Operand) (ho : o.op = .load 85 x)
    (g : Nat) (u : Up) (hx : a.eval x = .pointer (some ⟨g, 0, none⟩)) (k : UA g u w) (hh : wpList Try.prog ops Q rest (a.put o.dst (upV u)) w) : wpList Try.prog ops Q (o :: rest) a w :=
  wpList_wanted hw fun K hK => wp_load_row 85 x ho g hx 85 _ (0, 0) _ k.row Try.underlying85 rfl (up_size u) (hK _ _ hh)
theorem wpList_eql_up_g {ops : Array Oper} {rest : List Oper} {o : Oper} {a : Act} {w : World} {Q : Exit → Act → World → Prop} (hw : Region.wanted o (yielded ops a.tmps) = true) (x y : Operand) (T : TypeId) (ho : o.op = .binOp .eql 85 x y T)
    (u : Up) (hx : a.eval x = upV u) (hy : a.eval y = upV u) (ok : u.ok) (hh : wpList Try.prog ops Q rest (a.put o.dst (.bool true)) w) : wpList Try.prog ops Q (o :: rest) a w :=
  wpList_wanted hw fun K hK => by
    unfold Oper.wp execOp
    simp only [ho, hx, hy, Sem.run_bind, guard_up, eql_up u ok, Result.andThen_ok, Sem.run_pure]
    exact hK _ _ hh
theorem wpList_neq_up_g {ops : Array Oper} {rest : List Oper} {o : Oper} {a : Act} {w : World} {Q : Exit → Act → World → Prop} (hw : Region.wanted o (yielded ops a.tmps) = true) (x y : Operand) (T : TypeId) (ho : o.op = .binOp .neq 85 x y T)
    (u : Up) (hx : a.eval x = upV u) (hy : a.eval y = upV u) (ok : u.ok) (hh : wpList Try.prog ops Q rest (a.put o.dst (.bool false)) w) : wpList Try.prog ops Q (o :: rest) a w :=
  wpList_wanted hw fun K hK => by
    unfold Oper.wp execOp
    simp only [ho, hx, hy, Sem.run_bind, guard_up, neq_up u ok, Result.andThen_ok, Sem.run_pure]
    exact hK _ _ hh
theorem wpList_eql_ent_g {ops : Array Oper} {rest : List Oper} {o : Oper} {a : Act} {w : World} {Q : Exit → Act → World → Prop} (hw : Region.wanted o (yielded ops a.tmps) = true) (x y : Operand) (T : TypeId) (ho : o.op = .binOp .eql 27 x y T)
    (n : List UInt8) (v k : Int) (hx : a.eval x = entV n v k) (hy : a.eval y = entV n v k) (hn : n.length ≤ 1048576) (hv : isI64 v) (hk : isU64 k) (hh : wpList Try.prog ops Q rest (a.put o.dst (.bool true)) w) : wpList Try.prog ops Q (o :: rest) a w :=
  wpList_wanted hw fun K hK => by
    unfold Oper.wp execOp
    simp only [ho, hx, hy, Sem.run_bind, guard_ent, eql_ent n v k hn hv hk, Result.andThen_ok, Sem.run_pure]
    exact hK _ _ hh
theorem built_up4 (n : List UInt8) (v k c : Int) : Try.prog.built 85 [(0, .string ⟨n.toArray⟩), (1, .int .i64 v), (2, .int .u64 k), (3, .int .i64 c)] = some (Up.mk n v k c 0 0).cells.toArray := by kernel_rfl
theorem built_up3 (n : List UInt8) (v c : Int) : Try.prog.built 85 [(0, .string ⟨n.toArray⟩), (1, .int .i64 v), (3, .int .i64 c)] = some (Up.mk n v 0 c 0 0).cells.toArray := by kernel_rfl
theorem built_up3k (n : List UInt8) (v k : Int) : Try.prog.built 85 [(0, .string ⟨n.toArray⟩), (1, .int .i64 v), (2, .int .u64 k)] = some (Up.mk n v k 0 0 0).cells.toArray := by kernel_rfl
/-- append(nil, b...): the bytes anew. -/
theorem wpList_append_nil {w : World} {ops : Array Oper} {rest : List Oper} {o : Oper} {a : Act} {Q : Exit → Act → World → Prop} (hgd : o.guard = none) (x : Operand)
    (ho : o.op = .call { callee := .builtin .append, args := #[.const (.slice none 0 0), x], argTypes := #[22, 22] })
    {u : Value} {m : List UInt8} (hx : a.eval x = u) (hu : Rd w u m) (hl : m.length ≤ 1099511627776)
    (h : ∀ v' w', Own w' w.heap.size v' m → Below w.heap.size w w' → wpList Try.prog ops Q rest (a.put o.dst v') w') : wpList Try.prog ops Q (o :: rest) a w :=
  wpList_append_bytes hgd (.const (.slice none 0 0)) x ho w.heap.size (v := .slice none 0 0) (l := []) rfl hx (Own.nil _ _) hu (by simpa using hl) (Nat.le_refl _) fun v' w' ho hg => h v' w' ho (below_grown (Below.refl _ _) hg (fun k hk => by simp [Value.ownBlock] at hk))
end Go.Proofs.Ytbhkcgnlegmjlaa
