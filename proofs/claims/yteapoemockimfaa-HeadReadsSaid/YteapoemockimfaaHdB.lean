/-
  Heads: a head out of its fields; the program's reads at a place.
-/
import Derived.Test.YteapoemockimfaaHdQ
namespace Go.Proofs.Yteapoemockimfaa
set_option linter.unusedVariables false
set_option linter.unusedSimpArgs false
open Go.RowKit

theorem len32 (l : List UInt8) (h : l.length = 32) : ∃ a0 a1 a2 a3 a4 a5 a6 a7 a8 a9 a10 a11 a12 a13 a14 a15 a16 a17 a18 a19 a20 a21 a22 a23 a24 a25 a26 a27 a28 a29 a30 a31, l = [a0, a1, a2, a3, a4, a5, a6, a7, a8, a9, a10, a11, a12, a13, a14, a15, a16, a17, a18, a19, a20, a21, a22, a23, a24, a25, a26, a27, a28, a29, a30, a31] := by
  match l, h with
  | [a0, a1, a2, a3, a4, a5, a6, a7, a8, a9, a10, a11, a12, a13, a14, a15, a16, a17, a18, a19, a20, a21, a22, a23, a24, a25, a26, a27, a28, a29, a30, a31], _ => exact ⟨a0, a1, a2, a3, a4, a5, a6, a7, a8, a9, a10, a11, a12, a13, a14, a15, a16, a17, a18, a19, a20, a21, a22, a23, a24, a25, a26, a27, a28, a29, a30, a31, rfl⟩
theorem wpList_built {ops : Array Oper} {rest : List Oper} {o : Oper} {a : Act} {w : World} {Q : Exit → Act → World → Prop} (hg : o.guard = none) (t : TypeId) (parts : Array (Nat × Operand)) (ho : o.op = .build t parts)
    (vs : List (Nat × Value)) (hv : (parts.map fun (i, x) => (i, a.eval x)).toList = vs) (cells : Array Value) (hb : Try.prog.built t vs = some cells)
    (h : wpList Try.prog ops Q rest (a.put o.dst (.agg cells)) w) : wpList Try.prog ops Q (o :: rest) a w := by
  refine wpList_build hg t parts ho (by rw [hv, hb]; rfl) ?_
  rw [hv, hb]
  exact h
set_option maxRecDepth 100000 in
theorem built_head (e t c : Int) (r l : List UInt8) (hr : r.length = 32) (hl : l.length = 32) :
    Try.prog.built 28 [(0, .int .i64 e), (1, .int .i64 t), (2, .int .i64 c), (3, hashV r), (4, hashV l)] = some (Hd.cells ⟨e, t, c, r, l, 0, 0⟩).toArray := by
  obtain ⟨a0, a1, a2, a3, a4, a5, a6, a7, a8, a9, a10, a11, a12, a13, a14, a15, a16, a17, a18, a19, a20, a21, a22, a23, a24, a25, a26, a27, a28, a29, a30, a31, rfl⟩ := len32 r hr
  obtain ⟨c0, c1, c2, c3, c4, c5, c6, c7, c8, c9, c10, c11, c12, c13, c14, c15, c16, c17, c18, c19, c20, c21, c22, c23, c24, c25, c26, c27, c28, c29, c30, c31, rfl⟩ := len32 l hl
  kernel_rfl
set_option maxRecDepth 100000 in
theorem built_head4 (e t c : Int) (r : List UInt8) (hr : r.length = 32) :
    Try.prog.built 28 [(0, .int .i64 e), (1, .int .i64 t), (2, .int .i64 c), (3, hashV r)] = some (Hd.cells ⟨e, t, c, r, zeros32, 0, 0⟩).toArray := by
  obtain ⟨a0, a1, a2, a3, a4, a5, a6, a7, a8, a9, a10, a11, a12, a13, a14, a15, a16, a17, a18, a19, a20, a21, a22, a23, a24, a25, a26, a27, a28, a29, a30, a31, rfl⟩ := len32 r hr
  kernel_rfl
set_option maxRecDepth 100000 in
theorem built_head3 (e t c : Int) : Try.prog.built 28 [(0, .int .i64 e), (1, .int .i64 t), (2, .int .i64 c)] = some (Hd.cells ⟨e, t, c, zeros32, zeros32, 0, 0⟩).toArray := by kernel_rfl
set_option maxRecDepth 100000 in
theorem built_head0 : Try.prog.built 28 [] = some zeroH.cells.toArray := by kernel_rfl
theorem zero_cells : Try.zeroCells28 = zeroH.cells.toArray := by kernel_rfl
theorem zero_head : (Try.prog.info? 28).bind (·.zero) = some (.agg zeroH.cells.toArray) := by kernel_rfl

/-- The program's Num at a place. -/
theorem num_at (b : List UInt8) (g k : Nat) (w : World) (hr : RdrAt w g (b.drop k) 0) (hk : k + 8 ≤ b.length) (hl : b.length ≤ 1099511627776) :
    Calls Try.prog 38 #[.pointer (some ⟨g, 0, none⟩)] w fun e w' => e = .returned (.int .u64 (num8 b k)) ∧ RdrAt w' g (b.drop (k + 8)) 0 ∧ w.grownBy w' (some g) := by
  have h8 : 8 ≤ (b.drop k).length := by rw [List.length_drop]; omega
  refine (rnumr_any g (b.drop k) 0 w hr (by rw [List.length_drop]; omega)).mono ?_
  rintro e w' ⟨rfl, h1, h2⟩
  rw [rawRest_ok _ _ h8, rawErr_ok _ _ h8, List.drop_drop] at h1
  rw [rawOut_ok _ _ h8]
  exact ⟨rfl, h1, h2⟩
theorem hash_at (b : List UInt8) (g k : Nat) (w : World) (hr : RdrAt w g (b.drop k) 0) (hk : k + 32 ≤ b.length) (hl : b.length ≤ 1099511627776) :
    Calls Try.prog 39 #[.pointer (some ⟨g, 0, none⟩)] w fun e w' => e = .returned (hashV ((b.drop k).take 32)) ∧ RdrAt w' g (b.drop (k + 32)) 0 ∧ w.grownBy w' (some g) := by
  refine (hash_any g (b.drop k) w hr (by rw [List.length_drop]; omega) (by rw [List.length_drop]; omega)).mono ?_
  rintro e w' ⟨rfl, h1, h2⟩
  rw [List.drop_drop] at h1
  exact ⟨rfl, h1, h2⟩
theorem results_row_tmp {fn : Func} {p u : Tmp} {ty : TypeId} (h : fn.results = #[.cell p ty, .tmp u]) (tmps : Array Value) (w : World) (g : Nat) (cs : Array Value)
    (hp : tmps.getD p undef = .pointer (some ⟨g, 0, none⟩)) (hrun : (loadVar ty ⟨g, 0, none⟩).run Try.prog w = .ok (.agg cs) w) :
    (results fn tmps).run Try.prog w = .ok (.tuple #[.agg cs, tmps.getD u undef]) w := by
  rw [results_cell_tmp h tmps Try.prog w, hp]
  simp [asAddr, hrun, Result.andThen]
theorem head_loads {w : World} {g : Nat} {h : Hd} (k : HA g h w) (ok : h.ok) : (loadVar 28 ⟨g, 0, none⟩).run Try.prog w = .ok (.agg h.cells.toArray) w :=
  run_loadVar_row w g 28 28 _ (0, 0) _ k.row Try.underlying28 rfl (head_size h ok)
end Go.Proofs.Yteapoemockimfaa
