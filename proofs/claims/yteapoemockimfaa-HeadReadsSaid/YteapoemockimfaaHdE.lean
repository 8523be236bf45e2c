/-
  Heads and hashes are compared.
-/
import Derived.Test.YteapoemockimfaaHdB
import Derived.DeepKeys
namespace Go.Proofs.Yteapoemockimfaa
set_option linter.unusedVariables false
set_option linter.unusedSimpArgs false
open Go.RowKit

theorem mapM_some {α β : Type} (f : α → Option β) : ∀ (L : List α), (∀ x ∈ L, ∃ y, f x = some y) → ∃ ys, L.mapM f = some ys
  | [], _ => ⟨[], rfl⟩
  | x :: L, h => by
    obtain ⟨y, hy⟩ := h x (by simp)
    obtain ⟨ys, hys⟩ := mapM_some f L (fun z hz => h z (by simp [hz]))
    exact ⟨y :: ys, by rw [List.mapM_cons, hy]; simp [hys]⟩
theorem wf_u8 (b : UInt8) : (Lit.int .u8 (b.toNat : Int)).wf = true := by
  have := UInt8.toNat_lt b
  simp [Lit.wf, IntKind.has, IntKind.min, IntKind.max, IntKind.signed, IntKind.bits]; omega
theorem wf_i64 (x : Int) (h : isI64 x) : (Lit.int .i64 x).wf = true := by
  obtain ⟨h1, h2⟩ := h
  simp [Lit.wf, IntKind.has, IntKind.min, IntKind.max, IntKind.signed, IntKind.bits]; omega
theorem wf_u64 (x : Int) (h : isU64 x) : (Lit.int .u64 x).wf = true := by
  obtain ⟨h1, h2⟩ := h
  simp [Lit.wf, IntKind.has, IntKind.min, IntKind.max, IntKind.signed, IntKind.bits]; omega
theorem keys_one (t : TypeId) (k : IntKind) (x : Int) (d : Nat) (ht : Try.prog.underlying t = some (.int k)) (hw : (Lit.int k x).wf = true) : Try.prog.keyLits (d + 1) t [.int k x] = some [.int k x] := by
  unfold Program.keyLits
  rw [ht]
  simp [hw]
theorem hash_cells : Try.prog.cellsOf 23 = 32 := by kernel_rfl
theorem byte_cells : Try.prog.cellsOf 5 = 1 := by kernel_rfl
theorem keys_hash (l : List UInt8) (h : l.length = 32) (d : Nat) : ∃ la, Try.prog.keyLits (d + 2) 23 (bvs l) = some la := by
  unfold Program.keyLits
  rw [Try.underlying23]
  simp only [hash_cells, bvs_length, h, if_true]
  obtain ⟨ys, hys⟩ := mapM_some (fun i => Try.prog.keyLits (d + 1) 5 (((bvs l).drop (i * Try.prog.cellsOf 5)).take (Try.prog.cellsOf 5))) (List.range 32) (fun i hi => by
    have hi' : i < l.length := by rw [h]; simpa using hi
    refine ⟨[.int .u8 (l[i].toNat : Int)], ?_⟩
    rw [byte_cells, Nat.mul_one]
    have e : ((bvs l).drop i).take 1 = [bv l[i]] := by
      rw [List.drop_eq_getElem_cons (by rw [bvs_length]; exact hi')]
      simp [bvs]
    rw [e]
    exact keys_one _ .u8 _ d Try.underlying5 (wf_u8 _))
  exact ⟨ys.flatten, by rw [hys]; rfl⟩
theorem head_cells : Try.prog.cellsOf 28 = 69 := by kernel_rfl
theorem sig_cells : Try.prog.cellsOf 26 = 2 := by kernel_rfl
theorem keys_sig (r s : Int) (hr : isU64 r) (hs : isU64 s) (d : Nat) : ∃ la, Try.prog.keyLits (d + 2) 26 [.int .u64 r, .int .u64 s] = some la := by
  have hc : Try.prog.cellsOf 24 = 1 := by kernel_rfl
  unfold Program.keyLits
  rw [Try.underlying26]
  simp [sig_cells, hc, keys_one 24 .u64 _ d Try.underlying24 (wf_u64 r hr), keys_one 24 .u64 _ d Try.underlying24 (wf_u64 s hs)]
set_option maxRecDepth 100000 in
theorem keys_head (h : Hd) (ok : h.ok) : ∃ la, Try.prog.keyLits 3 28 h.cells = some la := by
  have hi : Try.prog.cellsOf 3 = 1 := by kernel_rfl
  have hj : Try.prog.cellsOf 2 = 1 := by kernel_rfl
  obtain ⟨r1, k1⟩ := keys_hash h.root ok.root 0
  obtain ⟨r2, k2⟩ := keys_hash h.log ok.log 0
  obtain ⟨r3, k3⟩ := keys_sig h.r h.s ok.r ok.s 0
  have hr := ok.root
  have hl := ok.log
  have e1 : (h.cells.drop 3).take 32 = bvs h.root := by
    rw [show h.cells = [.int .i64 h.ep, .int .i64 h.tk, .int .i64 h.ct] ++ (bvs h.root ++ (bvs h.log ++ [.int .u64 h.r, .int .u64 h.s])) from rfl, drop_take_mid _ _ _ 3 32 rfl (by rw [bvs_length, hr])]
  have e2 : (h.cells.drop 35).take 32 = bvs h.log := by
    rw [show h.cells = ([.int .i64 h.ep, .int .i64 h.tk, .int .i64 h.ct] ++ bvs h.root) ++ (bvs h.log ++ [.int .u64 h.r, .int .u64 h.s]) by simp [Hd.cells], drop_take_mid _ _ _ 35 32 (by simp [bvs_length, hr]) (by rw [bvs_length, hl])]
  have e3 : (h.cells.drop 67).take 2 = [.int .u64 h.r, .int .u64 h.s] := by
    rw [show h.cells = ([.int .i64 h.ep, .int .i64 h.tk, .int .i64 h.ct] ++ bvs h.root ++ bvs h.log) ++ ([.int .u64 h.r, .int .u64 h.s] ++ []) by simp [Hd.cells], drop_take_mid _ _ _ 67 2 (by simp [bvs_length, hr, hl]) rfl]
  have e4 : (h.cells.drop 0).take 1 = [.int .i64 h.ep] := rfl
  have e5 : (h.cells.drop 1).take 1 = [.int .i64 h.tk] := rfl
  have e6 : (h.cells.drop 2).take 1 = [.int .i64 h.ct] := rfl
  unfold Program.keyLits
  rw [Try.underlying28]
  simp only [head_cells, Hd.cells_length h ok]
  rw [if_pos ⟨trivial, by decide +kernel⟩]
  simp only [List.mapM_cons, List.mapM_nil, hi, hj, hash_cells, sig_cells, e1, e2, e3, e4, e5, e6, k1, k2, k3, keys_one 3 .i64 _ 1 Try.underlying3 (wf_i64 h.ep ok.ep), keys_one 2 .i64 _ 1 Try.underlying2 (wf_i64 h.tk ok.tk), keys_one 3 .i64 _ 1 Try.underlying3 (wf_i64 h.ct ok.ct)]
  exact ⟨_, rfl⟩
theorem form_head (h : Hd) (ok : h.ok) : (headV h).formed Try.prog 28 = true := by
  have hs : Try.prog.cellsOf 28 = 69 := by kernel_rfl
  simp [headV, Value.formed, Try.underlying28, hs, Hd.cells_length h ok]
theorem key_head : Try.prog.keyTypeAt 3 28 = true := by kernel_rfl
theorem eq_head (h : Hd) (ok : h.ok) (w : World) : (Op.equalIn 10000 28 (headV h) (headV h)).run Try.prog w = .ok true w := by
  obtain ⟨la, hla⟩ := keys_head h ok
  obtain ⟨r, h1, h2⟩ := run_equalIn_deep 9997 3 28 key_head w 3 3 (headV h) (headV h) la la (form_head h ok) (form_head h ok) (by simpa [headV, Value.cells] using hla) (by simpa [headV, Value.cells] using hla)
  rw [h1, h2.2 rfl]
theorem eql_head (h : Hd) (ok : h.ok) (w : World) : (binOp .eql 28 (headV h) (headV h)).run Try.prog w = .ok (.bool true) w := by
  unfold headV
  rw [run_eql_struct]
  have e := eq_head h ok w
  unfold headV at e
  rw [e]
  rfl
theorem neq_head (h : Hd) (ok : h.ok) (w : World) : (binOp .neq 28 (headV h) (headV h)).run Try.prog w = .ok (.bool false) w := by
  unfold headV
  rw [run_neq_struct]
  have e := eq_head h ok w
  unfold headV at e
  rw [e]
  rfl
theorem eqGuard_head (op : BinOp) (x y : Operand) (h k : Hd) (w : World) : (eqGuard op 28 x y (headV h) (headV k)).run Try.prog w = .ok () w := run_eqGuard_agg w op _ x y _ _ (by kernel_rfl)
theorem yields_eql_head {ops : Array Oper} {S : World → Prop} {op : Oper} {a : Act} (hw : Region.wanted op (yielded ops a.tmps) = true) (x y : Operand) (T : TypeId) (ho : op.op = .binOp .eql 28 x y T) (h : Hd) (hx : a.eval x = headV h) (hy : a.eval y = headV h) (ok : h.ok) :
    YieldsIf Try.prog ops S op (.bool true) a :=
  .inl ⟨hw, fun w _ => by
    unfold execOp
    simp only [ho, hx, hy, Sem.run_bind, eqGuard_head, eql_head h ok, Result.andThen_ok, Sem.run_pure]⟩
theorem yields_neq_head {ops : Array Oper} {S : World → Prop} {op : Oper} {a : Act} (hw : Region.wanted op (yielded ops a.tmps) = true) (x y : Operand) (T : TypeId) (ho : op.op = .binOp .neq 28 x y T) (h : Hd) (hx : a.eval x = headV h) (hy : a.eval y = headV h) (ok : h.ok) :
    YieldsIf Try.prog ops S op (.bool false) a :=
  .inl ⟨hw, fun w _ => by
    unfold execOp
    simp only [ho, hx, hy, Sem.run_bind, eqGuard_head, neq_head h ok, Result.andThen_ok, Sem.run_pure]⟩
end Go.Proofs.Yteapoemockimfaa
