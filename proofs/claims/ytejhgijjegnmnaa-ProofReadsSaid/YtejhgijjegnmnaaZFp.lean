/-
  make: a new row of zeros. A list of zero hashes.
-/
import Derived.Test.YtejhgijjegnmnaaZFo
import Derived.Laws.MakeOwn
namespace Go.Proofs.Ytejhgijjegnmnaa
set_option linter.unusedVariables false
set_option linter.unusedSimpArgs false
open Go.RowKit Pl
theorem Pl.OT.mksl {P : Program} {C : Cx} {L : Lo} {Γ : Ga} {d : Nat} {ty : TypeId} {pos : String} {af : Array Edge} {gd : Option (Nat × Bool)} {t e sz by_ n : Nat} {x y : Operand} {zs : List Value} (g : Nat) (hn : Nat.blt d C.n = true) (hx : evv L x = some (.int .i64 (n : Int))) (hy : evv L y = some (.int .i64 (n : Int))) (hg : Γ g = none) (ht : apt P t = some (e, sz, by_)) (hz : zc P e = some zs) (h1 : zs.all Value.oneCell' = true) (hbig : n * by_ ≤ 281474976710656) (hmax : n ≤ maxLen) :
    OT P C ⟨some d, .makeSlice t x y, ty, pos, af, gd⟩ L Γ (upd L d (.ow g n sz)) (upd Γ g (.row e sz ((zrow zs n).map .v))) :=
  OT.turns fun ρ a w h => by
    obtain ⟨hu, i, z, hi, hzi, hsi, hby, hzs, h0⟩ := apt_parts ht
    have hzc : z.cells.toList = zs := by
      unfold zc at hz; rw [hi] at hz; simp [hzi] at hz; exact hz
    have hzl : zs.length = sz := by rw [← hzc]; simpa using hzs
    have h1' := List.all_eq_true.1 h1
    have hrow : (madeCells z.cells (n * i.size)).toList = zrow zs n := by
      have := zrow_eq z.cells (by omega) n
      rw [hzs, hzc] at this
      unfold madeCells
      rw [hsi, hzs]; exact this
    have hmemz : ∀ (n : Nat), ∀ u ∈ zrow zs n, u.oneCell' = true := fun n => by
      induction n with
      | zero => intro u hu; cases hu
      | succ n ih => intro u hu; rw [zrow] at hu; exact (List.mem_append.1 hu).elim (h1' u) (ih u)
    have hmx := hmax
    unfold maxLen at hmx
    have hb : (i.bytes : Int) * (n : Int) ≤ 281474976710656 := by
      rw [hby, ← Int.natCast_mul, Nat.mul_comm]; omega
    have hrun := run_make (P := P) w t e i z hu hi hzi .i64 .i64 (n : Int) (n : Int) (by omega) (Int.le_refl _) hb (by omega)
    simp only [Int.toNat_natCast] at hrun
    generalize hr : madeCells z.cells (n * i.size) = r at hrow hrun
    have hdl : r.size = n * sz := by rw [← hr, size_madeCells, hsi]
    refine ⟨_, _, by simp only [execOp, evv_eval h hx, evv_eval h hy, Sem.run_bind, hrun, Result.andThen_ok, Sem.run_pure]; rfl, ?_⟩
    have hlr : r.toList.length = ((zrow zs n).map DV.v).length := by rw [hrow, List.length_map]
    obtain ⟨ρ', hr', hρ, hk⟩ := h.fresh (g := g) (b := w.heap.size) (o' := .row e sz ((zrow zs n).map .v)) hg (grown_alloc w (.cells r e)) ⟨Nat.le_refl _, by simp⟩ (by simp) rfl
      (fun K hK _ => .inr ⟨w.heap.size, r.toList, n, rfl, by rw [Array.toArray_toList]; exact heap_alloc_new _ _, by simpa using hdl, hmax, by rw [hlr]; exact Nat.le_refl _, by rw [← hlr, List.take_length, hrow]; exact repL_v _, by rw [← hlr, List.take_length, hrow]; exact hmemz n⟩)
    refine ⟨ρ', hr'.put (by simpa using hn) (fun ob hob => ?_) (fun g' hg' => ?_)⟩
    · rw [hρ] at hob; cases hob
      refine .inr ⟨_, n, rfl, rfl, Nat.le_refl _, hmax, ?_⟩
      unfold bsz; rw [heap_alloc_new]; exact hdl.symm
    · cases hg'; rw [upd_same]; simp
/-- An append whose row is let go at once. -/
theorem Pl.OT.appendf {P : Program} {C : Cx} {L : Lo} {Γ : Ga} {d : Nat} {ty : TypeId} {pos : String} {af : Array Edge} {gd : Option (Nat × Bool)} {t e sz by_ g n m : Nat} {s x : Operand} {cs ds : List DV} {A : AV} (g' : Nat) (Y : DV) (hn : Nat.blt d C.n = true) (hs : ev L s = some (.ow g n sz)) (hg : Γ g = some (.row e sz cs)) (hl : cs.length = n * sz) (hg' : Γ g' = none) (ht : apt P t = some (e, sz, by_))
    (hx : ev L x = some A) (hA : rdv Γ A = some (.sl sz m ds)) (hok : okr Γ A) (h1 : ds.all DV.one = true) (hbig : (n + m) * by_ ≤ 140737488355328) (hmax : n + m ≤ 1099511627776) (hl2 : (cs ++ ds).length = (n + m) * sz) (he : DV.sl sz (n + m) (cs ++ ds) = Y) :
    OT P C ⟨some d, .call { callee := .builtin .append, args := #[s, x], argTypes := #[t, t] }, ty, pos, af, gd⟩ L Γ (upd L d (.d Y)) (upd (upd Γ g .dead) g' .dead) := fun a w h =>
  Oper.wp_mono (fun a' w' q => by
    subst he
    have q2 := reps_freeze d (g := g') (upd_same _ _ _) (upd_same _ _ _) hl2 q
    have e1 : upd (upd L d (.ow g' (n + m) sz)) d (.d (.sl sz (n + m) (cs ++ ds))) = upd L d (.d (.sl sz (n + m) (cs ++ ds))) := by
      funext i; unfold upd; cases i.beq d <;> rfl
    have e2 : upd (upd (upd Γ g .dead) g' (.row e sz (cs ++ ds))) g' .dead = upd (upd Γ g .dead) g' .dead := by
      funext i; unfold upd; cases i.beq g' <;> rfl
    rw [e1, e2] at q2
    exact q2) (OT.append g' hn hs hg hl hg' ht hx hA hok h1 hbig hmax a w h)
theorem bd_one {l : List UInt8} {j : Nat} (h : j < l.length) : (l.flatMap bdv)[j]? = some (.v (.int .u8 ((l[j].toNat : Nat) : Int))) := by
  have := flat_one_get (fun b : UInt8 => DV.v (.int .u8 ((b.toNat : Nat) : Int))) l j
  rw [List.getElem?_eq_getElem h] at this
  exact this
theorem zrow_hash : ∀ n : Nat, (zrow (List.replicate 32 (Value.int .u8 0)) n).map DV.v = (List.replicate n zeroH).flatMap hdv
  | 0 => rfl
  | n + 1 => by
    rw [zrow, List.map_append, zrow_hash n]
    show _ = (zeroH :: List.replicate n zeroH).flatMap hdv
    rw [List.flatMap_cons]; rfl
/-- A proof whose way is of so many zeros. -/
def longP (n : Nat) : Pf := ⟨List.replicate n zeroH, 1, zeroIt⟩
end Go.Proofs.Ytejhgijjegnmnaa

