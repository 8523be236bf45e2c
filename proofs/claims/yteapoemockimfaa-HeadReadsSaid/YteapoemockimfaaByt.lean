/-
  Bytes in memory: what a slice of bytes reads as; what an append to a slice of one's own leaves.
-/
import Derived.Test.YteapoemockimfaaKit
import Derived.OwnWalk
import Derived.Laws.OwnMore
namespace Go.Proofs.Yteapoemockimfaa
set_option linter.unusedVariables false
set_option linter.unusedSimpArgs false
open Go.RowKit

/-- A byte's value; the cells of bytes. -/
def bv (b : UInt8) : Value := .int .u8 (b.toNat : Int)
def bvs (l : List UInt8) : List Value := l.map bv
theorem bvs_length (l : List UInt8) : (bvs l).length = l.length := by simp [bvs]
theorem bvs_append (l m : List UInt8) : bvs (l ++ m) = bvs l ++ bvs m := by simp [bvs]
theorem bvs_one (l : List UInt8) : ∀ u ∈ bvs l, u.oneCell' = true := by
  intro u hu; simp only [bvs, List.mem_map] at hu; obtain ⟨b, _, rfl⟩ := hu; rfl
theorem bvs_get (l : List UInt8) (i : Nat) (h : i < l.length) : (bvs l)[i]? = some (bv l[i]) := by simp [bvs, h]

theorem info8 : (Try.prog.info? 5).map (fun i => (i.zero, i.size, i.bytes)) = some (some (.int .u8 0), 1, 1) := by kernel_rfl

/-- A slice value that reads as these bytes. -/
def Rd (w : World) (v : Value) (l : List UInt8) : Prop :=
  (v = .slice none 0 0 ∧ l = []) ∨
  ∃ b o c, v = .slice (some ⟨b, o, none⟩) l.length c ∧ l.length ≤ c ∧ c ≤ maxLen ∧ ∀ i (h : i < l.length), w.cell? ⟨b, o + i, none⟩ = some (bv l[i])

theorem Rd.nil (w : World) : Rd w (.slice none 0 0) [] := .inl ⟨rfl, rfl⟩
theorem Rd.below {w w' : World} {v : Value} {l : List UInt8} (h : Rd w v l) (hb : Below w.heap.size w w') : Rd w' v l := by
  rcases h with h | ⟨b, o, c, hv, hc, hm, hcell⟩
  · exact .inl h
  · refine .inr ⟨b, o, c, hv, hc, hm, fun i hi => ?_⟩
    have h1 := hcell i hi
    rw [hb.cell (World.block_lt_of_cell? w _ h1)]; exact h1
theorem Rd.from {a w w' : World} {v : Value} {l : List UInt8} (h : Rd a v l) (hb : Below a.heap.size a w) : Rd w v l := h.below hb

theorem Rd.drewN {w : World} {v : Value} {l : List UInt8} (h : Rd w v l) (n : Nat) : Rd (w.drewN n) v l := h

/-- What a slice of one's own holds. -/
def Own (w : World) (B : Nat) (v : Value) (l : List UInt8) : Prop := w.ownsRow B 5 1 v l.length (bvs l)
theorem Own.nil (w : World) (B : Nat) : Own w B (.slice none 0 0) [] := World.ownsRow_nil w B _ _
theorem addr_add (b o j : Nat) : (⟨b, o, none⟩ : Addr).add j = ⟨b, o + j, none⟩ := by
  unfold Addr.add; split
  · rename_i h; subst h; rfl
  · rfl
theorem Own.rd {w : World} {B : Nat} {v : Value} {l : List UInt8} (h : Own w B v l) : Rd w v l := by
  rcases h.2 with ⟨rfl, hn⟩ | ⟨g, cap, cur, rfl, hb, hg, hnc, hcm, hcs, htake⟩
  · exact .inl ⟨rfl, List.eq_nil_of_length_eq_zero hn⟩
  · refine .inr ⟨g, 0, cap, rfl, hnc, hcm, fun i hi => ?_⟩
    have := World.ownsRow.cells h (g := g) rfl i (bv l[i]) (bvs_get l i hi)
    rwa [addr_add] at this
theorem Own.mono {w : World} {B B' : Nat} {v : Value} {l : List UInt8} (h : Own w B v l) (hB : B' ≤ B) : Own w B' v l := by
  refine ⟨h.1, ?_⟩
  rcases h.2 with h | ⟨g, cap, cur, hv, hb, r⟩
  · exact .inl h
  · exact .inr ⟨g, cap, cur, hv, by omega, r⟩
theorem Own.below {w w' : World} {B : Nat} {v : Value} {l : List UInt8} (h : Own w B v l) (hb : Below w.heap.size w w') : Own w' B v l := by
  refine ⟨h.1, ?_⟩
  rcases h.2 with h | ⟨g, cap, cur, hv, hbg, hg, r⟩
  · exact .inl h
  · exact .inr ⟨g, cap, cur, hv, hbg, by rw [hb.block g (Array.getElem?_eq_some_iff.1 hg).1]; exact hg, r⟩

/-- Behind a law that ends in 'grownBy': all that was there but the row. -/
theorem below_grown {a w w' : World} {row : Option Nat} (h : Below a.heap.size a w) (hg : w.grownBy w' row) (hr : ∀ k, row = some k → a.heap.size ≤ k) : Below a.heap.size a w' :=
  h.grown hg h.size hr
theorem Own.row {w : World} {B : Nat} {v : Value} {l : List UInt8} (h : Own w B v l) : ∀ k, v.ownBlock = some k → B ≤ k := fun k hk => (World.ownsRow.lt h k hk).1

/-- append(dst, src...) of bytes, to a slice of one's own: from any bytes that read. -/
theorem append_own (w : World) (B : Nat) (ty : TypeId) {v u : Value} {l m : List UInt8} (hv : Own w B v l) (hu : Rd w u m) (hl : l.length + m.length ≤ 1099511627776) (hB : B ≤ w.heap.size) :
    ∃ v' w', (Builtin.append_ #[29, 29] ty #[v, u]).run Try.prog w = .ok v' w' ∧ Own w' B v' (l ++ m) ∧ w.grownBy w' v.ownBlock := by
  obtain ⟨i0, hi, hz0, hz1, hz2⟩ := info_parts info8
  rcases hu with ⟨rfl, rfl⟩ | ⟨b, o, c, rfl, hc, hm, hcell⟩
  · refine ⟨v, w, run_append_owned_none w B _ _ _ i0 1 Try.underlying29 hi v _ _ hv, by rw [List.append_nil]; exact hv, ⟨rfl, rfl, rfl, Nat.le_refl _, fun _ _ _ => rfl⟩⟩
  · obtain ⟨v', w', hr, h1, h2, _⟩ := run_append_own (P := Try.prog) w B 29 ty 5 i0 (.int .u8 0) 1 1 Try.underlying29 hi hz0 hz1 hz2 rfl (by decide) v l.length (bvs l) hv
      ⟨b, o, none⟩ m.length c (bvs m) (by simp [bvs]) (fun j x hx => by
        have hj : j < m.length := by have := (List.getElem?_eq_some_iff.1 hx).1; simpa [bvs] using this
        rw [bvs_get m j hj] at hx
        rw [addr_add, hcell j hj]; exact hx) (bvs_one m) (by unfold maxLen; omega) (by omega) hB
    refine ⟨v', w', hr, ?_, h2⟩
    show w'.ownsRow _ _ _ _ _ _
    rw [bvs_append, List.length_append]
    exact h1

/-- The same as the walk meets it. -/
theorem wpList_append_bytes {w : World} {ops : Array Oper} {rest : List Oper} {o : Oper} {a : Act} {Q : Exit → Act → World → Prop} (hgd : o.guard = none) (s x : Operand)
    (ho : o.op = .call { callee := .builtin .append, args := #[s, x], argTypes := #[29, 29] })
    (B : Nat) {v u : Value} {l m : List UInt8} (hs : a.eval s = v) (hx : a.eval x = u) (hv : Own w B v l) (hu : Rd w u m) (hl : l.length + m.length ≤ 1099511627776) (hB : B ≤ w.heap.size)
    (h : ∀ v' w', Own w' B v' (l ++ m) → w.grownBy w' v.ownBlock → wpList Try.prog ops Q rest (a.put o.dst v') w') : wpList Try.prog ops Q (o :: rest) a w :=
  wpList_plain hgd fun K hK => by
    obtain ⟨v', w', hr, h1, h2⟩ := append_own w B o.type hv hu hl hB
    unfold Oper.wp execOp
    simp only [ho, resolve, invoke, builtin, Sem.run_bind, Sem.run_pure, Result.andThen_ok, List.map_toArray, List.map_cons, List.map_nil, hs, hx, hr]
    exact hK _ _ (h v' w' h1 h2)

/-- A slice of one's own out of a literal block. -/
theorem own_lit (w : World) (B : Nat) (l : List UInt8) (hB : B ≤ w.heap.size) (hl : l.length ≤ maxLen) :
    Own (w.alloc (.cells (bvs l).toArray 5)) B (.slice (some ⟨w.heap.size, 0, none⟩) l.length l.length) l :=
  World.ownsRow_lit w (bvs l).toArray l.length hB hl (by simp [bvs])
end Go.Proofs.Yteapoemockimfaa
