/-
  Slices of slices of bytes; Grow, Concat, Join, Clone of bytes.
-/
import Derived.Test.YteapoemockimfaaLmp
namespace Go.Proofs.Yteapoemockimfaa
set_option linter.unusedVariables false
set_option linter.unusedSimpArgs false
open Go.RowKit

/-- append(nil, make([]E, n)...): a new block of zeros. -/
theorem run_grow_nil {P : Program} (w : World) (t ti ty e : TypeId) (i : TypeInfo) (z : Value) (ht : P.underlying t = some (.slice e)) (hti : P.underlying ti = some (.int .i64)) (hi : P.info? e = some i) (hz : i.zero = some z)
    (n : Nat) (h0 : 0 < n) (hs : 0 < i.size) (h63 : (n : Int) ≤ 9223372036854775807) (h48 : n * i.bytes ≤ 281474976710656) :
    (Builtin.append_ #[t, ti] ty #[.slice none 0 0, .int .i64 (n : Int)]).run P w =
      .ok (.slice (some ⟨w.heap.size, 0, none⟩) n (grownCap w n 0 e)) (w.drew.alloc (.cells (Builtin.zeroCells z.cells n ++ Builtin.zeroCells z.cells (grownCap w n 0 e - n)) e)) := by
  have hn : n ≠ 0 := by omega
  have hn' : n * i.size ≠ 0 := Nat.mul_ne_zero hn (by omega)
  have hw : IntKind.i64.wrap (n : Int) = n := by rw [IntKind.wrap_i64]; omega
  have h63' : ¬ (9223372036854775807 < (n : Int)) := by omega
  have h48' : ¬ (281474976710656 < Builtin.nextslicecap n 0 * i.bytes) := by rw [nextslicecap_zero h0]; omega
  have h48'' : ¬ ((281474976710656 : Int) < (n : Int) * (i.bytes : Int)) := by
    have : ((n * i.bytes : Nat) : Int) ≤ 281474976710656 := by omega
    rw [Int.natCast_mul] at this; omega
  have hneg : ¬ ((n : Int) < 0) := by omega
  have hs' : i.size ≠ 0 := by omega
  simp [Builtin.append_, run_underlying ht, run_underlying hti, sizeOf, typeInfo, zeroValue, hi, hz, asInt, asIntOf, hw, hneg, hn, hs', h63', h48', h48'', Question.forced, Builtin.firstCells, newRow, grownCap]
  intro h; exact absurd h hn'

theorem own_grown (w : World) (B : Nat) (hB : B ≤ w.heap.size) (c n : Nat) (cs : Array Value) (hc : cs.size = c) (hm : c ≤ maxLen) :
    Own (w.alloc (.cells cs 5)) B (.slice (some ⟨w.heap.size, 0, none⟩) 0 c) [] := World.ownsRow_made w cs c hB hm (by rw [hc, Nat.mul_one])

/-- The same as the walk meets it: elements of one cell each. -/
theorem wpList_grow_nil {P : Program} {w : World} {ops : Array Oper} {rest : List Oper} {o : Oper} {a : Act} {Q : Exit → Act → World → Prop} (hgd : o.guard = none) (s x : Operand) (t ti e : TypeId) (z : Value) (size bytes : Nat)
    (ho : o.op = .call { callee := .builtin .append, args := #[s, x], argTypes := #[t, ti] })
    (ht : P.underlying t = some (.slice e)) (hti : P.underlying ti = some (.int .i64)) (hinfo : (P.info? e).map (fun i => (i.zero, i.size, i.bytes)) = some (some z, size, bytes)) (hz : z.cells.size = size) (hs : 0 < size)
    (n : Nat) (h0 : 0 < n) (hn : n * bytes ≤ 281474976710656) (hn2 : n ≤ maxLen) (hes : a.eval s = .slice none 0 0) (hex : a.eval x = .int .i64 (n : Int))
    (h : ∀ (cap : Nat) (cs : Array Value), n ≤ cap → cap ≤ maxLen → cs.size = cap * size → wpList P ops Q rest (a.put o.dst (.slice (some ⟨w.heap.size, 0, none⟩) n cap)) (w.drew.alloc (.cells cs e))) : wpList P ops Q (o :: rest) a w :=
  wpList_plain hgd fun K hK => by
    obtain ⟨i0, hi, hz0, hz1, hz2⟩ := info_parts hinfo
    have hr := run_grow_nil (P := P) w t ti o.type e i0 z ht hti hi hz0 n h0 (by omega) (by unfold maxLen at hn2; omega) (by rw [hz2]; exact hn)
    unfold Oper.wp execOp
    simp only [ho, resolve, invoke, builtin, Sem.run_bind, Sem.run_pure, Result.andThen_ok, List.map_toArray, List.map_cons, List.map_nil, hes, hex, hr]
    have hcap := grownCap_ge w n 0 e
    refine hK _ _ (h _ _ hcap (grownCap_le_maxLen w n 0 e hn2) ?_)
    simp only [Array.size_append, size_zeroCells, hz, ← Nat.add_mul]
    congr 1; omega

set_option maxHeartbeats 800000 in
theorem grow_any (n : Nat) (w : World) (hn : n ≤ 1099511627776) :
    Calls Try.prog 72 #[.slice none 0 0, .int .i64 (n : Int)] w (GivesOwn w []) := by
  by_cases h0 : n = 0
  · subst h0
    go_enter Try.func72, Try.ntmps72
    go_wp2
    go_ret
    exact ⟨_, rfl, Own.nil _ _, Below.refl _ _⟩
  · have h1 : 0 < n := by omega
    clear h0
    go_enter Try.func72, Try.ntmps72
    go_wp2_with (at_builtin; refine wpList_grow_nil rfl (.tmp 20) (.tmp 21) 29 3 5 _ 1 1 rfl Try.underlying29 Try.underlying3 info8 rfl (by omega) n h1 (by omega) (by unfold maxLen; omega) rfl rfl ?_; intro cap cs hcap hcap2 hcs)
    go_ret
    exact ⟨_, rfl, own_grown w.drew _ (Nat.le_refl _) cap n cs (by omega) hcap2, (Below.refl _ _).drew.alloc (Nat.le_refl _) _⟩

/-- A slice of slices of bytes that reads as these. -/
def RdL (w : World) (v : Value) (ls : List (List UInt8)) : Prop :=
  (v = .slice none 0 0 ∧ ls = []) ∨
  ∃ b o c, v = .slice (some ⟨b, o, none⟩) ls.length c ∧ ls.length ≤ c ∧ c ≤ maxLen ∧ ∀ i (h : i < ls.length), ∃ u, w.cell? ⟨b, o + i, none⟩ = some u ∧ Rd w u ls[i]
theorem RdL.shape {w : World} {v : Value} {l : List (List UInt8)} (h : RdL w v l) : ∃ a c, v = .slice a l.length c := by
  rcases h with ⟨rfl, rfl⟩ | ⟨b, o, c, rfl, _⟩
  · exact ⟨_, _, rfl⟩
  · exact ⟨_, _, rfl⟩
theorem RdL.below {w w' : World} {v : Value} {l : List (List UInt8)} (h : RdL w v l) (hb : Below w.heap.size w w') : RdL w' v l := by
  rcases h with h | ⟨b, o, c, hv, hc, hm, hcell⟩
  · exact .inl h
  · refine .inr ⟨b, o, c, hv, hc, hm, fun i hi => ?_⟩
    obtain ⟨u, h1, h2⟩ := hcell i hi
    exact ⟨u, by rw [hb.cell (World.block_lt_of_cell? w _ h1)]; exact h1, h2.below hb⟩
def totalLen (ls : List (List UInt8)) : Nat := (ls.map List.length).sum
end Go.Proofs.Yteapoemockimfaa
