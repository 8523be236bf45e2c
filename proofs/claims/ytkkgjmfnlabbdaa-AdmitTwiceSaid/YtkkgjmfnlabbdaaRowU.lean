/-
  Opening the arguments of a law: a slice of numbers, a request; what a slice of numbers reads as.
-/
import Derived.Test.YtkkgjmfnlabbdaaUpR
import Derived.ChangeArms
namespace Go.Proofs.Ytkkgjmfnlabbdaa
set_option linter.unusedVariables false
set_option maxRecDepth 100000
set_option linter.unusedSimpArgs false
open Go.RowKit Go.ChangeShapes Go.WideShapes Go.ChangeAt

/-- A slice of numbers that reads as these. -/
def RdN (w : World) (v : Value) (l : List Int) : Prop :=
  (v = .slice none 0 0 ∧ l = []) ∨
  ∃ b o c, v = .slice (some ⟨b, o, none⟩) l.length c ∧ l.length ≤ c ∧ c ≤ maxLen ∧ ∀ i (h : i < l.length), w.cell? ⟨b, o + i, none⟩ = some (.int .u64 l[i]) ∧ isU64 l[i]
theorem RdN.shape {w : World} {v : Value} {l : List Int} (h : RdN w v l) : ∃ a c, v = .slice a l.length c := by
  rcases h with ⟨rfl, rfl⟩ | ⟨b, o, c, rfl, _⟩
  · exact ⟨_, _, rfl⟩
  · exact ⟨_, _, rfl⟩
theorem RdN.below {w w' : World} {v : Value} {l : List Int} (h : RdN w v l) (hb : Below w.heap.size w w') : RdN w' v l := by
  rcases h with h | ⟨b, o, c, hv, hc, hm, hcell⟩
  · exact .inl h
  · refine .inr ⟨b, o, c, hv, hc, hm, fun i hi => ?_⟩
    have h1 := hcell i hi
    exact ⟨by rw [hb.cell (World.block_lt_of_cell? w _ h1.1)]; exact h1.1, h1.2⟩
theorem RdN.bd {w : World} {v : Value} {l : List Int} (h : RdN w v l) (i : Nat) (hi : i < l.length) : isU64 l[i] := by
  rcases h with ⟨_, rfl⟩ | ⟨b, o, c, hv, hc, hm, hcell⟩
  · simp at hi
  · exact (hcell i hi).2
theorem spotN_none {t e : TypeId} {W : World} {base : Nat} {a : Addr} {len cap : Nat} (ht : Try.prog.underlying t = some (.slice e)) (hval : Value.okWide Try.prog W .any base t (.slice (some a) len cap)) : a.spot = none := spot_none ht hval
/-- A slice of numbers that comes in reads as some numbers. -/
theorem open_nums {H : Type} {enc : TypeId × Value → H} {W : World} {base : Nat} {t : TypeId} {v : Value} {d : DataW H} {ps : List MemPlace} (ht : Try.prog.underlying t = some (.slice 23))
    (hval : Value.okWide Try.prog W .any base t v) (h : DataW.Trod enc Try.prog W 0 (fun _ => true) true t v d ps) : ∃ l, RdN W v l := by
  obtain ⟨a, len, cap, rfl⟩ := okWide_slice ht hval
  obtain ⟨fuel, hf⟩ := h
  rcases open_ints ht Try.underlying23 (by kernel_rfl) hf with ⟨hcs, _⟩ | ⟨x, l, c, zs, hcs, _, hl, hm, hz, _, hcell, hwz⟩
  · simp [Value.cells] at hcs
    obtain ⟨rfl, rfl, rfl⟩ := hcs
    exact ⟨[], .inl ⟨rfl, rfl⟩⟩
  · simp [Value.cells] at hcs
    obtain ⟨rfl, rfl, rfl⟩ := hcs
    obtain ⟨b, o, sp⟩ := x
    obtain rfl : sp = none := spot_none ht hval
    simp only [if_true] at hz
    have hlen : (zs.take len).length = len := by simp; omega
    refine ⟨zs.take len, .inr ⟨b, o, cap, by rw [hlen], by omega, hm, fun i hi => ?_⟩⟩
    have hi' : i < len := by omega
    have hiz : i < zs.length := by omega
    have h1 := hcell i hiz
    rw [addr_add] at h1
    rw [h1]
    have hw := bounds_u64 (hwz (zs[i]) (List.getElem_mem hiz))
    simp only [List.getElem_take]
    rw [List.getD_eq_getElem?_getD, List.getElem?_eq_getElem hiz]
    exact ⟨rfl, hw.1, by omega⟩

/-- A request that comes in. -/
structure Up.inn (u : Up) : Prop where
  nm : u.nm.length ≤ maxLen
  ver : isI64 u.ver
  key : isU64 u.key
  cls : isI64 u.cls
  r : isU64 u.r
  s : isU64 u.s
theorem open_up {H : Type} {enc : TypeId × Value → H} {W : World} {base : Nat} {v : Value} {d : DataW H} {ps : List MemPlace}
    (hval : Value.okWide Try.prog W .any base 27 v) (h : DataW.Trod enc Try.prog W 0 (fun _ => true) true 27 v d ps) :
    ∃ u : Up, v = upV u ∧ u.inn := by
  unfold Value.okWide at hval
  rw [Try.underlying27] at hval
  simp only at hval
  obtain ⟨cs, rfl, _, _⟩ := hval
  obtain ⟨fuel, hf⟩ := h
  obtain ⟨xs, n, _, _, hl, hlen, hel⟩ := DataW.trod_struct Try.underlying27 hf
  have hi : Try.prog.cellsOf 3 = 1 := by kernel_rfl
  have hj : Try.prog.cellsOf 23 = 1 := by kernel_rfl
  have hs : Try.prog.cellsOf 9 = 1 := by kernel_rfl
  have hg : Try.prog.cellsOf 25 = 2 := by kernel_rfl
  have hc : Try.prog.cellsOf 27 = 6 := by kernel_rfl
  simp only [Value.cells] at hl hel
  rw [hc] at hl
  obtain ⟨L, hL⟩ : ∃ L, L = cs.toList := ⟨_, rfl⟩
  rw [← hL] at hl hel
  match L, hl, xs, hlen with
  | [c0, c1, c2, c3, c4, c5], _, [y0, y1, y2, y3, y4], _ =>
    have e0 : DataW.trod enc Try.prog W 0 (fun _ => true) true n 9 [c0] = some y0 := by
      have h := hel 0 _ rfl
      simpa [hs, hi, hj, hg] using h
    have e1 : DataW.trod enc Try.prog W 0 (fun _ => true) true n 3 [c1] = some y1 := by
      have h := hel 1 _ rfl
      simpa [hs, hi, hj, hg] using h
    have e2 : DataW.trod enc Try.prog W 0 (fun _ => true) true n 23 [c2] = some y2 := by
      have h := hel 2 _ rfl
      simpa [hs, hi, hj, hg] using h
    have e3 : DataW.trod enc Try.prog W 0 (fun _ => true) true n 3 [c3] = some y3 := by
      have h := hel 3 _ rfl
      simpa [hs, hi, hj, hg] using h
    have e4 : DataW.trod enc Try.prog W 0 (fun _ => true) true n 25 [c4, c5] = some y4 := by
      have h := hel 4 _ rfl
      simpa [hs, hi, hj, hg] using h
    obtain ⟨s0, q0, _, b0⟩ := DataW.trod_string Try.underlying9 e0
    obtain ⟨z1, q1, _, b1⟩ := DataW.trod_int Try.underlying3 e1
    obtain ⟨z2, q2, _, b2⟩ := DataW.trod_int Try.underlying23 e2
    obtain ⟨z3, q3, _, b3⟩ := DataW.trod_int Try.underlying3 e3
    obtain ⟨zs, m, _, _, _, hlen2, hel2⟩ := DataW.trod_struct Try.underlying25 e4
    match zs, hlen2 with
    | [y5, y6], _ =>
      have e5 : DataW.trod enc Try.prog W 0 (fun _ => true) true m 23 [c4] = some y5 := by
        have h := hel2 0 _ rfl
        simpa [hj] using h
      have e6 : DataW.trod enc Try.prog W 0 (fun _ => true) true m 23 [c5] = some y6 := by
        have h := hel2 1 _ rfl
        simpa [hj] using h
      obtain ⟨z5, q5, _, b5⟩ := DataW.trod_int Try.underlying23 e5
      obtain ⟨z6, q6, _, b6⟩ := DataW.trod_int Try.underlying23 e6
      simp only [List.cons.injEq, and_true] at q0 q1 q2 q3 q5 q6
      subst q0 q1 q2 q3 q5 q6
      obtain ⟨a1, a2⟩ := bounds_i64 b1
      obtain ⟨a3, a4⟩ := bounds_u64 b2
      obtain ⟨a5, a6⟩ := bounds_i64 b3
      obtain ⟨a7, a8⟩ := bounds_u64 b5
      obtain ⟨a9, a10⟩ := bounds_u64 b6
      refine ⟨⟨s0.data.toList, z1, z2, z3, z5, z6⟩, ?_, ⟨b0, ⟨a1, by show z1 < _; omega⟩, ⟨a3, by show z2 < _; omega⟩, ⟨a5, by show z3 < _; omega⟩, ⟨a7, by show z5 < _; omega⟩, ⟨a9, by show z6 < _; omega⟩⟩⟩
      unfold upV Up.cells strV
      rw [show cs = [Value.string s0, .int .i64 z1, .int .u64 z2, .int .i64 z3, .int .u64 z5, .int .u64 z6].toArray by rw [hL]]
end Go.Proofs.Ytkkgjmfnlabbdaa
