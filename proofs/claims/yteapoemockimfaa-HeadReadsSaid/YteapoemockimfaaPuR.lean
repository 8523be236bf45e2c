/-
  PutSig of the reference gives the same bytes.
-/
import Derived.Test.YteapoemockimfaaPut
namespace Go.Proofs.Yteapoemockimfaa
set_option linter.unusedVariables false
set_option linter.unusedSimpArgs false
open Go.RowKit

/-- append of bytes as one step of a region that draws its order. -/
theorem step_append_bytes {w : World} {ops : Array Oper} {o : Oper} {a : Act} {K : Act → World → Prop} {Q : Exit → Act → World → Prop} {E : Prop} (hgd : o.guard = none) (s x : Operand)
    (ho : o.op = .call { callee := .builtin .append, args := #[s, x], argTypes := #[29, 29] })
    (B : Nat) {v u : Value} {l m : List UInt8} (hs : a.eval s = v) (hx : a.eval x = u) (hv : Own w B v l) (hu : Rd w u m) (hl : l.length + m.length ≤ 1099511627776) (hB : B ≤ w.heap.size)
    (h : ∀ v' w', Own w' B v' (l ++ m) → w.grownBy w' v.ownBlock → K (a.put o.dst v') w') : if Region.wanted o (yielded ops a.tmps) = true then Oper.wp Try.prog o a w K Q else E := by
  have hw : Region.wanted o (yielded ops a.tmps) = true := by simp [Region.wanted, hgd]
  rw [if_pos hw]
  obtain ⟨v', w', hr, h1, h2⟩ := append_own w B o.type hv hu hl hB
  unfold Oper.wp execOp
  simp only [ho, resolve, invoke, builtin, Sem.run_bind, Sem.run_pure, Result.andThen_ok, List.map_toArray, List.map_cons, List.map_nil, hs, hx, hr]
  exact h v' w' h1 h2
theorem SigAt.grown {g : Nat} {r s : Int} {w w' : World} {row : Option Nat} (h : SigAt g r s w) (hg : g < w.heap.size) (hb : w.grownBy w' row) (hr : row ≠ some g) : SigAt g r s w' := by
  have e := hb.block g hg (fun e => hr e.symm)
  obtain ⟨h1, h2⟩ := h
  exact ⟨by simp only [World.cell?, e] at h1 ⊢; exact h1, by simp only [World.cell?, e] at h2 ⊢; exact h2⟩

set_option maxRecDepth 100000 in
set_option maxHeartbeats 3200000 in
theorem rput_any (r s : Int) (w : World) (r0 : 0 ≤ r) (r1 : r < 18446744073709551616) (s0 : 0 ≤ s) (s1 : s < 18446744073709551616) :
    Calls Try.prog 40 #[sigV r s] w (GivesOwn w (putF r s)) := by
  show Calls _ _ #[.agg #[.int .u64 r, .int .u64 s]] w _
  go_enter Try.func40, Try.ntmps40
  go_upto_region 1 with fail
  refine wp_world (fun W => SigAt w.heap.size r s W ∧ Below w.heap.size w W ∧ w.heap.size < W.heap.size) ⟨⟨by rw [cell_of_row _ _ _ _ _ _ (heap_alloc_new _ _)]; rfl, by rw [cell_of_row _ _ _ _ _ _ (heap_alloc_new _ _)]; rfl⟩, bl_alloc (Below.refl _ _) _, by simp⟩ ?_
  rintro W ⟨hS, hB, hlt⟩
  have HS := Lib.hid hS
  have HB := Lib.hid hB
  have HLT := Lib.hid hlt
  obtain ⟨hc0, hc1⟩ := hS
  clear hB hlt
  go_region_held3 (fun w' => w'.cell? ⟨w.heap.size, 0, none⟩ = some (.int .u64 r) ∧ w'.cell? ⟨w.heap.size, 1, none⟩ = some (.int .u64 s)) (first
    | exact ⟨hc0, hc1⟩
    | exact HS3.out
    | exact HS2.out
    | exact HS1.out) (first
    | (have _h := HU1; clear _h; go_at_call 31; refine (rnum_any _ _ s0 s1).mono ?_; rintro e w2 ⟨u2, rfl, hu2, hb2⟩; obtain ⟨a2, c2, rfl⟩ := hu2.rd.shape; have HU2 := Lib.hid hu2.rd; have HU12 := Lib.hid (HU1.out.below hb2); have HB2 := Lib.hid (bl_bl HB1.out hb2); have HS2 := Lib.hid (HS1.out.below HLT1.out hb2); have HLT2 := Lib.hid (Nat.lt_of_lt_of_le HLT1.out hb2.size); clear hu2 hb2)
    | (refine step_append_bytes rfl (.tmp 5) (.tmp 8) rfl (w.heap.size + 1) rfl rfl HU12.out HU2.out (by simp only [numB_length]; omega) HLT2.out ?_; intro u3 w3 ho3 hg3; have HU3 := Lib.hid ho3; have HB3 := Lib.hid (below_grown HB2.out hg3 (fun k hk => by have := HU12.out.row k hk; omega)); have HS3 := Lib.hid (HS2.out.grown HLT2.out hg3 (fun e => by have := HU12.out.row _ e; omega)); clear ho3 hg3)
    | (go_at_call 31; refine (rnum_any _ _ r0 r1).mono ?_; rintro e w1 ⟨u1, rfl, hu1, hb1⟩; obtain ⟨a1, c1, rfl⟩ := hu1.rd.shape; have HU1 := Lib.hid (hu1.mono HLT.out); have HB1 := Lib.hid (HB.out.trans ((bl_bl (Dr.below (Dr.drew (Dr.refl W)) _) hb1).mono HB.out.size)); have HS1 := Lib.hid (SigAt.below HS.out HLT.out (bl_bl (Dr.below (Dr.drew (Dr.refl W)) _) hb1)); have HLT1 := Lib.hid (Nat.lt_of_lt_of_le HLT.out hb1.size); clear hu1 hb1))
  go_wp2_with fail
  go_ret
  exact ⟨_, rfl, HU3.out.mono (by omega), HB3.out⟩
end Go.Proofs.Yteapoemockimfaa
