/-
  Requests: the program's reader, errors and all; Lump; Read.
-/
import Derived.Test.YtbhkcgnlegmjlaaUpP
import Derived.Test.YtbhkcgnlegmjlaaStp
namespace Go.Proofs.Ytbhkcgnlegmjlaa
set_option linter.unusedVariables false
set_option linter.unusedSimpArgs false
open Go.RowKit

theorem RS.num_bd (z : RS) : isU64 z.num := numR_bd _ _
theorem rawErr_le (l : List UInt8) (x : Int) (n : Nat) : rawErr l x n = 0 ∨ rawErr l x n = 21 ∨ rawErr l x n = x := by unfold rawErr; split <;> (try split) <;> simp
theorem Own.grownG {w w' : World} {g : Nat} {v : Value} {l : List UInt8} (h : Own w (g + 1) v l) (hg : w.grownBy w' (some g)) : Own w' (g + 1) v l := by
  refine ⟨h.1, ?_⟩
  rcases h.2 with h | ⟨k, cap, cur, hv, hb, hk, r⟩
  · exact .inl h
  · exact .inr ⟨k, cap, cur, hv, hb, by rw [hg.block k (Array.getElem?_eq_some_iff.1 hk).1 (fun e => by simp at e; omega)]; exact hk, r⟩
theorem num_rs (g : Nat) (z : RS) (w : World) (hr : RdrAt w g z.l z.x) (hl : z.l.length ≤ 1099511627776) :
    Calls Try.prog 25 #[.pointer (some ⟨g, 0, none⟩)] w (GivesNum w g z.num z.next.l z.next.x) := rnumr_any g z.l z.x w hr hl
theorem err_any (g : Nat) (l : List UInt8) (x : Int) (w : World) (hr : RdrAt w g l x) :
    Calls Try.prog 26 #[.pointer (some ⟨g, 0, none⟩)] w fun e w' => e = .returned (.int .i64 x) ∧ w = w' := by
  obtain ⟨u, hg, hu, hold⟩ := hr
  obtain ⟨c0, c1, f0, f1⟩ := cell_two w g u _ _ hg
  clear hg hu hold
  go_enter Try.func26, Try.ntmps26
  go_wp2_with fail
  go_ret
  exact ⟨rfl, rfl⟩
theorem left_any (g : Nat) (l : List UInt8) (x : Int) (w : World) (hr : RdrAt w g l x) :
    Calls Try.prog 27 #[.pointer (some ⟨g, 0, none⟩)] w fun e w' => e = .returned (.int .i64 (l.length : Int)) ∧ w = w' := by
  obtain ⟨u, hg, hu, hold⟩ := hr
  obtain ⟨a, c, rfl⟩ := hu.shape
  obtain ⟨c0, c1, f0, f1⟩ := cell_two w g _ _ _ hg
  clear hg hu hold
  go_enter Try.func27, Try.ntmps27
  go_wp2_with fail
  go_ret
  exact ⟨rfl, rfl⟩

set_option maxRecDepth 100000 in
set_option maxHeartbeats 3200000 in
theorem lump_rs (g : Nat) (z : RS) (w : World) (hr : RdrAt w g z.l z.x) (hl : z.l.length ≤ 1099511627776) :
    Calls Try.prog 23 #[.pointer (some ⟨g, 0, none⟩), .int .i64 32] w (GivesRaw w g (lmpOut 32 z.l z.x) z.lump.l z.lump.x) := by
  show Calls _ _ _ _ (GivesRaw w g (lmpOut 32 z.l z.x) (lmpRest 32 z.l z.x) (lmpErr 32 z.l z.x))
  obtain ⟨l, x⟩ := z
  show Calls _ _ _ _ (GivesRaw w g (lmpOut 32 l x) (lmpRest 32 l x) (lmpErr 32 l x))
  have hnum := rnumr_any g l x w hr hl
  have hn := numR_bd l x
  have hle : (rawRest l x 8).length ≤ 1099511627776 := Nat.le_trans (rawRest_le l x 8) hl
  unfold numR at hn
  unfold lmpOut lmpRest lmpErr
  generalize leNum (rawOut l x 8) = n at *
  generalize rawRest l x 8 = r at *
  generalize rawErr l x 8 = y at *
  have HN := Lib.hid hnum
  obtain ⟨n0, n1⟩ := hn
  clear hnum hr hl
  by_cases hy : y = 0
  case neg =>
    simp only [if_neg hy]
    have hy1 : (y != 0) = true := by simpa using hy
    go_enter Try.func23, Try.ntmps23
    go_wp2_with fail
    refine HN.out.mono ?_
    rintro e w1 ⟨rfl, hr, hg⟩
    have HR := Lib.hid hr
    have HG := Lib.hid hg
    obtain ⟨u, hgu, hu, hold⟩ := hr
    obtain ⟨c0, c1, f0, f1⟩ := cell_two w1 g u _ _ hgu
    clear hg hgu hu hold
    go_wp2_with fail
    go_ret
    exact ⟨_, rfl, Own.nil _ _, HR.out, HG.out⟩
  subst hy
  simp only [if_true]
  by_cases h32 : 32 < n
  · simp only [if_pos h32]
    go_enter Try.func23, Try.ntmps23
    go_wp2_with fail
    refine HN.out.mono ?_
    rintro e w1 ⟨rfl, hr, hg⟩
    have HR := Lib.hid hr
    have HG := Lib.hid hg
    obtain ⟨u, hgu, hu, hold⟩ := hr
    obtain ⟨c0, c1, f0, f1⟩ := cell_two w1 g u _ _ hgu
    clear hg hgu hu hold
    go_wp2_with fail
    refine (fail_any g r 0 22 _ HR.out).mono ?_
    rintro e w2 ⟨rfl, hr2, hg2⟩
    have HR2 := Lib.hid hr2
    have HG2 := Lib.hid (grown_trans HG.out hg2)
    clear hr2 hg2
    go_wp2_with fail
    go_ret
    exact ⟨_, rfl, Own.nil _ _, HR2.out, HG2.out⟩
  simp only [if_neg h32]
  obtain ⟨k, rfl⟩ := Int.eq_ofNat_of_zero_le n0
  rw [Int.toNat_natCast]
  have HLE := Lib.hid hle
  have hw : IntKind.u64.wrap (r.length : Int) = r.length := by rw [IntKind.wrap_u64]; omega
  have hw2 : IntKind.i64.wrap (k : Int) = k := by rw [IntKind.wrap_i64]; omega
  have hk1 : k ≤ 9223372036854775807 := by omega
  have HK1 := Lib.hid hk1
  clear hk1 hle n0 n1
  by_cases hk : r.length < k
  · have hk' : (r.length : Int) < (k : Int) := by omega
    have e1 : rawOut r 0 k = [] := by unfold rawOut; rw [if_pos rfl, if_neg (by omega)]
    have e2 : rawRest r 0 k = [] := by unfold rawRest; rw [if_pos rfl, if_neg (by omega)]
    have e3 : rawErr r 0 k = 21 := by unfold rawErr; rw [if_pos rfl, if_neg (by omega)]
    rw [e1, e2, e3]
    clear e1 e2 e3 hk
    go_enter Try.func23, Try.ntmps23
    go_wp2_with fail
    refine HN.out.mono ?_
    rintro e w1 ⟨rfl, hr, hg⟩
    have HR := Lib.hid hr
    have HG := Lib.hid hg
    obtain ⟨u, hgu, hu, hold⟩ := hr
    obtain ⟨a, c, rfl⟩ := hu.shape
    obtain ⟨c0, c1, f0, f1⟩ := cell_two w1 g _ _ _ hgu
    clear hg hgu hu hold
    go_wp2_with fail
    refine (fail_any g r 0 21 _ HR.out).mono ?_
    rintro e w2 ⟨rfl, hr2, hg2⟩
    have HR2 := Lib.hid hr2
    have HG2 := Lib.hid (grown_trans HG.out hg2)
    clear hr2 hg2
    go_wp2_with fail
    go_ret
    exact ⟨_, rfl, Own.nil _ _, HR2.out, HG2.out⟩
  · have hk' : ¬ ((r.length : Int) < (k : Int)) := by omega
    clear hk
    go_enter Try.func23, Try.ntmps23
    go_wp2_with fail
    refine HN.out.mono ?_
    rintro e w1 ⟨rfl, hr, hg⟩
    have HR := Lib.hid hr
    have HG := Lib.hid hg
    obtain ⟨u, hgu, hu, hold⟩ := hr
    obtain ⟨a, c, rfl⟩ := hu.shape
    obtain ⟨c0, c1, f0, f1⟩ := cell_two w1 g _ _ _ hgu
    clear hg hgu hu hold
    go_wp2_with fail
    refine (raw_any g k r 0 _ HR.out HK1.out HLE.out).mono ?_
    rintro e w2 ⟨v, rfl, ho, hr2, hg2⟩
    have HO := Lib.hid (ho.mono HG.out.size)
    have HR2 := Lib.hid hr2
    have HG2 := Lib.hid (grown_trans HG.out hg2)
    clear ho hr2 hg2
    go_wp2_with fail
    go_ret
    exact ⟨_, rfl, HO.out, HR2.out, HG2.out⟩

theorem lump_u (g : Nat) (b : List UInt8) (w : World) (hr : RdrAt w g b 0) (hl : b.length ≤ 1099511627776) :
    Calls Try.prog 23 #[.pointer (some ⟨g, 0, none⟩), .int .i64 32] w (GivesRaw w g (lmpOut 32 b 0) (ust b 0).l (ust b 0).x) := lump_rs g ⟨b, 0⟩ w hr hl
theorem num_u (g : Nat) (b : List UInt8) (n : Nat) (w : World) (hr : RdrAt w g (ust b n).l (ust b n).x) (hl : b.length ≤ 1099511627776) :
    Calls Try.prog 25 #[.pointer (some ⟨g, 0, none⟩)] w (GivesNum w g (ust b n).num (ust b (n + 1)).l (ust b (n + 1)).x) := num_rs g (ust b n) w hr (Nat.le_trans (ust_le _ _) hl)
/-- What stands while Read reads: the result's box, the reader. -/
structure RdI (w cur : World) (g : Nat) (z : RS) : Prop where
  res : UA w.heap.size zeroU cur
  bel : Below w.heap.size w cur
  rdr : RdrAt cur g z.l z.x
  lt : w.heap.size < g
theorem RdI.glt {w cur : World} {g : Nat} {z : RS} (h : RdI w cur g z) : g < cur.heap.size := by obtain ⟨u, hg, _⟩ := h.rdr; exact (Array.getElem?_eq_some_iff.1 hg).1
theorem RdI.read {w cur w' : World} {g : Nat} {z z' : RS} (h : RdI w cur g z) (hr : RdrAt w' g z'.l z'.x) (hg : cur.grownBy w' (some g)) : RdI w w' g z' :=
  ⟨h.res.grown hg (fun e => by have := h.lt; simp at e; omega), below_grown h.bel hg (fun k hk => by have := h.lt; simp at hk; omega), hr, h.lt⟩
theorem RdI.below {w cur w' : World} {g : Nat} {z : RS} (h : RdI w cur g z) (hb : Below cur.heap.size cur w') : RdI w w' g z := ⟨h.res.below hb, bl_bl h.bel hb, h.rdr.below hb, h.lt⟩
theorem RdI.alloc {w cur : World} {g : Nat} {z : RS} (h : RdI w cur g z) (o : Obj) : RdI w (cur.alloc o) g z := h.below (bl_alloc (Below.refl _ _) o)
theorem RdI.drewN {w cur : World} {g : Nat} {z : RS} (h : RdI w cur g z) (n : Nat) : RdI w (cur.drewN n) g z := h.below (Dr.below (Dr.drewN (Dr.refl _) n) _)
theorem RdI.drew {w cur : World} {g : Nat} {z : RS} (h : RdI w cur g z) : RdI w cur.drew g z := h.drewN 1
theorem RdI.setRow {w cur : World} {g k : Nat} {z : RS} (h : RdI w cur g z) (hk : g < k) (cs : Array Value) : RdI w (cur.setRow k cs) g z := by
  have h1 := h.lt
  exact ⟨⟨by rw [setRow_other _ _ _ _ (by omega)]; exact h.res.row⟩, below_setRow h.bel (by omega), h.rdr.setRow hk cs, h.lt⟩
theorem RdrAt.setFar {w : World} {g k o : Nat} {l : List UInt8} {e : Int} (h : RdrAt w g l e) (hk : g < k) (u : Value) : RdrAt (w.setCell ⟨k, o, none⟩ u) g l e := by
  obtain ⟨x, hg, hx, ho⟩ := h
  refine ⟨x, by rw [heap_far _ _ _ _ _ (by omega)]; exact hg, ?_, ho⟩
  rcases hx with hx | ⟨b', o', c, rfl, hc, hm, hcell⟩
  · exact .inl hx
  · refine .inr ⟨b', o', c, rfl, hc, hm, fun i hi => ?_⟩
    have hb := ho ⟨b', o', none⟩ _ _ rfl
    simp at hb
    rw [← hcell i hi, cell_far _ _ _ _ _ _ (by omega)]
theorem RdI.setCell {w cur : World} {g k o : Nat} {z : RS} (h : RdI w cur g z) (hk : g < k) (u : Value) : RdI w (cur.setCell ⟨k, o, none⟩ u) g z := by
  have h1 := h.lt
  exact ⟨⟨by rw [heap_far _ _ _ _ _ (by omega)]; exact h.res.row⟩, below_set h.bel _ _ _ (by omega), h.rdr.setFar hk u, h.lt⟩
theorem step_store_up {w : World} {ops : Array Oper} {o : Oper} {a : Act} {K : Act → World → Prop} {Q : Exit → Act → World → Prop} {E : Prop} (hgd : o.guard = none) (x y : Operand) (ho : o.op = .store 85 x y)
    (g : Nat) (u : Up) (hx : a.eval x = .pointer (some ⟨g, 0, none⟩)) (hy : a.eval y = .agg u.cells.toArray) (u0 : Up) (hg : UA g u0 w)
    (h : ∀ w', w' = w.setRow g u.cells.toArray → K (a.put o.dst undef) w') : if Region.wanted o (yielded ops a.tmps) = true then Oper.wp Try.prog o a w K Q else E := by
  have hw : Region.wanted o (yielded ops a.tmps) = true := by simp [Region.wanted, hgd]
  rw [if_pos hw]
  exact wp_store_row 85 x y ho g u.cells.toArray hx hy 85 _ hg.row (up_size u) rfl (all_oneCell_toArray u.cells_one) (h _ rfl)
/-- What has been read ahead of the signature. -/
def preU (b : List UInt8) : Up := ⟨lmpOut 32 b 0, nearV (ust b 0).num, (ust b 1).num, nearV (ust b 2).num, 0, 0⟩
theorem preU_sig (b : List UInt8) : ({ preU b with r := (ust b 3).num, s := (ust b 4).num } : Up) = parseU nearV b := rfl
theorem up_zero : (#[.string ⟨#[]⟩, .int .i64 0, .int .u64 0, .int .i64 0, .int .u64 0, .int .u64 0] : Array Value) = zeroU.cells.toArray := rfl
theorem up_loads {w : World} {g : Nat} {u : Up} (h : UA g u w) : (loadVar 85 ⟨g, 0, none⟩).run Try.prog w = .ok (upV u) w :=
  run_loadVar_row w g 85 85 _ (0, 0) _ h.row Try.underlying85 rfl (up_size u)
theorem run_alloc_up (w : World) : (Instr.alloc 85 true (.tuple #[])).run Try.prog w = .ok (.pointer (some ⟨w.heap.size, 0, none⟩)) (w.alloc (.cells zeroU.cells.toArray 85)) := by kernel_rfl
theorem built_up0 : Try.prog.built 85 [] = some zeroU.cells.toArray := by kernel_rfl
/-- What Read tells. -/
def GivesReadU (w : World) (b : List UInt8) (e : Ending) (w' : World) : Prop := e = .returned (.tuple #[upV (readU b).1, .int .i64 (readU b).2]) ∧ Below w.heap.size w w'
end Go.Proofs.Ytbhkcgnlegmjlaa
