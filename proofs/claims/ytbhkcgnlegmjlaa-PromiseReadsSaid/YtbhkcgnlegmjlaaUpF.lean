/-
  The reference's reader, errors and all.
-/
import Derived.Test.YtbhkcgnlegmjlaaUpC
namespace Go.Proofs.Ytbhkcgnlegmjlaa
set_option linter.unusedVariables false
set_option linter.unusedSimpArgs false
open Go.RowKit

/-- A reader of the reference at a block: the bytes that are left, the first error. -/
def RRx (w : World) (g : Nat) (l : List UInt8) (x : Int) : Prop :=
  ∃ u, w.heap[g]? = some (.cells #[u, .int .i64 x] 65 (0, 0)) ∧ Rd w u l ∧ (l ≠ [] → OldThan u g)
theorem RRx.below {w w' : World} {g : Nat} {l : List UInt8} {x : Int} (h : RRx w g l x) (hb : Below w.heap.size w w') : RRx w' g l x := by
  obtain ⟨u, hg, hu, ho⟩ := h
  exact ⟨u, by rw [hb.block g (Array.getElem?_eq_some_iff.1 hg).1]; exact hg, hu.below hb, ho⟩
theorem RRx.lt {w : World} {g : Nat} {l : List UInt8} {x : Int} (h : RRx w g l x) : g < w.heap.size := by obtain ⟨u, hg, _⟩ := h; exact (Array.getElem?_eq_some_iff.1 hg).1
theorem RRx.c1 {w : World} {g : Nat} {l : List UInt8} {x : Int} (h : RRx w g l x) : w.cell? ⟨g, 1, none⟩ = some (.int .i64 x) := by
  obtain ⟨u, hg, _⟩ := h
  exact (cell_two w g _ _ _ hg).2.1
theorem RRx.c0 {w : World} {g : Nat} {l : List UInt8} {x : Int} (h : RRx w g l x) : ∃ a c, w.cell? ⟨g, 0, none⟩ = some (.slice a l.length c) := by
  obtain ⟨u, hg, hu, _⟩ := h
  obtain ⟨a, c, rfl⟩ := hu.shape
  exact ⟨a, c, (cell_two w g _ _ _ hg).1⟩
theorem RRx.setRow {w : World} {g k : Nat} {l : List UInt8} {x : Int} (h : RRx w g l x) (hk : g < k) (cs : Array Value) : RRx (w.setRow k cs) g l x := by
  obtain ⟨u, hg, hu, ho⟩ := h
  refine ⟨u, by rw [setRow_other _ _ _ _ (by omega)]; exact hg, ?_, ho⟩
  by_cases hl : l = []
  · subst hl
    rcases hu with hu | ⟨b, o, c, hv, hc, hm, _⟩
    · exact .inl hu
    · exact .inr ⟨b, o, c, hv, hc, hm, fun i hi => by simp at hi⟩
  · exact rd_far hu (ho hl) (Nat.le_of_lt hk) _
theorem RRx.setCell {w : World} {g k o : Nat} {l : List UInt8} {x : Int} (h : RRx w g l x) (hk : g < k) (v : Value) : RRx (w.setCell ⟨k, o, none⟩ v) g l x := by
  obtain ⟨u, hg, hu, ho⟩ := h
  refine ⟨u, by rw [heap_far _ _ _ _ _ (by omega)]; exact hg, ?_, ho⟩
  rcases hu with hu | ⟨b', o', c, rfl, hc, hm, hcell⟩
  · exact .inl hu
  · refine .inr ⟨b', o', c, rfl, hc, hm, fun i hi => ?_⟩
    have hb := ho (by intro e; subst e; simp at hi) ⟨b', o', none⟩ _ _ rfl
    simp at hb
    rw [← hcell i hi, cell_far _ _ _ _ _ _ (by omega)]
theorem rd_oldif {w : World} {v : Value} {l : List UInt8} {g : Nat} (h : Rd w v l) (hg : w.heap.size ≤ g) : l ≠ [] → OldThan v g := by
  intro hl a n c hv
  rcases h with ⟨rfl, _⟩ | ⟨b, o, c', rfl, hc, hm, hcell⟩
  · cases hv
  · simp only [Value.slice.injEq, Option.some.injEq] at hv
    obtain ⟨rfl, _, _⟩ := hv
    have h0 := hcell 0 (by cases l with | nil => exact absurd rfl hl | cons a t => simp)
    have := World.block_lt_of_cell? w _ h0
    simp at this ⊢
    omega
/-- What the reference's Raw gives. -/
def GivesRawX (w : World) (g : Nat) (out l : List UInt8) (x : Int) (e : Ending) (w' : World) : Prop := ∃ v, e = .returned v ∧ Rd w' v out ∧ RRx w' g l x ∧ w.grownBy w' (some g)

set_option maxRecDepth 100000 in
set_option maxHeartbeats 3200000 in
theorem rfailx_any (g : Nat) (l : List UInt8) (x y : Int) (w : World) (hr : RRx w g l x) :
    Calls Try.prog 67 #[.pointer (some ⟨g, 0, none⟩), .int .i64 y] w fun e w' => e = .returned (.tuple #[]) ∧ RRx w' g [] y ∧ w.grownBy w' (some g) := by
  obtain ⟨u, hg, hu, ho⟩ := hr
  obtain ⟨c0, c1, f0, f1⟩ := cell_two w g u _ _ hg
  have HG := Lib.hid hg
  clear hg hu ho
  go_enter Try.func67, Try.ntmps67
  go_wp2_with fail
  go_end0
  refine ⟨rfl, ⟨_, heap_setCell_same _ _ _ _ _ _ (heap_setCell_same _ _ _ _ _ _ HG.out), Rd.nil _, fun h => absurd rfl h⟩, grown_trans (grown_set _ _ _ _) (grown_set _ _ _ _)⟩
set_option maxRecDepth 100000 in
set_option maxHeartbeats 3200000 in
theorem rrawx_err (g n : Nat) (l : List UInt8) (x : Int) (w : World) (hr : RRx w g l x) (hx : x ≠ 0) :
    Calls Try.prog 49 #[.pointer (some ⟨g, 0, none⟩), .int .i64 (n : Int)] w (GivesRawX w g [] l x) := by
  have HR := Lib.hid hr
  have c1 := hr.c1
  have hx1 : (x != 0) = true := by simpa using hx
  clear hx hr
  go_enter Try.func49, Try.ntmps49
  go_wp2_with fail
  go_ret
  exact ⟨_, rfl, Rd.nil _, HR.out, World.grownBy.refl _ _⟩

set_option maxRecDepth 100000 in
set_option maxHeartbeats 3200000 in
theorem rrawx_short (g n : Nat) (l : List UInt8) (w : World) (hr : RRx w g l 0) (hn : l.length < n) (hn1 : n ≤ 9223372036854775807) :
    Calls Try.prog 49 #[.pointer (some ⟨g, 0, none⟩), .int .i64 (n : Int)] w (GivesRawX w g [] [] 21) := by
  have HR := Lib.hid hr
  have c1 := hr.c1
  obtain ⟨a, c, c0⟩ := hr.c0
  have hmax : max (n : Int) 0 = n := by omega
  clear hr
  go_enter Try.func49, Try.ntmps49
  go_wp2_with fail
  refine (rfailx_any g l 0 21 _ HR.out).mono ?_
  rintro e w1 ⟨rfl, h1, h2⟩
  have H1 := Lib.hid h1
  have H2 := Lib.hid h2
  clear h1 h2
  go_wp2_with fail
  go_ret
  exact ⟨_, rfl, Rd.nil _, H1.out, H2.out⟩

set_option maxRecDepth 100000 in
set_option maxHeartbeats 3200000 in
theorem rrawx_ok (g n : Nat) (l : List UInt8) (w : World) (hr : RRx w g l 0) (hn : n ≤ l.length) (hl : l.length ≤ 1099511627776) :
    Calls Try.prog 49 #[.pointer (some ⟨g, 0, none⟩), .int .i64 (n : Int)] w (GivesRawX w g (l.take n) (l.drop n) 0) := by
  obtain ⟨u, hg, hu, hold⟩ := hr
  obtain ⟨a, c, rfl⟩ := hu.shape
  obtain ⟨c0, c1, f0, f1⟩ := cell_two w g _ _ _ hg
  have hmax : max (n : Int) 0 = n := by omega
  have hlc : l.length ≤ c := by
    rcases hu with ⟨h, rfl⟩ | ⟨b, o, c', h, hc, _⟩
    · simp
    · simp at h; omega
  have hnc : n ≤ c := by omega
  have HT := Lib.hid (hu.take n hn)
  have HG := Lib.hid hg
  have hnon := rdr_non a l.length c 0
  have HN := Lib.hid hnon
  have HOLD := Lib.hid hold
  have HU := Lib.hid hu
  have hdn : l.drop n ≠ [] → l ≠ [] := fun h e => h (by rw [e]; simp)
  have HDN := Lib.hid hdn
  clear hg hu hnon hold hdn
  by_cases hcn : c = n
  · subst hcn
    have hD : Rd w (.slice a (l.length - c) (c - c)) (l.drop c) := by
      rcases HU.out with ⟨h, rfl⟩ | ⟨b, o, c', h, hc, hm, _⟩
      · simp at h; obtain ⟨rfl, rfl⟩ := h; exact .inl ⟨by simp, by simp⟩
      · simp at h; obtain ⟨rfl, rfl⟩ := h
        exact HU.out.drop c hn _ (by intro h; omega) ⟨_, _, rfl⟩
    have e1 : l.length - c = 0 := by omega
    have e2 : c - c = 0 := by omega
    rw [e1, e2] at hD
    have HD := Lib.hid hD
    clear hD e1 e2
    go_enter Try.func49, Try.ntmps49
    go_wp2_with fail
    go_ret
    exact ⟨_, rfl, HT.out.setNon HG.out HN.out _, ⟨_, heap_setCell_same _ _ _ _ _ _ HG.out, HD.out.setNon HG.out HN.out _, fun h => (HOLD.out (HDN.out h)).slice _ _⟩, grown_set _ _ _ _⟩
  · rcases HU.out with ⟨h, rfl⟩ | ⟨b, o, c', h, hc, hm, _⟩
    · exfalso; simp at h; simp at hn; omega
    · simp at h; obtain ⟨rfl, rfl⟩ := h
      have HD := Lib.hid (HU.out.drop n hn ⟨b, o + n, none⟩ (fun _ => rfl) ⟨_, _, rfl⟩)
      clear hc hm
      go_enter Try.func49, Try.ntmps49
      go_wp2_with fail
      go_ret
      exact ⟨_, rfl, HT.out.setNon HG.out HN.out _, ⟨_, heap_setCell_same _ _ _ _ _ _ HG.out, HD.out.setNon HG.out HN.out _, fun hd x m d e => by cases e; exact HOLD.out (HDN.out hd) ⟨b, o, none⟩ _ _ rfl⟩, grown_set _ _ _ _⟩

theorem rrawx_any (g n : Nat) (l : List UInt8) (x : Int) (w : World) (hr : RRx w g l x) (hn1 : n ≤ 9223372036854775807) (hl : l.length ≤ 1099511627776) :
    Calls Try.prog 49 #[.pointer (some ⟨g, 0, none⟩), .int .i64 (n : Int)] w (GivesRawX w g (rawOut l x n) (rawRest l x n) (rawErr l x n)) := by
  unfold rawOut rawRest rawErr
  by_cases hx : x = 0
  · subst hx
    simp only [if_true]
    by_cases hn : n ≤ l.length
    · simp only [if_pos hn]; exact rrawx_ok g n l w hr hn hl
    · simp only [if_neg hn]; exact rrawx_short g n l w hr (by omega) hn1
  · simp only [if_neg hx]; exact rrawx_err g n l x w hr hx
theorem rawOut_empty (l : List UInt8) (x : Int) (n : Nat) (h : rawErr l x n ≠ 0) : rawOut l x n = [] := by
  unfold rawErr at h
  unfold rawOut
  split
  · rename_i hx
    rw [if_pos hx] at h
    split
    · rename_i hn; rw [if_pos hn] at h; exact absurd rfl h
    · rfl
  · rfl
theorem rawOut_full (l : List UInt8) (x : Int) (n : Nat) (h : rawErr l x n = 0) : (rawOut l x n).length = n := by
  unfold rawErr at h
  unfold rawOut
  split
  · rename_i hx
    rw [if_pos hx] at h
    split
    · rw [List.length_take]; omega
    · rename_i hn; rw [if_neg hn] at h; exact absurd h (by decide)
  · rename_i hx; rw [if_neg hx] at h; exact absurd h hx

set_option maxRecDepth 100000 in
set_option maxHeartbeats 3200000 in
theorem rnumx_any (g : Nat) (l : List UInt8) (x : Int) (w : World) (hr : RRx w g l x) (hl : l.length ≤ 1099511627776) :
    Calls Try.prog 30 #[.pointer (some ⟨g, 0, none⟩)] w fun e w' => e = .returned (.int .u64 (numR l x)) ∧ RRx w' g (rawRest l x 8) (rawErr l x 8) ∧ w.grownBy w' (some g) := by
  have hraw := rrawx_any g 8 l x w hr (by omega) hl
  have he := rawOut_empty l x 8
  have hf := rawOut_full l x 8
  unfold numR
  generalize rawOut l x 8 = q at *
  generalize rawRest l x 8 = r at *
  generalize rawErr l x 8 = y at *
  have HR := Lib.hid hraw
  clear hr hraw
  by_cases hy : y = 0
  case neg =>
    have hq := he hy
    subst hq
    have hy1 : (y != 0) = true := by simpa using hy
    clear he hf
    go_enter Try.func30, Try.ntmps30
    go_wp2_with fail
    refine HR.out.mono ?_
    rintro e w1 ⟨v, rfl, hv, hr, hgr⟩
    have c1 := hr.c1
    have HA := Lib.hid hr
    have HG := Lib.hid hgr
    clear hv hr hgr
    go_wp2_with fail
    go_ret
    exact ⟨rfl, HA.out, HG.out⟩
  have H8 := Lib.hid (hf hy)
  subst hy
  clear he hf
  go_enter Try.func30, Try.ntmps30
  go_wp2_with fail
  refine HR.out.mono ?_
  rintro e w1 ⟨v, rfl, hv, hr, hgr⟩
  obtain ⟨a, c, rfl⟩ := hv.shape
  have c1 := hr.c1
  have HV := Lib.hid hv
  have HA := Lib.hid hr
  have HG := Lib.hid hgr
  clear hv hr hgr
  go_wp2_with fail
  refine (rword_any _ q _ HV.out H8.out).mono ?_
  rintro e w2 ⟨rfl, rfl⟩
  go_wp2_with fail
  go_ret
  exact ⟨rfl, HA.out, HG.out⟩
set_option maxRecDepth 100000 in
set_option maxHeartbeats 3200000 in
theorem rintx_any (g : Nat) (l : List UInt8) (x : Int) (w : World) (hr : RRx w g l x) (hl : l.length ≤ 1099511627776) :
    Calls Try.prog 29 #[.pointer (some ⟨g, 0, none⟩)] w fun e w' => e = .returned (.int .i64 (intF (numR l x))) ∧ RRx w' g (rawRest l x 8) (rawErr l x 8) ∧ w.grownBy w' (some g) := by
  obtain ⟨n0, n1⟩ := numR_bd l x
  have HR := Lib.hid (rnumx_any g l x w hr hl)
  clear hr
  unfold intF
  generalize numR l x = n at *
  by_cases h : 9223372036854775807 < n
  · rw [if_pos h]
    go_enter Try.func29, Try.ntmps29
    go_wp2_with fail
    refine HR.out.mono ?_
    rintro e w1 ⟨rfl, h1, h2⟩
    have H1 := Lib.hid h1
    have H2 := Lib.hid h2
    clear h1 h2
    go_wp2_with fail
    go_ret
    exact ⟨rfl, H1.out, H2.out⟩
  · rw [if_neg h]
    have hw : IntKind.i64.wrap n = n := by rw [IntKind.wrap_i64]; omega
    go_enter Try.func29, Try.ntmps29
    go_wp2_with fail
    refine HR.out.mono ?_
    rintro e w1 ⟨rfl, h1, h2⟩
    have H1 := Lib.hid h1
    have H2 := Lib.hid h2
    clear h1 h2
    go_wp2_with fail
    go_ret
    exact ⟨rfl, H1.out, H2.out⟩
set_option maxRecDepth 100000 in
set_option maxHeartbeats 3200000 in
theorem rlumpx_any (g : Nat) (l : List UInt8) (x : Int) (w : World) (hr : RRx w g l x) (hl : l.length ≤ 1099511627776) :
    Calls Try.prog 48 #[.pointer (some ⟨g, 0, none⟩), .int .i64 32] w (GivesRawX w g (lmpOut 32 l x) (lmpRest 32 l x) (lmpErr 32 l x)) := by
  have hnum := rnumx_any g l x w hr hl
  have hn := numR_bd l x
  have hle : (rawRest l x 8).length ≤ 1099511627776 := Nat.le_trans (rawRest_le l x 8) hl
  unfold numR at hn hnum
  unfold lmpOut lmpRest lmpErr
  generalize leNum (rawOut l x 8) = n at *
  generalize rawRest l x 8 = r at *
  generalize rawErr l x 8 = y at *
  have HN := Lib.hid hnum
  obtain ⟨n0, n1⟩ := hn
  clear hnum hr hl
  by_cases hy : y = 0
  case neg =>
    simp only [if_neg hy]
    have hy1 : (y != 0) = true := by simpa using hy
    go_enter Try.func48, Try.ntmps48
    go_wp2_with fail
    refine HN.out.mono ?_
    rintro e w1 ⟨rfl, hr, hg⟩
    have HR := Lib.hid hr
    have HG := Lib.hid hg
    have c1 := hr.c1
    clear hg hr
    go_wp2_with fail
    go_ret
    exact ⟨_, rfl, Rd.nil _, HR.out, HG.out⟩
  subst hy
  simp only [if_true]
  by_cases h32 : 32 < n
  · simp only [if_pos h32]
    go_enter Try.func48, Try.ntmps48
    go_wp2_with fail
    refine HN.out.mono ?_
    rintro e w1 ⟨rfl, hr, hg⟩
    have HR := Lib.hid hr
    have HG := Lib.hid hg
    have c1 := hr.c1
    clear hg hr
    go_wp2_with fail
    refine (rfailx_any g r 0 22 _ HR.out).mono ?_
    rintro e w2 ⟨rfl, hr2, hg2⟩
    have HR2 := Lib.hid hr2
    have HG2 := Lib.hid (grown_trans HG.out hg2)
    clear hr2 hg2
    go_wp2_with fail
    go_ret
    exact ⟨_, rfl, Rd.nil _, HR2.out, HG2.out⟩
  simp only [if_neg h32]
  obtain ⟨k, rfl⟩ := Int.eq_ofNat_of_zero_le n0
  rw [Int.toNat_natCast]
  have HLE := Lib.hid hle
  have hw2 : IntKind.i64.wrap (k : Int) = k := by rw [IntKind.wrap_i64]; omega
  have hk1 : k ≤ 9223372036854775807 := by omega
  have HK1 := Lib.hid hk1
  clear hk1 hle n0 n1
  go_enter Try.func48, Try.ntmps48
  go_wp2_with fail
  refine HN.out.mono ?_
  rintro e w1 ⟨rfl, hr, hg⟩
  have HR := Lib.hid hr
  have HG := Lib.hid hg
  have c1 := hr.c1
  clear hg hr
  go_wp2_with fail
  refine (rrawx_any g k r 0 _ HR.out HK1.out HLE.out).mono ?_
  rintro e w2 ⟨v, rfl, ho, hr2, hg2⟩
  have HO := Lib.hid ho
  have HR2 := Lib.hid hr2
  have HG2 := Lib.hid (grown_trans HG.out hg2)
  clear ho hr2 hg2
  go_wp2_with fail
  go_ret
  exact ⟨_, rfl, HO.out, HR2.out, HG2.out⟩
theorem rlump_u (g : Nat) (b : List UInt8) (w : World) (hr : RRx w g b 0) (hl : b.length ≤ 1099511627776) :
    Calls Try.prog 48 #[.pointer (some ⟨g, 0, none⟩), .int .i64 32] w (GivesRawX w g (lmpOut 32 b 0) (ust b 0).l (ust b 0).x) := rlumpx_any g b 0 w hr hl
theorem rnum_u (g : Nat) (b : List UInt8) (n : Nat) (w : World) (hr : RRx w g (ust b n).l (ust b n).x) (hl : b.length ≤ 1099511627776) :
    Calls Try.prog 30 #[.pointer (some ⟨g, 0, none⟩)] w fun e w' => e = .returned (.int .u64 (ust b n).num) ∧ RRx w' g (ust b (n + 1)).l (ust b (n + 1)).x ∧ w.grownBy w' (some g) := rnumx_any g _ _ w hr (Nat.le_trans (ust_le _ _) hl)
theorem rint_u (g : Nat) (b : List UInt8) (n : Nat) (w : World) (hr : RRx w g (ust b n).l (ust b n).x) (hl : b.length ≤ 1099511627776) :
    Calls Try.prog 29 #[.pointer (some ⟨g, 0, none⟩)] w fun e w' => e = .returned (.int .i64 (intF (ust b n).num)) ∧ RRx w' g (ust b (n + 1)).l (ust b (n + 1)).x ∧ w.grownBy w' (some g) := rintx_any g _ _ w hr (Nat.le_trans (ust_le _ _) hl)
theorem gb_alloc {w w' : World} {r : Option Nat} (h : w.grownBy w' r) (o : Obj) : w.grownBy (w'.alloc o) r :=
  ⟨h.os, h.tape, h.output, by simp; have := h.size; omega, fun k hk hne => by rw [← h.block k hk hne]; exact (bl_alloc (Below.refl _ _) _).block k (Nat.lt_of_lt_of_le hk h.size)⟩
theorem gb_below {w w' w'' : World} {r : Option Nat} (h : w.grownBy w' r) (hb : Below w'.heap.size w' w'') : w.grownBy w'' r :=
  ⟨hb.os.trans h.os, hb.tape.trans h.tape, hb.output.trans h.output, Nat.le_trans h.size hb.size, fun k hk hne => (hb.block k (Nat.lt_of_lt_of_le hk h.size)).trans (h.block k hk hne)⟩
end Go.Proofs.Ytbhkcgnlegmjlaa
