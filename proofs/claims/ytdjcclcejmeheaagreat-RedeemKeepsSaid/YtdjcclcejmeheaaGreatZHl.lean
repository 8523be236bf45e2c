import Derived.Test.YtdjcclcejmeheaaGreatZGc
import Derived.Test.YtdjcclcejmeheaaGreatZXc
import Derived.Test.YtdjcclcejmeheaaGreatZEv
/-
  A constant string's bytes; the length of a number in bits; batches sorted.
-/
namespace Go.Proofs.YtdjcclcejmeheaaGreat.Pl
set_option linter.unusedVariables false
set_option linter.unusedSimpArgs false
set_option linter.unusedSectionVars false
open Go.RowKit
section
variable {P : Program} [V : Env P] {C : Cx} {L : Lo} {Γ : Ga} {d : Nat} {ty : TypeId} {pos : String} {af : Array Edge} {gd : Option (Nat × Bool)}
theorem OT.xs {t : TypeId} {x y : Operand} {l : List UInt8} {k : IntKind} {i : Int} (b : UInt8) (hn : Nat.blt d C.n = true) (hx : evv L x = some (.string ⟨⟨l⟩⟩)) (hy : evv L y = some (.int k i)) (ht : isSl P t = some false) (h0 : 0 ≤ i) (hb : l[i.toNat]? = some b) :
    OT P C ⟨some d, .index t x y, ty, pos, af, gd⟩ L Γ (upd L d (.f (.v (.int .u8 b.toNat)))) Γ := by
  have hu : P.underlying t = some .string := by
    unfold isSl at ht
    split at ht
    · cases ht
    · assumption
    · cases ht
  have hb2 : (⟨⟨l⟩⟩ : ByteArray)[i.toNat]? = some b := by
    obtain ⟨hl, e⟩ := List.getElem?_eq_some_iff.1 hb
    rw [getElem?_pos (⟨⟨l⟩⟩ : ByteArray) i.toNat hl]
    exact congrArg some e
  exact OT.value hn (fun g hg => by simp [AV.id] at hg) fun ρ a w h => ⟨_, by simp [execOp, evv_eval h hx, evv_eval h hy, Instr.index, asIntOf, run_underlying hu, h0, hb2], rfl⟩
end
end Go.Proofs.YtdjcclcejmeheaaGreat.Pl
namespace Go.Proofs.YtdjcclcejmeheaaGreat
set_option linter.unusedVariables false
set_option linter.unusedSimpArgs false
open Go.RowKit Pl
/-- The length of a number in bits. -/
def blN (n : Nat) : Nat := if n = 0 then 0 else n.log2 + 1
def tabL : List UInt8 := List.replicate 1 0 ++ List.replicate 1 1 ++ List.replicate 2 2 ++ List.replicate 4 3 ++ List.replicate 8 4 ++ List.replicate 16 5 ++ List.replicate 32 6 ++ List.replicate 64 7 ++ List.replicate 128 8
theorem tab_all : (List.range 256).map (fun n => tabL[n]?) = (List.range 256).map (fun n => some (UInt8.ofNat (blN n))) := by kernel_rfl
theorem tab_at {n : Nat} (h : n < 256) : tabL[n]? = some (UInt8.ofNat (blN n)) := by
  have := congrArg (fun l => l[n]?) tab_all
  simpa [List.getElem?_map, List.getElem?_range h] using this
theorem blN_div {m k : Nat} (h : 2 ^ k ≤ m) : blN m = k + blN (m / 2 ^ k) := by
  have hp := Nat.two_pow_pos k
  have hd : 1 ≤ m / 2 ^ k := (Nat.le_div_iff_mul_le hp).2 (by omega)
  unfold blN
  rw [if_neg (by omega), if_neg (by omega)]
  have e : m.log2 = k + (m / 2 ^ k).log2 := by
    rw [Nat.log2_eq_iff (by omega), Nat.pow_add, Nat.pow_add, Nat.pow_add]
    have h1 := Nat.log2_self_le (n := m / 2 ^ k) (by omega)
    have h2 := Nat.lt_log2_self (n := m / 2 ^ k)
    rw [Nat.pow_succ] at h2
    constructor
    · exact Nat.le_trans (Nat.mul_le_mul_left _ h1) (Nat.mul_div_le m (2 ^ k))
    · have h3 := (Nat.div_lt_iff_lt_mul hp).1 h2
      calc m < 2 ^ (m / 2 ^ k).log2 * 2 * 2 ^ k := h3
        _ = 2 ^ k * 2 ^ (m / 2 ^ k).log2 * 2 ^ 1 := by rw [Nat.mul_comm, Nat.mul_assoc]
  omega
theorem blN_lt {n k : Nat} (h : n < 2 ^ k) : blN n ≤ k := by
  unfold blN; split
  · omega
  · rename_i hn
    have := (Nat.log2_lt hn).2 h; omega
theorem split_bl {n : Nat} (h : 2 ≤ n) : splitN n = 2 ^ (blN (n - 1) - 1) ∧ 1 ≤ blN (n - 1) := by
  unfold splitN blN; rw [if_neg (by omega), if_neg (by omega)]; exact ⟨rfl, by omega⟩
theorem leN_of_not {a b : List UInt8} (h : leN a b = false) : Op.bytesLess b a = true := by
  unfold leN at h
  rw [Bool.or_eq_false_iff, decide_eq_false_iff_not] at h
  rcases bl_tri a b with k | k | k
  · rw [k] at h; cases h.1
  · exact absurd k h.2
  · exact k
theorem leN_total {a b : List UInt8} (h : leN a b = false) : leN b a = true := by
  unfold leN; rw [leN_of_not h]; rfl
theorem leN_trans {a b c : List UInt8} (h : leN a b = true) (k : leN b c = true) : leN a c = true := by
  unfold leN at *
  rw [Bool.or_eq_true, decide_eq_true_eq] at *
  rcases h with h | h
  · rcases k with k | k
    · exact .inl (bl_trans h k)
    · subst k; exact .inl h
  · subst h; exact k
def sortedN (l : List En) : Prop := l.Pairwise fun x y => leN x.nm y.nm = true
theorem inNm_cons (e x : En) (r : List En) : inNm e (x :: r) = if leN x.nm e.nm = true then x :: inNm e r else e :: x :: r := by
  unfold inNm
  rw [List.takeWhile_cons, List.dropWhile_cons]
  split <;> rfl
theorem inNm_mem {e y : En} : ∀ {l : List En}, y ∈ inNm e l ↔ y = e ∨ y ∈ l
  | [] => by simp [inNm]
  | x :: r => by
    rw [inNm_cons]
    split
    · rw [List.mem_cons, inNm_mem (l := r), List.mem_cons]
      constructor
      · rintro (h | h | h)
        · exact .inr (.inl h)
        · exact .inl h
        · exact .inr (.inr h)
      · rintro (h | h | h)
        · exact .inr (.inl h)
        · exact .inl h
        · exact .inr (.inr h)
    · rw [List.mem_cons]
theorem inNm_sorted {e : En} : ∀ {l : List En}, sortedN l → sortedN (inNm e l)
  | [], _ => by unfold inNm sortedN; simp
  | x :: r, h => by
    unfold sortedN at h
    rw [List.pairwise_cons] at h
    rw [inNm_cons]
    split
    · rename_i k
      refine List.pairwise_cons.2 ⟨fun y hy => ?_, inNm_sorted h.2⟩
      rcases inNm_mem.1 hy with rfl | hy
      · exact k
      · exact h.1 y hy
    · rename_i k
      have k' := leN_total ((Bool.not_eq_true _).mp k)
      refine List.pairwise_cons.2 ⟨fun y hy => ?_, List.pairwise_cons.2 h⟩
      rcases List.mem_cons.1 hy with rfl | hy
      · exact k'
      · exact leN_trans k' (h.1 y hy)
theorem byN_sorted (l : List En) : sortedN (byN l) := by
  have : ∀ (l o : List En), sortedN o → sortedN (l.foldl (fun o e => inNm e o) o) := fun l => by
    induction l with
    | nil => intro o h; exact h
    | cons e r ih => intro o h; exact ih _ (inNm_sorted h)
  exact this l [] List.Pairwise.nil
end Go.Proofs.YtdjcclcejmeheaaGreat
/-
  Lengths in bits; entries sorted.
-/
namespace Go.Proofs.YtdjcclcejmeheaaGreat
set_option linter.unusedVariables false
set_option linter.unusedSimpArgs false
open Go.RowKit Pl
set_option maxRecDepth 100000
set_option maxHeartbeats 3200000
theorem is9 : isSl Tryz.prog 9 = some false := by kernel_rfl
theorem len64_pf (m : Nat) (hm : m < 4294967296) : PF Tryz.prog 161 [.v (.int .u64 ((m : Nat) : Int))] (.v (.int .i64 ((blN m : Nat) : Int))) := by
 refine PF.enter (fn := Tryz.f161) Tryz.func161 rfl Tryz.ntmps161 rfl (fun w0 => .w ?_)
 refine .q 3 1 rfl rfl (fun h1 => absurd (of_decide_eq_true h1) (by omega)) (fun h1 => ?_)
 refine .q 2 1 rfl rfl (fun h2 => ?_) (fun h2 => ?_)
 ·skip
  have h1 : 65536 ≤ m := by have q := of_decide_eq_true h2; (try dsimp only at q); omega
  refine .t 1 1 rfl rfl (.shr (((m / 65536 : Nat) : Int)) rfl rfl rfl (by decide) (by rw [Int.fdiv_eq_ediv_of_nonneg _ (by decide), show ((2 : Int) ^ (min (Int.toNat 16) IntKind.u64.bits)) = 65536 from rfl]; omega)) ?_
  refine .t 2 1 rfl rfl (.bv (.int .i64 ((16 : Nat) : Int)) rfl (rfl)) ?_
  refine .g 1 1 rfl ?_
  obtain ⟨x, hx⟩ : ∃ n, n = m / 65536 := ⟨_, rfl⟩
  refine TE.setv 0 (.int .u64 ((x : Nat) : Int)) rfl (by rw [hx]) ?_
  obtain ⟨a, ha⟩ : ∃ n, n = 16 := ⟨_, rfl⟩
  refine TE.setv 2 (.int .i64 ((a : Nat) : Int)) rfl (by rw [ha]) ?_
  have e1 : blN m = a + blN x := by rw [hx, ha]; exact blN_div (k := 16) h1
  have x1 : x < 65536 := by omega
  have a1 : a ≤ 16 := by omega
  refine .q 2 1 rfl rfl (fun h3 => ?_) (fun h3 => ?_)
  ·skip
   have h2 : 256 ≤ x := by have q := of_decide_eq_true h3; (try dsimp only at q); omega
   refine .t 1 1 rfl rfl (.shr (((x / 256 : Nat) : Int)) rfl rfl rfl (by decide) (by rw [Int.fdiv_eq_ediv_of_nonneg _ (by decide), show ((2 : Int) ^ (min (Int.toNat 8) IntKind.u64.bits)) = 256 from rfl]; omega)) ?_
   refine .t 2 1 rfl rfl (.bv (.int .i64 ((a + 8 : Nat) : Int)) rfl (congrArg _ (by (try dsimp only); rw [IntKind.wrap_i64]; omega))) ?_
   refine .g 1 1 rfl ?_
   obtain ⟨y, hy⟩ : ∃ n, n = x / 256 := ⟨_, rfl⟩
   refine TE.setv 0 (.int .u64 ((y : Nat) : Int)) rfl (by rw [hy]) ?_
   obtain ⟨b, hb⟩ : ∃ n, n = a + 8 := ⟨_, rfl⟩
   refine TE.setv 2 (.int .i64 ((b : Nat) : Int)) rfl (by rw [hb]) ?_
   have e2 : blN m = b + blN y := by rw [hy, hb, e1, blN_div (m := x) (k := 8) h2, ← Nat.add_assoc]
   have y1 : y < 256 := by omega
   have b1 : b ≤ 24 := by omega
   refine .t 2 1 rfl rfl (.cv (((y : Nat) : Int)) rfl (by rw [IntKind.wrap_u8]; omega)) ?_
   refine .t 0 1 rfl rfl (.xs (UInt8.ofNat (blN y)) rfl rfl rfl is9 (by omega) (by rw [Int.toNat_natCast]; exact tab_at y1)) ?_
   refine .t 0 1 rfl rfl (.cv (((blN y : Nat) : Int)) rfl (by have := blN_lt (n := y) (k := 8) (by omega); rw [UInt8.toNat_ofNat', IntKind.wrap_i64]; omega)) ?_
   refine .t 0 1 rfl rfl (.bv (.int .i64 ((blN m : Nat) : Int)) rfl (congrArg _ (by have := blN_lt (n := y) (k := 8) (by omega); rw [e2, IntKind.wrap_i64]; omega))) ?_
   exact .z 1 1 rfl (TE.retf rfl rfl rfl (okv rfl))
  ·skip
   have h2 : ¬ (256 ≤ x) := by have q := of_decide_eq_false h3; (try dsimp only at q); omega
   obtain ⟨y, hy⟩ : ∃ n, n = x := ⟨_, rfl⟩
   refine TE.setv 0 (.int .u64 ((y : Nat) : Int)) rfl (by rw [hy]) ?_
   obtain ⟨b, hb⟩ : ∃ n, n = a := ⟨_, rfl⟩
   refine TE.setv 2 (.int .i64 ((b : Nat) : Int)) rfl (by rw [hb]) ?_
   have e2 : blN m = b + blN y := by rw [hy, hb, e1]
   have y1 : y < 256 := by omega
   have b1 : b ≤ 24 := by omega
   refine .t 2 1 rfl rfl (.cv (((y : Nat) : Int)) rfl (by rw [IntKind.wrap_u8]; omega)) ?_
   refine .t 0 1 rfl rfl (.xs (UInt8.ofNat (blN y)) rfl rfl rfl is9 (by omega) (by rw [Int.toNat_natCast]; exact tab_at y1)) ?_
   refine .t 0 1 rfl rfl (.cv (((blN y : Nat) : Int)) rfl (by have := blN_lt (n := y) (k := 8) (by omega); rw [UInt8.toNat_ofNat', IntKind.wrap_i64]; omega)) ?_
   refine .t 0 1 rfl rfl (.bv (.int .i64 ((blN m : Nat) : Int)) rfl (congrArg _ (by have := blN_lt (n := y) (k := 8) (by omega); rw [e2, IntKind.wrap_i64]; omega))) ?_
   exact .z 1 1 rfl (TE.retf rfl rfl rfl (okv rfl))
 ·skip
  have h1 : ¬ (65536 ≤ m) := by have q := of_decide_eq_false h2; (try dsimp only at q); omega
  obtain ⟨x, hx⟩ : ∃ n, n = m := ⟨_, rfl⟩
  refine TE.setv 0 (.int .u64 ((x : Nat) : Int)) rfl (by rw [hx]) ?_
  obtain ⟨a, ha⟩ : ∃ n, n = 0 := ⟨_, rfl⟩
  refine TE.setv 2 (.int .i64 ((a : Nat) : Int)) rfl (by rw [ha]; rfl) ?_
  have e1 : blN m = a + blN x := by rw [hx, ha, Nat.zero_add]
  have x1 : x < 65536 := by omega
  have a1 : a ≤ 16 := by omega
  refine .q 2 1 rfl rfl (fun h4 => ?_) (fun h4 => ?_)
  ·skip
   have h2 : 256 ≤ x := by have q := of_decide_eq_true h4; (try dsimp only at q); omega
   refine .t 1 1 rfl rfl (.shr (((x / 256 : Nat) : Int)) rfl rfl rfl (by decide) (by rw [Int.fdiv_eq_ediv_of_nonneg _ (by decide), show ((2 : Int) ^ (min (Int.toNat 8) IntKind.u64.bits)) = 256 from rfl]; omega)) ?_
   refine .t 2 1 rfl rfl (.bv (.int .i64 ((a + 8 : Nat) : Int)) rfl (congrArg _ (by (try dsimp only); rw [IntKind.wrap_i64]; omega))) ?_
   refine .g 1 1 rfl ?_
   obtain ⟨y, hy⟩ : ∃ n, n = x / 256 := ⟨_, rfl⟩
   refine TE.setv 0 (.int .u64 ((y : Nat) : Int)) rfl (by rw [hy]) ?_
   obtain ⟨b, hb⟩ : ∃ n, n = a + 8 := ⟨_, rfl⟩
   refine TE.setv 2 (.int .i64 ((b : Nat) : Int)) rfl (by rw [hb]) ?_
   have e2 : blN m = b + blN y := by rw [hy, hb, e1, blN_div (m := x) (k := 8) h2, ← Nat.add_assoc]
   have y1 : y < 256 := by omega
   have b1 : b ≤ 24 := by omega
   refine .t 2 1 rfl rfl (.cv (((y : Nat) : Int)) rfl (by rw [IntKind.wrap_u8]; omega)) ?_
   refine .t 0 1 rfl rfl (.xs (UInt8.ofNat (blN y)) rfl rfl rfl is9 (by omega) (by rw [Int.toNat_natCast]; exact tab_at y1)) ?_
   refine .t 0 1 rfl rfl (.cv (((blN y : Nat) : Int)) rfl (by have := blN_lt (n := y) (k := 8) (by omega); rw [UInt8.toNat_ofNat', IntKind.wrap_i64]; omega)) ?_
   refine .t 0 1 rfl rfl (.bv (.int .i64 ((blN m : Nat) : Int)) rfl (congrArg _ (by have := blN_lt (n := y) (k := 8) (by omega); rw [e2, IntKind.wrap_i64]; omega))) ?_
   exact .z 1 1 rfl (TE.retf rfl rfl rfl (okv rfl))
  ·skip
   have h2 : ¬ (256 ≤ x) := by have q := of_decide_eq_false h4; (try dsimp only at q); omega
   obtain ⟨y, hy⟩ : ∃ n, n = x := ⟨_, rfl⟩
   refine TE.setv 0 (.int .u64 ((y : Nat) : Int)) rfl (by rw [hy]) ?_
   obtain ⟨b, hb⟩ : ∃ n, n = a := ⟨_, rfl⟩
   refine TE.setv 2 (.int .i64 ((b : Nat) : Int)) rfl (by rw [hb]) ?_
   have e2 : blN m = b + blN y := by rw [hy, hb, e1]
   have y1 : y < 256 := by omega
   have b1 : b ≤ 24 := by omega
   refine .t 2 1 rfl rfl (.cv (((y : Nat) : Int)) rfl (by rw [IntKind.wrap_u8]; omega)) ?_
   refine .t 0 1 rfl rfl (.xs (UInt8.ofNat (blN y)) rfl rfl rfl is9 (by omega) (by rw [Int.toNat_natCast]; exact tab_at y1)) ?_
   refine .t 0 1 rfl rfl (.cv (((blN y : Nat) : Int)) rfl (by have := blN_lt (n := y) (k := 8) (by omega); rw [UInt8.toNat_ofNat', IntKind.wrap_i64]; omega)) ?_
   refine .t 0 1 rfl rfl (.bv (.int .i64 ((blN m : Nat) : Int)) rfl (congrArg _ (by have := blN_lt (n := y) (k := 8) (by omega); rw [e2, IntKind.wrap_i64]; omega))) ?_
   exact .z 1 1 rfl (TE.retf rfl rfl rfl (okv rfl))
theorem blen_pf (m : Nat) (hm : m < 4294967296) : PF Tryz.prog 153 [.v (.int .u64 ((m : Nat) : Int))] (.v (.int .i64 ((blN m : Nat) : Int))) := by
 refine PF.enter (fn := Tryz.f153) Tryz.func153 rfl Tryz.ntmps153 rfl (fun w0 => .w ?_)
 refine .q 1 1 rfl rfl (fun h1 => absurd h1 (by decide)) (fun h1 => ?_)
 refine .t 1 1 rfl rfl (.cf (len64_pf m hm) rfl) ?_
 exact .z 1 1 rfl (TE.retf rfl rfl rfl (okv rfl))
theorem split_pf (n : Nat) (hn : n ≤ 1073741825) : PF Tryz.prog 140 [.v (.int .i64 ((n : Nat) : Int))] (.v (.int .i64 ((splitN n : Nat) : Int))) := by
 refine PF.enter (fn := Tryz.f140) Tryz.func140 rfl Tryz.ntmps140 rfl (fun w0 => .w ?_)
 refine .q 3 1 rfl rfl (fun h1 => ?_) (fun h1 => ?_)
 ·skip
  have h2 : n < 2 := by have q := of_decide_eq_true h1; (try dsimp only at q); omega
  have e : splitN n = 0 := splitN_lt h2
  rw [e]
  exact .z 1 1 rfl (TE.retf rfl rfl rfl (okv rfl))
 ·skip
  have h2 : ¬ (n < 2) := by have q := of_decide_eq_false h1; (try dsimp only at q); omega
  obtain ⟨e, hb1⟩ := split_bl (n := n) (by omega)
  obtain ⟨b, hb⟩ : ∃ b, b = blN (n - 1) := ⟨_, rfl⟩
  have hb2 : b ≤ 31 := by rw [hb]; exact blN_lt (k := 31) (by omega)
  rw [← hb] at e hb1
  have cB := blen_pf (n - 1) (by omega)
  rw [← hb] at cB
  have hpw : 2 ^ (b - 1) ≤ 1073741824 := Nat.le_trans (Nat.pow_le_pow_right (by decide) (by omega : b - 1 ≤ 30)) (by decide)
  refine .t 1 1 rfl rfl (.bv (.int .i64 ((n - 1 : Nat) : Int)) rfl (congrArg _ (by (try dsimp only); rw [IntKind.wrap_i64]; omega))) ?_
  refine .t 0 1 rfl rfl (.cv (((n - 1 : Nat) : Int)) rfl (by rw [IntKind.wrap_u64]; omega)) ?_
  refine .t 0 1 rfl rfl (.cf (cB) rfl) ?_
  refine .t 0 1 rfl rfl (.bv (.int .i64 ((b - 1 : Nat) : Int)) rfl (congrArg _ (by (try dsimp only); rw [IntKind.wrap_i64]; omega))) ?_
  refine .t 0 1 rfl rfl (.shl (((2 ^ (b - 1) : Nat) : Int)) rfl rfl rfl (by omega) (by rw [Int.toNat_natCast, show min (b - 1) IntKind.i64.bits = b - 1 from Nat.min_eq_left (by show b - 1 ≤ 64; omega), Int.one_mul, IntKind.wrap_i64, show ((2 : Int) ^ (b - 1)) = ((2 ^ (b - 1) : Nat) : Int) by simp]; omega)) ?_
  rw [e]
  exact .z 1 1 rfl (TE.retf rfl rfl rfl (okv rfl))
end Go.Proofs.YtdjcclcejmeheaaGreat

