import Derived.Test.YtmjokdhhniblgaaGreatYGc
import Derived.Test.YtmjokdhhniblgaaGreatYXc
/-
  A constant string's bytes; the length of a number in bits; batches sorted.
-/
namespace Go.Proofs.YtmjokdhhniblgaaGreat.Pl
set_option linter.unusedVariables false
set_option linter.unusedSimpArgs false
set_option linter.unusedSectionVars false
open Go.RowKit
section
variable {P : Program} [V : Env P] {C : Cx} {L : Lo} {Γ : Ga} {d : Nat} {ty : TypeId} {pos : String} {af : Array Edge} {gd : Option (Nat × Bool)}
theorem OT.xs {t : TypeId} {x y : Operand} {l : List UInt8} {k : IntKind} {i : Int} (b : UInt8) (hn : Nat.blt d C.n = true) (hx : evv L x = some (.string ⟨⟨l⟩⟩)) (hy : evv L y = some (.int k i)) (ht : isSl P t = some false) (h0 : 0 ≤ i) (hb : l[i.toNat]? = some b) :
    OT P C ⟨some d, .index t x y, ty, pos, af, gd⟩ L Γ (upd L d (.f (.v (.int .u8 b.toNat)))) Γ := by
  have hu : P.underlying t = some .string := by
    unfold isSl at ht
    split at ht
    · cases ht
    · assumption
    · cases ht
  have hb2 : (⟨⟨l⟩⟩ : ByteArray)[i.toNat]? = some b := by
    obtain ⟨hl, e⟩ := List.getElem?_eq_some_iff.1 hb
    rw [getElem?_pos (⟨⟨l⟩⟩ : ByteArray) i.toNat hl]
    exact congrArg some e
  exact OT.value hn (fun g hg => by simp [AV.id] at hg) fun ρ a w h => ⟨_, by simp [execOp, evv_eval h hx, evv_eval h hy, Instr.index, asIntOf, run_underlying hu, h0, hb2], rfl⟩
end
end Go.Proofs.YtmjokdhhniblgaaGreat.Pl
namespace Go.Proofs.YtmjokdhhniblgaaGreat
set_option linter.unusedVariables false
set_option linter.unusedSimpArgs false
open Go.RowKit Pl
/-- The length of a number in bits. -/
def blN (n : Nat) : Nat := if n = 0 then 0 else n.log2 + 1
def tabL : List UInt8 := List.replicate 1 0 ++ List.replicate 1 1 ++ List.replicate 2 2 ++ List.replicate 4 3 ++ List.replicate 8 4 ++ List.replicate 16 5 ++ List.replicate 32 6 ++ List.replicate 64 7 ++ List.replicate 128 8
theorem tab_all : (List.range 256).map (fun n => tabL[n]?) = (List.range 256).map (fun n => some (UInt8.ofNat (blN n))) := by kernel_rfl
theorem tab_at {n : Nat} (h : n < 256) : tabL[n]? = some (UInt8.ofNat (blN n)) := by
  have := congrArg (fun l => l[n]?) tab_all
  simpa [List.getElem?_map, List.getElem?_range h] using this
theorem blN_div {m k : Nat} (h : 2 ^ k ≤ m) : blN m = k + blN (m / 2 ^ k) := by
  have hp := Nat.two_pow_pos k
  have hd : 1 ≤ m / 2 ^ k := (Nat.le_div_iff_mul_le hp).2 (by omega)
  unfold blN
  rw [if_neg (by omega), if_neg (by omega)]
  have e : m.log2 = k + (m / 2 ^ k).log2 := by
    rw [Nat.log2_eq_iff (by omega), Nat.pow_add, Nat.pow_add, Nat.pow_add]
    have h1 := Nat.log2_self_le (n := m / 2 ^ k) (by omega)
    have h2 := Nat.lt_log2_self (n := m / 2 ^ k)
    rw [Nat.pow_succ] at h2
    constructor
    · exact Nat.le_trans (Nat.mul_le_mul_left _ h1) (Nat.mul_div_le m (2 ^ k))
    · have h3 := (Nat.div_lt_iff_lt_mul hp).1 h2
      calc m < 2 ^ (m / 2 ^ k).log2 * 2 * 2 ^ k := h3
        _ = 2 ^ k * 2 ^ (m / 2 ^ k).log2 * 2 ^ 1 := by rw [Nat.mul_comm, Nat.mul_assoc]
  omega
theorem blN_lt {n k : Nat} (h : n < 2 ^ k) : blN n ≤ k := by
  unfold blN; split
  · omega
  · rename_i hn
    have := (Nat.log2_lt hn).2 h; omega
theorem split_bl {n : Nat} (h : 2 ≤ n) : splitN n = 2 ^ (blN (n - 1) - 1) ∧ 1 ≤ blN (n - 1) := by
  unfold splitN blN; rw [if_neg (by omega), if_neg (by omega)]; exact ⟨rfl, by omega⟩
theorem leN_of_not {a b : List UInt8} (h : leN a b = false) : Op.bytesLess b a = true := by
  unfold leN at h
  rw [Bool.or_eq_false_iff, decide_eq_false_iff_not] at h
  rcases bl_tri a b with k | k | k
  · rw [k] at h; cases h.1
  · exact absurd k h.2
  · exact k
theorem leN_less {a b : List UInt8} (h : Op.bytesLess b a = true) : leN a b = false := by
  unfold leN
  rw [Bool.or_eq_false_iff, decide_eq_false_iff_not]
  exact ⟨bl_asym h, fun e => by subst e; rw [bl_irrefl] at h; cases h⟩
theorem leN_not_less {a b : List UInt8} (h : Op.bytesLess b a = false) : leN a b = true := by
  cases k : leN a b with
  | true => rfl
  | false => have := leN_of_not k; rw [h] at this; cases this
theorem leN_total {a b : List UInt8} (h : leN a b = false) : leN b a = true := by
  unfold leN; rw [leN_of_not h]; rfl
theorem leN_trans {a b c : List UInt8} (h : leN a b = true) (k : leN b c = true) : leN a c = true := by
  unfold leN at *
  rw [Bool.or_eq_true, decide_eq_true_eq] at *
  rcases h with h | h
  · rcases k with k | k
    · exact .inl (bl_trans h k)
    · subst k; exact .inl h
  · subst h; exact k
theorem cmpS_dec (a b : List UInt8) : decide (cmpS a b < 0) = Op.bytesLess a b := by
  unfold cmpS
  cases h : Op.bytesLess a b with
  | true => rfl
  | false => by_cases e : a = b <;> simp [e]
def sortedN (l : List En) : Prop := l.Pairwise fun x y => leN x.nm y.nm = true
theorem inNm_cons (e x : En) (r : List En) : inNm e (x :: r) = if leN x.nm e.nm = true then x :: inNm e r else e :: x :: r := by
  unfold inNm
  rw [List.takeWhile_cons, List.dropWhile_cons]
  split <;> rfl
theorem inNm_mem {e y : En} : ∀ {l : List En}, y ∈ inNm e l ↔ y = e ∨ y ∈ l
  | [] => by simp [inNm]
  | x :: r => by
    rw [inNm_cons]
    split
    · rw [List.mem_cons, inNm_mem (l := r), List.mem_cons]
      constructor
      · rintro (h | h | h)
        · exact .inr (.inl h)
        · exact .inl h
        · exact .inr (.inr h)
      · rintro (h | h | h)
        · exact .inr (.inl h)
        · exact .inl h
        · exact .inr (.inr h)
    · rw [List.mem_cons]
theorem inNm_sorted {e : En} : ∀ {l : List En}, sortedN l → sortedN (inNm e l)
  | [], _ => by unfold inNm sortedN; simp
  | x :: r, h => by
    unfold sortedN at h
    rw [List.pairwise_cons] at h
    rw [inNm_cons]
    split
    · rename_i k
      refine List.pairwise_cons.2 ⟨fun y hy => ?_, inNm_sorted h.2⟩
      rcases inNm_mem.1 hy with rfl | hy
      · exact k
      · exact h.1 y hy
    · rename_i k
      have k' := leN_total ((Bool.not_eq_true _).mp k)
      refine List.pairwise_cons.2 ⟨fun y hy => ?_, List.pairwise_cons.2 h⟩
      rcases List.mem_cons.1 hy with rfl | hy
      · exact k'
      · exact leN_trans k' (h.1 y hy)
theorem byN_sorted (l : List En) : sortedN (byN l) := by
  have : ∀ (l o : List En), sortedN o → sortedN (l.foldl (fun o e => inNm e o) o) := fun l => by
    induction l with
    | nil => intro o h; exact h
    | cons e r ih => intro o h; exact ih _ (inNm_sorted h)
  exact this l [] List.Pairwise.nil
theorem inNm_at {e : En} {o : List En} {j : Nat} (so : sortedN o) (hj : j ≤ o.length) (h1 : ∀ m (hm : m < o.length), j ≤ m → leN o[m].nm e.nm = false) (h2 : ∀ hp : j - 1 < o.length, 0 < j → leN o[j - 1].nm e.nm = true) : inNm e o = o.take j ++ e :: o.drop j := by
  have hka : ∀ m (hm : m < o.length), m < j → leN o[m].nm e.nm = true := fun m hm hmj => by
    have hl := h2 (by omega) (by omega)
    rcases Nat.lt_or_eq_of_le (Nat.le_sub_one_of_lt hmj) with h | h
    · exact leN_trans (List.pairwise_iff_getElem.1 so m (j - 1) hm (by omega) h) hl
    · subst h; exact hl
  have := while_at (p := fun x : En => leN x.nm e.nm) hj hka (fun hk => h1 j hk (Nat.le_refl _))
  unfold inNm; rw [this.1, this.2]
/-- What the insertion has come to: e stands at j among o. -/
def insJ (o : List En) (e : En) (r : List En) (j : Nat) : List En := o.take j ++ e :: (o.drop j ++ r)
theorem insJ_len {o r : List En} {e : En} {j : Nat} (h : j ≤ o.length) : (insJ o e r j).length = o.length + 1 + r.length := by
  unfold insJ; simp; omega
theorem insJ_at {o r : List En} {e : En} {j : Nat} (h : j ≤ o.length) (k : j < (insJ o e r j).length) : (insJ o e r j)[j] = e := by
  have k2 : j < (o.take j ++ e :: (o.drop j ++ r)).length := k
  show (o.take j ++ e :: (o.drop j ++ r))[j]'k2 = e
  rw [List.getElem_append_right (by rw [List.length_take]; omega)]
  simp [List.length_take, Nat.min_eq_left h]
theorem insJ_pre {o r : List En} {e : En} {j : Nat} (h : j ≤ o.length) (h0 : 0 < j) (k : j - 1 < (insJ o e r j).length) : (insJ o e r j)[j - 1] = o[j - 1] := by
  have k2 : j - 1 < (o.take j ++ e :: (o.drop j ++ r)).length := k
  show (o.take j ++ e :: (o.drop j ++ r))[j - 1]'k2 = _
  rw [List.getElem_append_left (by rw [List.length_take]; omega), List.getElem_take]
theorem insJ_swap {o r : List En} {e : En} {j : Nat} (h : j ≤ o.length) (h0 : 0 < j) (hp : j - 1 < o.length) : ((insJ o e r j).set j o[j - 1]).set (j - 1) e = insJ o e r (j - 1) := by
  have e1 : o.take j = o.take (j - 1) ++ [o[j - 1]] := by
    have := take_snoc' (l := o) hp
    rw [Nat.sub_add_cancel h0] at this; exact this
  have e2 : o.drop (j - 1) = o[j - 1] :: o.drop j := by
    have := (List.getElem_cons_drop hp).symm
    rw [Nat.sub_add_cancel h0] at this; exact this
  have l1 : (o.take (j - 1)).length = j - 1 := by rw [List.length_take]; omega
  unfold insJ
  rw [e1, e2, List.append_assoc]
  rw [List.set_append_right _ _ (by omega), l1, show j - (j - 1) = 1 by omega]
  rw [List.set_append_right _ _ (by omega), l1, Nat.sub_self]
  rfl
theorem insJ_top {l : List En} {i : Nat} (hi : i < l.length) : byN (l.take i) ++ l.drop i = insJ (byN (l.take i)) l[i] (l.drop (i + 1)) i := by
  have hl : (byN (l.take i)).length = i := by rw [byN_len, List.length_take]; omega
  obtain ⟨o, ho⟩ : ∃ o, o = byN (l.take i) := ⟨_, rfl⟩
  rw [← ho] at hl ⊢
  unfold insJ
  rw [List.take_of_length_le (l := o) (by omega), (List.drop_eq_nil_of_le (by omega) : o.drop i = []), List.nil_append, List.getElem_cons_drop hi]
theorem insJ_done {l : List En} {i j : Nat} (hi : i < l.length) (hj : j ≤ i) (h1 : ∀ m (hm : m < (byN (l.take i)).length), j ≤ m → leN (byN (l.take i))[m].nm l[i].nm = false) (h2 : ∀ hp : j - 1 < (byN (l.take i)).length, 0 < j → leN (byN (l.take i))[j - 1].nm l[i].nm = true) : insJ (byN (l.take i)) l[i] (l.drop (i + 1)) j = byN (l.take (i + 1)) ++ l.drop (i + 1) := by
  have hl : (byN (l.take i)).length = i := by rw [byN_len, List.length_take]; omega
  rw [byN_snoc hi, inNm_at (byN_sorted _) (by omega) h1 h2]
  unfold insJ; rw [List.append_assoc]; rfl
theorem byN_one (l : List En) : byN (l.take 1) ++ l.drop 1 = l := by
  cases l <;> rfl
end Go.Proofs.YtmjokdhhniblgaaGreat

