/-
  Proofs' bytes, and what bytes are read as: plain words.
-/
import Derived.Test.YtejhgijjegnmnaaZFg
import Derived.Test.YtejhgijjegnmnaaZFd
namespace Go.Proofs.Ytejhgijjegnmnaa
set_option linter.unusedVariables false
set_option linter.unusedSimpArgs false
open Go.RowKit Pl
/-- A proof's bytes up to a place of its way, and all of them. -/
def putK (p : Pf) (k : Nat) : List UInt8 := numB (p.path.length : Int) ++ (p.path.take k).flatMap H.l
def putB (p : Pf) : List UInt8 := [putK p p.path.length, numB (u64w p.en), H.l p.it.ix, H.l p.it.vl].flatten
theorem hl_flat : ∀ xs : List H, (xs.flatMap H.l).length = 32 * xs.length
  | [] => rfl
  | x :: r => by rw [List.flatMap_cons, List.length_append, H.l_len, hl_flat r, List.length_cons]; omega
theorem putK_len (p : Pf) {k : Nat} (h : k ≤ p.path.length) : (putK p k).length = 8 + 32 * k := by
  unfold putK
  rw [List.length_append, numB_len, hl_flat, List.length_take, Nat.min_eq_left h]
theorem putK_cells (p : Pf) {k : Nat} (h : k ≤ p.path.length) : ((putK p k).flatMap bdv).length = (8 + 32 * k) * 1 := by
  rw [flat_length (sz := 1) (fun _ => rfl), putK_len p h]
theorem putK_step (p : Pf) {k : Nat} (h : k < p.path.length) : (putK p k).flatMap bdv ++ hdv p.path[k] = (putK p (k + 1)).flatMap bdv := by
  unfold putK hdv
  rw [take_snoc' h]
  simp only [List.flatMap_append, List.flatMap_cons, List.flatMap_nil, List.append_nil, List.append_assoc]
theorem putB_len (p : Pf) : (putB p).length = 80 + 32 * p.path.length := by
  unfold putB
  simp only [List.flatten_cons, List.flatten_nil, List.length_append, List.length_nil]
  rw [putK_len p (Nat.le_refl _), numB_len, H.l_len, H.l_len]; omega
theorem putJ_len (p : Pf) (h : p.path.length ≤ 1048576) : totalLen [putK p p.path.length, numB (u64w p.en), H.l p.it.ix, H.l p.it.vl] ≤ 1099511627776 := by
  simp only [totalLen, List.map_cons, List.map_nil, List.sum_cons, List.sum_nil, putK_len p (Nat.le_refl _), numB_len, H.l_len]; omega
theorem putQ_cells (p : Pf) : ((putK p p.path.length ++ numB (u64w p.en)).flatMap bdv).length = (16 + 32 * p.path.length) * 1 := by
  rw [flat_length (sz := 1) (fun _ => rfl), List.length_append, putK_len p (Nat.le_refl _), numB_len]; omega
theorem putR_cells (p : Pf) : ((putK p p.path.length ++ numB (u64w p.en)).flatMap bdv ++ hdv p.it.ix).length = (16 + 32 * p.path.length + 32) * 1 := by
  rw [List.length_append, putQ_cells, h_len]; omega
theorem putB_app (p : Pf) : putK p p.path.length ++ numB (u64w p.en) ++ H.l p.it.ix ++ H.l p.it.vl = putB p := by
  unfold putB; simp
abbrev RS := List UInt8 × Int
def rdS (s : RS) (n : Nat) : RS := (rawRest s.1 s.2 n, rawErr s.1 s.2 n)
def rdN (s : RS) : Int := leNum (rawOut s.1 s.2 8)
def rdH (s : RS) : H := ofL (rawOut s.1 s.2 32)
def stK (s : RS) : Nat → RS
  | 0 => s
  | k + 1 => rdS (stK s k) 32
def hsK (s : RS) : Nat → List H
  | 0 => []
  | k + 1 => hsK s k ++ [rdH (stK s k)]
theorem hsK_len (s : RS) : ∀ k, (hsK s k).length = k
  | 0 => rfl
  | k + 1 => by rw [hsK, List.length_append, hsK_len s k]; rfl
theorem rdS_le (s : RS) (n : Nat) : (rdS s n).1.length ≤ s.1.length := rawRest_le _ _ _
theorem stK_le (s : RS) : ∀ k, (stK s k).1.length ≤ s.1.length
  | 0 => Nat.le_refl _
  | k + 1 => Nat.le_trans (rdS_le _ _) (stK_le s k)
theorem rdS_bad {s : RS} (n : Nat) (h : ¬ s.2 = 0) : rdS s n = s := by
  obtain ⟨_, h2, h3⟩ := rd_bad (l := s.1) n h
  unfold rdS; rw [h2, h3]
theorem stK_bad {s : RS} {k : Nat} (h : ¬ (stK s k).2 = 0) : ∀ j, k ≤ j → stK s j = stK s k
  | 0, hj => by rw [Nat.le_zero.1 hj]
  | j + 1, hj => by
    rcases Nat.lt_or_ge j k with q | q
    · rw [show j + 1 = k by omega]
    · show rdS (stK s j) 32 = _
      rw [stK_bad h j q]; exact rdS_bad 32 h
theorem rdN_err {s : RS} (h : ¬ (rdS s 8).2 = 0) : rdN s = 0 := by
  unfold rdN; rw [rd_err h]; rfl
theorem rdN_bd (s : RS) : 0 ≤ rdN s ∧ rdN s < 18446744073709551616 := leNum_u64 _ (rawOut_le _ _ _)
def zeroP : Pf := ⟨[], 0, zeroIt⟩
/-- What is left behind the way, behind the number, and behind each hash. -/
def tlS (s : RS) (n : Nat) : RS := rdS (rdS (rdS (stK s n) 8) 32) 32
/-- A proof's end out of what is left behind its way's hashes, the proof's number of steps known. -/
def readE (s : RS) (n : Nat) : Pf × Int :=
  if (tlS s n).2 = 0 then (if 2 < rdN (stK s n) ∨ 0 < (tlS s n).1.length then (zeroP, 20) else (⟨hsK s n, rdN (stK s n), ⟨rdH (rdS (stK s n) 8), rdH (rdS (rdS (stK s n) 8) 32)⟩⟩, 0)) else (zeroP, (tlS s n).2)
/-- What bytes are read as. -/
def readP (b : List UInt8) : Pf × Int :=
  if (rdS (b, 0) 8).2 = 0 then (if 256 < rdN (b, 0) then (zeroP, 22) else readE (rdS (b, 0) 8) (rdN (b, 0)).toNat) else (zeroP, (rdS (b, 0) 8).2)
theorem tlS_bad {s : RS} {n k : Nat} (h : ¬ (stK s k).2 = 0) (hk : k ≤ n) : tlS s n = stK s k := by
  unfold tlS
  rw [stK_bad h n hk, rdS_bad 8 h, rdS_bad 32 h, rdS_bad 32 h]
theorem readE_bad {s : RS} {n : Nat} (h : ¬ (tlS s n).2 = 0) : readE s n = (zeroP, (tlS s n).2) := by unfold readE; rw [if_neg h]
theorem readE_form {s : RS} {n : Nat} (h : (tlS s n).2 = 0) (k : 2 < rdN (stK s n) ∨ 0 < (tlS s n).1.length) : readE s n = (zeroP, 20) := by unfold readE; rw [if_pos h, if_pos k]
theorem readE_ok {s : RS} {n : Nat} (h : (tlS s n).2 = 0) (k1 : ¬ 2 < rdN (stK s n)) (k2 : ¬ 0 < (tlS s n).1.length) : readE s n = (⟨hsK s n, rdN (stK s n), ⟨rdH (rdS (stK s n) 8), rdH (rdS (rdS (stK s n) 8) 32)⟩⟩, 0) := by unfold readE; rw [if_pos h, if_neg (by rintro (q | q); exact k1 q; exact k2 q)]
theorem readP_bad {b : List UInt8} (h : ¬ (rdS (b, 0) 8).2 = 0) : readP b = (zeroP, (rdS (b, 0) 8).2) := by unfold readP; rw [if_neg h]
theorem readP_bad' {b : List UInt8} (h : ¬ (rdS (b, 0) 8).2 = 0) (n : Nat) : readP b = readE (rdS (b, 0) 8) n := by
  have e : tlS (rdS (b, 0) 8) n = rdS (b, 0) 8 := tlS_bad (s := rdS (b, 0) 8) (k := 0) h (Nat.zero_le _)
  rw [readP_bad h, readE_bad (by rw [e]; exact h), e]
theorem readP_long {b : List UInt8} (h : (rdS (b, 0) 8).2 = 0) (k : 256 < rdN (b, 0)) : readP b = (zeroP, 22) := by unfold readP; rw [if_pos h, if_pos k]
theorem readP_ok {b : List UInt8} (h : (rdS (b, 0) 8).2 = 0) (k : ¬ 256 < rdN (b, 0)) : readP b = readE (rdS (b, 0) 8) (rdN (b, 0)).toNat := by unfold readP; rw [if_pos h, if_neg k]
theorem readP_go {b : List UInt8} (hx : (rdS (b, 0) 8).2 = 0) (hn : ¬ 256 < rdN (b, 0)) : ∃ N : Nat, rdN (b, 0) = N ∧ N ≤ 256 ∧ readP b = readE (rdS (b, 0) 8) N := by
  have h0 := (rdN_bd (b, 0)).1
  exact ⟨(rdN (b, 0)).toNat, by omega, by omega, readP_ok hx hn⟩
theorem readP_no {b : List UInt8} (hx : ¬ (rdS (b, 0) 8).2 = 0) : ∃ N : Nat, rdN (b, 0) = N ∧ N ≤ 256 ∧ readP b = readE (rdS (b, 0) 8) N := ⟨0, rdN_err hx, by omega, readP_bad' hx 0⟩
theorem tlS_any {s : RS} {k n : Nat} (h : k = n ∨ ¬ (stK s k).2 = 0) (hk : k ≤ n) : tlS s k = tlS s n := by
  rcases h with rfl | h
  · rfl
  · rw [tlS_bad h (Nat.le_refl _), tlS_bad h hk]
theorem tlS_ok {s : RS} {k n : Nat} (h : k = n ∨ ¬ (stK s k).2 = 0) (e : (tlS s k).2 = 0) : k = n := by
  rcases h with h | h
  · exact h
  · rw [tlS_bad h (Nat.le_refl _)] at e; exact absurd e h
/-- A proof of zeros as it is made. -/
def zcell : List DV := .v (.slice none 0 0) :: .v (.int .i64 0) :: zeroIt.dv
theorem subL_refl : ∀ Xs : List DV, SubL Xs Xs := fun _ _ _ _ h => h
theorem zeroP_sub : SubL zcell (Pf.dv zeroP) := subL_cons (nil_sub _ _) (subL_refl _)
theorem rdN_nat (s : RS) : ∃ N : Nat, rdN s = N := ⟨(rdN s).toNat, by have := (rdN_bd s).1; omega⟩
end Go.Proofs.Ytejhgijjegnmnaa

