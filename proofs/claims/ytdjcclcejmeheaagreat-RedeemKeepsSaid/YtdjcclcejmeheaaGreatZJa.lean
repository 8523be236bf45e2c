import Derived.Test.YtdjcclcejmeheaaGreatZGb
import Derived.Test.YtdjcclcejmeheaaGreatZFd
import Derived.Test.YtdjcclcejmeheaaGreatZKa
import Derived.Test.YtdjcclcejmeheaaGreatZIa
import Derived.Test.YtdjcclcejmeheaaGreatZEv
/-
  Proofs' bytes, and what bytes are read as: plain words.
-/
namespace Go.Proofs.YtdjcclcejmeheaaGreat
set_option linter.unusedVariables false
set_option linter.unusedSimpArgs false
open Go.RowKit Pl
/-- A proof's bytes up to a place of its way, and all of them. -/
def putK (p : Pf) (k : Nat) : List UInt8 := numB (p.path.length : Int) ++ (p.path.take k).flatMap H.l
def putB (p : Pf) : List UInt8 := [putK p p.path.length, numB (u64w p.en), H.l p.it.ix, H.l p.it.vl].flatten
theorem hl_flat : ∀ xs : List H, (xs.flatMap H.l).length = 32 * xs.length
  | [] => rfl
  | x :: r => by rw [List.flatMap_cons, List.length_append, H.l_len, hl_flat r, List.length_cons]; omega
theorem putK_len (p : Pf) {k : Nat} (h : k ≤ p.path.length) : (putK p k).length = 8 + 32 * k := by
  unfold putK
  rw [List.length_append, numB_len, hl_flat, List.length_take, Nat.min_eq_left h]
theorem putK_cells (p : Pf) {k : Nat} (h : k ≤ p.path.length) : ((putK p k).flatMap bdv).length = (8 + 32 * k) * 1 := by
  rw [flat_length (sz := 1) (fun _ => rfl), putK_len p h]
theorem putK_step (p : Pf) {k : Nat} (h : k < p.path.length) : (putK p k).flatMap bdv ++ hdv p.path[k] = (putK p (k + 1)).flatMap bdv := by
  unfold putK hdv
  rw [take_snoc' h]
  simp only [List.flatMap_append, List.flatMap_cons, List.flatMap_nil, List.append_nil, List.append_assoc]
theorem putB_len (p : Pf) : (putB p).length = 80 + 32 * p.path.length := by
  unfold putB
  simp only [List.flatten_cons, List.flatten_nil, List.length_append, List.length_nil]
  rw [putK_len p (Nat.le_refl _), numB_len, H.l_len, H.l_len]; omega
theorem putQ_cells (p : Pf) : ((putK p p.path.length ++ numB (u64w p.en)).flatMap bdv).length = (16 + 32 * p.path.length) * 1 := by
  rw [flat_length (sz := 1) (fun _ => rfl), List.length_append, putK_len p (Nat.le_refl _), numB_len]; omega
theorem putR_cells (p : Pf) : ((putK p p.path.length ++ numB (u64w p.en)).flatMap bdv ++ hdv p.it.ix).length = (16 + 32 * p.path.length + 32) * 1 := by
  rw [List.length_append, putQ_cells, h_len]; omega
theorem putB_app (p : Pf) : putK p p.path.length ++ numB (u64w p.en) ++ H.l p.it.ix ++ H.l p.it.vl = putB p := by
  unfold putB; simp
def stK (s : RS) : Nat → RS
  | 0 => s
  | k + 1 => rdS (stK s k) 32
def hsK (s : RS) : Nat → List H
  | 0 => []
  | k + 1 => hsK s k ++ [rdH (stK s k)]
theorem hsK_len (s : RS) : ∀ k, (hsK s k).length = k
  | 0 => rfl
  | k + 1 => by rw [hsK, List.length_append, hsK_len s k]; rfl
theorem stK_le (s : RS) : ∀ k, (stK s k).1.length ≤ s.1.length
  | 0 => Nat.le_refl _
  | k + 1 => Nat.le_trans (rdS_le _ _) (stK_le s k)
def zeroP : Pf := ⟨[], 0, zeroIt⟩
/-- What is left behind the way, behind the number, and behind each hash. -/
def tlS (s : RS) (n : Nat) : RS := rdS (rdS (rdS (stK s n) 8) 32) 32
/-- A proof's end out of what is left behind its way's hashes, the proof's number of steps known. -/
def readE (s : RS) (n : Nat) : Pf × Int :=
  if (tlS s n).2 = 0 then (if 2 < rdN (stK s n) ∨ 0 < (tlS s n).1.length then (zeroP, 20) else (⟨hsK s n, rdN (stK s n), ⟨rdH (rdS (stK s n) 8), rdH (rdS (rdS (stK s n) 8) 32)⟩⟩, 0)) else (zeroP, (tlS s n).2)
/-- What bytes are read as. -/
def readP (b : List UInt8) : Pf × Int :=
  if (rdS (b, 0) 8).2 = 0 then (if 256 < rdN (b, 0) then (zeroP, 22) else readE (rdS (b, 0) 8) (rdN (b, 0)).toNat) else (zeroP, (rdS (b, 0) 8).2)
theorem readE_bad {s : RS} {n : Nat} (h : ¬ (tlS s n).2 = 0) : readE s n = (zeroP, (tlS s n).2) := by unfold readE; rw [if_neg h]
theorem readE_form {s : RS} {n : Nat} (h : (tlS s n).2 = 0) (k : 2 < rdN (stK s n) ∨ 0 < (tlS s n).1.length) : readE s n = (zeroP, 20) := by unfold readE; rw [if_pos h, if_pos k]
theorem readE_ok {s : RS} {n : Nat} (h : (tlS s n).2 = 0) (k1 : ¬ 2 < rdN (stK s n)) (k2 : ¬ 0 < (tlS s n).1.length) : readE s n = (⟨hsK s n, rdN (stK s n), ⟨rdH (rdS (stK s n) 8), rdH (rdS (rdS (stK s n) 8) 32)⟩⟩, 0) := by unfold readE; rw [if_pos h, if_neg (by rintro (q | q); exact k1 q; exact k2 q)]
theorem readP_bad {b : List UInt8} (h : ¬ (rdS (b, 0) 8).2 = 0) : readP b = (zeroP, (rdS (b, 0) 8).2) := by unfold readP; rw [if_neg h]
theorem readP_long {b : List UInt8} (h : (rdS (b, 0) 8).2 = 0) (k : 256 < rdN (b, 0)) : readP b = (zeroP, 22) := by unfold readP; rw [if_pos h, if_pos k]
theorem readP_ok {b : List UInt8} (h : (rdS (b, 0) 8).2 = 0) (k : ¬ 256 < rdN (b, 0)) : readP b = readE (rdS (b, 0) 8) (rdN (b, 0)).toNat := by unfold readP; rw [if_pos h, if_neg k]
/-- A proof of zeros as it is made. -/
def zcell : List DV := .v (.slice none 0 0) :: .v (.int .i64 0) :: zeroIt.dv
theorem subL_refl : ∀ Xs : List DV, SubL Xs Xs := fun _ _ _ _ h => h
theorem zeroP_sub : SubL zcell (Pf.dv zeroP) := subL_cons (nil_sub _ _) (subL_refl _)
end Go.Proofs.YtdjcclcejmeheaaGreat
/-
  What papers keep a promise: plain values.
-/
namespace Go.Proofs.YtdjcclcejmeheaaGreat
set_option linter.unusedVariables false
set_option linter.unusedSimpArgs false
open Go.RowKit Pl
/-- Why a promise isn't kept, out of what was read. -/
def redeemG (y : Int) (p : Pm) (ea : Int) (h : Hd) (eb : Int) (x : Pf) (ec : Int) : Int :=
  if ¬ ea = 0 ∨ ¬ eb = 0 ∨ ¬ ec = 0 then 20 else if checkQ y p = false ∨ checkH y h = false then 25 else if p.dl < h.tk then 38
  else if (checkV h.root (indexH p.e.nm) x).2.2 = false ∨ (checkV h.root (indexH p.e.nm) x).2.1 = false ∨ ¬ H.l (checkV h.root (indexH p.e.nm) x).1 = H.l (valueH p.e.ver p.e.key) then 37 else 0
def redeemF (y : Int) (a b c : List UInt8) : Int := redeemG y (readQ intI a).1 (readQ intI a).2 (readH intI b).1 (readH intI b).2 (readP c).1 (readP c).2
section
variable {y : Int} {p : Pm} {ea : Int} {h : Hd} {eb : Int} {x : Pf} {ec : Int}
theorem redeemG_bytes (q : ¬ ea = 0 ∨ ¬ eb = 0 ∨ ¬ ec = 0) : redeemG y p ea h eb x ec = 20 := if_pos q
theorem redeemG_sig (a : ea = 0) (b : eb = 0) (c : ec = 0) (q : checkQ y p = false ∨ checkH y h = false) : redeemG y p ea h eb x ec = 25 := by
  unfold redeemG; rw [if_neg (by omega), if_pos q]
theorem redeemG_late (a : ea = 0) (b : eb = 0) (c : ec = 0) (k1 : checkQ y p = true) (k2 : checkH y h = true) (q : p.dl < h.tk) : redeemG y p ea h eb x ec = 38 := by
  unfold redeemG; rw [if_neg (by omega), if_neg (by rw [k1, k2]; simp), if_pos q]
theorem redeemG_proof (a : ea = 0) (b : eb = 0) (c : ec = 0) (k1 : checkQ y p = true) (k2 : checkH y h = true) (k3 : ¬ p.dl < h.tk) {v : H} {here okk : Bool} (hv : checkV h.root (indexH p.e.nm) x = (v, here, okk)) (q : okk = false ∨ here = false ∨ ¬ H.l v = H.l (valueH p.e.ver p.e.key)) : redeemG y p ea h eb x ec = 37 := by
  unfold redeemG; rw [if_neg (by omega), if_neg (by rw [k1, k2]; simp), if_neg k3, hv, if_pos q]
theorem redeemG_ok (a : ea = 0) (b : eb = 0) (c : ec = 0) (k1 : checkQ y p = true) (k2 : checkH y h = true) (k3 : ¬ p.dl < h.tk) {v : H} (hv : checkV h.root (indexH p.e.nm) x = (v, true, true)) (q : H.l v = H.l (valueH p.e.ver p.e.key)) : redeemG y p ea h eb x ec = 0 := by
  unfold redeemG; rw [if_neg (by omega), if_neg (by rw [k1, k2]; simp), if_neg k3, hv, if_neg (by simp [q])]
end
theorem checkQ_right {y : Int} {p : Pm} (h : checkQ y p = true) : rightQ p = true := by
  unfold checkQ at h; rw [Bool.and_eq_true] at h; exact h.1
end Go.Proofs.YtdjcclcejmeheaaGreat
/-
  Roots; items of numbers; lists of items compared.
-/
namespace Go.Proofs.YtdjcclcejmeheaaGreat
set_option linter.unusedVariables false
set_option linter.unusedSimpArgs false
open Go.RowKit Pl
set_option maxRecDepth 100000
set_option maxHeartbeats 3200000
theorem rroot_all (l : List It) (hl : l.length ≤ 1048576) : PF Tryz.prog 110 [slT It.dv 64 (l)] (.ag (hdv (rootH l))) := by
 have c1 := (rset_po l [] (by simpa using hl)).pf
 have c2 := rroot_pf 256 0 (setR l []) (okT_str (setR_str l [])) (by have := setR_len l []; simp at this; omega) (by omega)
 rw [rootH_def] at c2
 refine PF.enter (fn := Tryz.f110) Tryz.func110 rfl Tryz.ntmps110 rfl (fun w0 => .w ?_)
 refine .t 2 1 rfl rfl (.cf (.nil2 c1) rfl) ?_
 refine .t 0 2 rfl rfl (.cf (c2) rfl) ?_
 exact .z 1 2 rfl (TE.retf rfl rfl rfl (pl_ag (pl_h _)))
end Go.Proofs.YtdjcclcejmeheaaGreat
/-
  Lists of bytes turned round; slices.Backward.
-/
namespace Go.Proofs.YtdjcclcejmeheaaGreat
set_option linter.unusedVariables false
set_option linter.unusedSimpArgs false
open Go.RowKit Pl
set_option maxRecDepth 100000
set_option maxHeartbeats 3200000
theorem sz22 : szt Tryz.prog 22 = some 1 := by kernel_rfl
theorem tk22 : tyk Tryz.prog 22 = some none := by kernel_rfl
theorem revL_pm (xs : List (List UInt8)) (hx : xs.length ≤ 1048576) : PM Tryz.prog 125 [.ow 0 xs.length 1] (.mrow 0 22 1 ((xs).flatMap ldv)) (.mrow 0 22 1 ((xs.reverse).flatMap ldv)) (.d (.tp [])) := by
 refine PM.enter (fn := Tryz.f125) Tryz.func125 rfl Tryz.ntmps125 rfl rfl rfl (fun w0 K0 ob => .w ?_)
 refine .g 5 1 rfl ?_
 refine TE.setv 2 (.int .i64 ((0 : Nat) : Int)) rfl rfl ?_
 refine TE.setv 3 (.int .i64 ((xs.length : Int) - 1 - ((0 : Nat) : Int))) rfl (congrArg _ (by rw [IntKind.wrap_i64]; omega)) ?_
 refine TE.obj 0 (.mrow 0 22 1 ((rvG xs 0).flatMap ldv)) rfl (by rw [rvG_zero]) ?_
 refine .lo (T := Nat) 0 1 rfl (fun i => i ≤ xs.length) (fun i => xs.length - i) [0] [] (fun i => [(2, .d (.v (.int .i64 ((i : Nat) : Int)))), (3, .d (.v (.int .i64 ((xs.length : Int) - 1 - (i : Int)))))]) (fun i => [(0, .mrow 0 22 1 ((rvG xs i).flatMap ldv))]) (0) rfl rfl (Nat.zero_le _) rfl rfl rfl (fun i hI => ?_)
 refine .q 3 1 rfl rfl (fun h1 => ?_) (fun h1 => ?_)
 ·skip
  have hij : i + 1 + i < xs.length := by have q := of_decide_eq_true h1; (try dsimp only at q); omega
  have hyl := rvG_len xs i
  have hil : i < (rvG xs i).length := by omega
  have hjl : xs.length - 1 - i < (rvG xs i).length := by omega
  have hstep := rvG_step hij hjl hil
  generalize rvG xs i = ys at hyl hil hjl hstep ⊢
  refine TE.setv 3 (.int .i64 ((xs.length - 1 - i : Nat) : Int)) rfl (congrArg _ (by (try dsimp only); omega)) ?_
  refine .d 0 1 rfl ?_
  refine .v 6 1 [0] rfl rfl (fun _ _ => .ixo rfl (Int.natCast_nonneg _) (by omega)) ?_
  refine .v 0 1 [0] rfl rfl (fun _ _ => .ldp rfl rfl rfl rfl (ld_one (j := xs.length - 1 - i) hjl) tk22) ?_
  refine .v 2 1 [0] rfl rfl (fun _ _ => .ixo rfl (Int.natCast_nonneg _) (by omega)) ?_
  refine .v 0 1 [0] rfl rfl (fun _ _ => .ldp rfl rfl rfl rfl (ld_one (j := i) hil) tk22) ?_
  refine .v 0 1 [0] rfl rfl (fun _ _ => .ixo rfl (Int.natCast_nonneg _) (by omega)) ?_
  refine .t 0 1 (E := ⟨none, [(0, _)]⟩) [0] rfl rfl (fun _ _ => .storerm (xs := ys) (enc := ldv) (ys[xs.length - 1 - i]) rfl rfl rfl rfl rfl rfl (fun _ => rfl) sz22 rfl (hil)) ?_
  refine .v 0 1 [0] rfl rfl (fun _ _ => .ixo rfl (Int.natCast_nonneg _) (by omega)) ?_
  refine .t 0 1 (E := ⟨none, [(0, _)]⟩) [0] rfl rfl (fun _ _ => .storerm (xs := ys.set i ys[xs.length - 1 - i]) (enc := ldv) (ys[i]) rfl rfl rfl rfl rfl rfl (fun _ => rfl) sz22 rfl (by rw [List.length_set]; exact hjl)) ?_
  refine .y 0 1 rfl (by kernel_rfl) ?_
  refine .t 1 1 rfl rfl (.bv (.int .i64 ((i + 1 : Nat) : Int)) rfl (congrArg _ (by (try dsimp only); rw [IntKind.wrap_i64]; omega))) ?_
  refine .t 1 1 rfl rfl (.bv (.int .i64 ((xs.length : Int) - 1 - ((i + 1 : Nat) : Int))) rfl (congrArg _ (by (try dsimp only); rw [IntKind.wrap_i64]; omega))) ?_
  refine .g 2 1 rfl ?_
  refine TE.obj 0 (.mrow 0 22 1 ((rvG xs (i + 1)).flatMap ldv)) rfl (by rw [hstep]) ?_
  refine TE.setv 2 (.int .i64 ((i + 1 : Nat) : Int)) rfl (congrArg _ (by first | rfl | (dsimp only; first | done | rfl | omega))) ?_
  refine TE.setv 3 (.int .i64 ((xs.length : Int) - 1 - ((i + 1 : Nat) : Int))) rfl rfl ?_
  exact .rd 0 1 id (fun _ _ e => e) rfl (i + 1) (by omega) (by omega) rfl rfl rfl
 ·skip
  have hij : ¬ i + 1 + i < xs.length := by have q := of_decide_eq_false h1; (try dsimp only at q); omega
  rw [rvG_end hij]
  exact .z 0 1 rfl (TE.retm0 0 rfl rfl rfl)
theorem backward_pc (xs : List H) : PC Tryz.prog 124 [slT hdv 32 xs] (.fn (.func 149) [] [.el [slT hdv 32 xs]]) := by
 refine PC.enter (fn := Tryz.f124) Tryz.func124 rfl Tryz.ntmps124 rfl (fun w0 K0 => .w ?_)
 refine .g 2 1 rfl ?_
 refine TE.frzb 1 rfl rfl rfl rfl ?_
 refine .t 0 2 rfl rfl (.mkfn rfl rfl) ?_
 exact .z 1 2 rfl (TE.retc rfl rfl rfl)
end Go.Proofs.YtdjcclcejmeheaaGreat

