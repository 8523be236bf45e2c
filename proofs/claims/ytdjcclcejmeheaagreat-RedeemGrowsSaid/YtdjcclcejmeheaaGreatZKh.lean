import Derived.Test.YtdjcclcejmeheaaGreatZKf
import Derived.Test.YtdjcclcejmeheaaGreatZGc
import Derived.Test.YtdjcclcejmeheaaGreatZEv
import Derived.Test.YtdjcclcejmeheaaGreatZGr
/-
  Two heads, of both sides.
-/
namespace Go.Proofs.YtdjcclcejmeheaaGreat
set_option linter.unusedVariables false
set_option linter.unusedSimpArgs false
open Go.RowKit Pl
set_option maxRecDepth 100000
set_option maxHeartbeats 3200000
theorem two_pc (y : Int) (hy : u64I y) (old new : List UInt8) (ho : old.length ≤ 1048576) (hn : new.length ≤ 1048576) : PC Tryz.prog 53 [.v (.int .u64 y), slT bdv 1 (old), slT bdv 1 (new)] (.tp [.ag (headsF y old new).1.dv, .ag (headsF y old new).2.1.dv, .v (.int .i64 (headsF y old new).2.2)]) := by
 obtain ⟨a, qa⟩ : ∃ z, z = (readH intI old).1 := ⟨_, rfl⟩
 obtain ⟨ea, qea⟩ : ∃ z, z = (readH intI old).2 := ⟨_, rfl⟩
 have ga : PC Tryz.prog 26 [slT bdv 1 (old)] (.tp [.ag a.dv, .v (.int .i64 ea)]) := by rw [qa, qea]; exact hread_pc old (by omega)
 have ao : a.ok := qa ▸ readH_zero intI old
 obtain ⟨b, qb⟩ : ∃ z, z = (readH intI new).1 := ⟨_, rfl⟩
 obtain ⟨eb, qeb⟩ : ∃ z, z = (readH intI new).2 := ⟨_, rfl⟩
 have gb : PC Tryz.prog 26 [slT bdv 1 (new)] (.tp [.ag b.dv, .v (.int .i64 eb)]) := by rw [qb, qeb]; exact hread_pc new (by omega)
 have bo : b.ok := qb ▸ readH_zero intI new
 rw [show headsF y old new = (a, b, headsE y a ea b eb) by rw [qa, qea, qb, qeb]; rfl]
 clear qa qea qb qeb
 obtain ⟨k1, hk1⟩ : ∃ k, checkH y a = k := ⟨_, rfl⟩
 obtain ⟨k2, hk2⟩ : ∃ k, checkH y b = k := ⟨_, rfl⟩
 have cA : PF Tryz.prog 29 [.v (.int .u64 y), .ag a.dv] (.v (.bool k1)) := hk1 ▸ chk_pf y a hy ao
 have cB : PF Tryz.prog 29 [.v (.int .u64 y), .ag b.dv] (.v (.bool k2)) := hk2 ▸ chk_pf y b hy bo
 refine PC.enter (fn := Tryz.f53) Tryz.func53 rfl Tryz.ntmps53 rfl (fun w0 K0 => .w ?_)
 refine .t 4 1 rfl rfl (.cc (ga) rfl) ?_
 refine .g 6 3 rfl ?_
 refine TE.obj 3 (.box 45 (a.dv)) rfl rfl ?_
 refine .t 1 4 rfl rfl (.cc (gb) rfl) ?_
 refine .g 6 4 rfl ?_
 refine TE.obj 4 (.box 45 (b.dv)) rfl rfl ?_
 by_cases c1 : ea = 0
 ·skip
  by_cases c2 : eb = 0
  ·skip
   refine .t 1 5 rfl rfl (.bv (.bool false) rfl (congrArg Value.bool (by simp [c1]))) ?_
   refine .t 2 5 rfl rfl (.bv (.bool false) rfl (congrArg Value.bool (by simp [c2]))) ?_
   cases k1 with
   | true =>
    cases k2 with
    | true =>
     refine .t 4 5 rfl rfl (.lp (a.dv) rfl) ?_
     refine .t 0 5 rfl rfl (.cf (cA) rfl) ?_
     refine .t 3 5 rfl rfl (.lp (b.dv) rfl) ?_
     refine .t 0 5 rfl rfl (.cf (cB) rfl) ?_
     refine .d 4 5 rfl ?_
     refine .v 0 5 [3] rfl rfl (fun _ _ => .lp (a.dv) rfl) ?_
     refine .v 0 5 [4] rfl rfl (fun _ _ => .lp (b.dv) rfl) ?_
     refine .y 3 5 rfl (by kernel_rfl) ?_
     rw [headsE_ok c1 c2 hk1 hk2]
     exact .z 0 5 rfl (TE.rettc rfl rfl rfl)
    | false =>
     have hsg : checkH y a = false ∨ checkH y b = false := .inr hk2
     refine .t 4 5 rfl rfl (.lp (a.dv) rfl) ?_
     refine .t 0 5 rfl rfl (.cf (cA) rfl) ?_
     refine .t 3 5 rfl rfl (.lp (b.dv) rfl) ?_
     refine .t 0 5 rfl rfl (.cf (cB) rfl) ?_
     refine .d 4 5 rfl ?_
     refine .v 0 5 [3] rfl rfl (fun _ _ => .lp (a.dv) rfl) ?_
     refine .v 0 5 [4] rfl rfl (fun _ _ => .lp (b.dv) rfl) ?_
     refine .y 3 5 rfl (by kernel_rfl) ?_
     rw [headsE_sig c1 c2 hsg]
     exact .z 0 5 rfl (TE.rettc rfl rfl rfl)
   | false =>
    have hsg : checkH y a = false ∨ checkH y b = false := .inl hk1
    refine .t 4 5 rfl rfl (.lp (a.dv) rfl) ?_
    refine .t 0 5 rfl rfl (.cf (cA) rfl) ?_
    refine .d 9 5 rfl ?_
    refine .v 0 5 [3] rfl rfl (fun _ _ => .lp (a.dv) rfl) ?_
    refine .v 0 5 [4] rfl rfl (fun _ _ => .lp (b.dv) rfl) ?_
    refine .y 3 5 rfl (by kernel_rfl) ?_
    rw [headsE_sig c1 c2 hsg]
    exact .z 0 5 rfl (TE.rettc rfl rfl rfl)
  ·skip
   have hbad : ¬ ea = 0 ∨ ¬ eb = 0 := .inr c2
   refine .t 1 5 rfl rfl (.bv (.bool false) rfl (congrArg Value.bool (by simp [c1]))) ?_
   refine .t 2 5 rfl rfl (.bv (.bool true) rfl (congrArg Value.bool (by simp [c2]))) ?_
   refine .d 3 5 rfl ?_
   refine .v 0 5 [3] rfl rfl (fun _ _ => .lp (a.dv) rfl) ?_
   refine .v 0 5 [4] rfl rfl (fun _ _ => .lp (b.dv) rfl) ?_
   refine .y 3 5 rfl (by kernel_rfl) ?_
   rw [headsE_bytes hbad]
   exact .z 0 5 rfl (TE.rettc rfl rfl rfl)
 ·skip
  have hbad : ¬ ea = 0 ∨ ¬ eb = 0 := .inl c1
  refine .t 1 5 rfl rfl (.bv (.bool true) rfl (congrArg Value.bool (by simp [c1]))) ?_
  refine .d 6 5 rfl ?_
  refine .v 0 5 [3] rfl rfl (fun _ _ => .lp (a.dv) rfl) ?_
  refine .v 0 5 [4] rfl rfl (fun _ _ => .lp (b.dv) rfl) ?_
  refine .y 3 5 rfl (by kernel_rfl) ?_
  rw [headsE_bytes hbad]
  exact .z 0 5 rfl (TE.rettc rfl rfl rfl)
theorem rtwo_pc (y : Int) (hy : u64I y) (old new : List UInt8) (ho : old.length ≤ 1048576) (hn : new.length ≤ 1048576) : PC Tryz.prog 57 [.v (.int .u64 y), slT bdv 1 (old), slT bdv 1 (new)] (.tp [.ag (headsF y old new).1.dv, .ag (headsF y old new).2.1.dv, .v (.int .i64 (headsF y old new).2.2)]) := by
 obtain ⟨a, qa⟩ : ∃ z, z = (readH intI old).1 := ⟨_, rfl⟩
 obtain ⟨ea, qea⟩ : ∃ z, z = (readH intI old).2 := ⟨_, rfl⟩
 have ga : PC Tryz.prog 34 [slT bdv 1 (old)] (.tp [.ag a.dv, .v (.int .i64 ea)]) := by rw [qa, qea]; exact rhread_pc old (by omega)
 have ao : a.ok := qa ▸ readH_zero intI old
 obtain ⟨b, qb⟩ : ∃ z, z = (readH intI new).1 := ⟨_, rfl⟩
 obtain ⟨eb, qeb⟩ : ∃ z, z = (readH intI new).2 := ⟨_, rfl⟩
 have gb : PC Tryz.prog 34 [slT bdv 1 (new)] (.tp [.ag b.dv, .v (.int .i64 eb)]) := by rw [qb, qeb]; exact rhread_pc new (by omega)
 have bo : b.ok := qb ▸ readH_zero intI new
 rw [show headsF y old new = (a, b, headsE y a ea b eb) by rw [qa, qea, qb, qeb]; rfl]
 clear qa qea qb qeb
 obtain ⟨k1, hk1⟩ : ∃ k, checkH y a = k := ⟨_, rfl⟩
 obtain ⟨k2, hk2⟩ : ∃ k, checkH y b = k := ⟨_, rfl⟩
 have cA : PF Tryz.prog 37 [.v (.int .u64 y), .ag a.dv] (.v (.bool k1)) := hk1 ▸ rchk_pf y a hy ao
 have cB : PF Tryz.prog 37 [.v (.int .u64 y), .ag b.dv] (.v (.bool k2)) := hk2 ▸ rchk_pf y b hy bo
 refine PC.enter (fn := Tryz.f57) Tryz.func57 rfl Tryz.ntmps57 rfl (fun w0 K0 => .w ?_)
 refine .t 4 1 rfl rfl (.cc (ga) rfl) ?_
 refine .g 6 3 rfl ?_
 refine TE.obj 3 (.box 45 (a.dv)) rfl rfl ?_
 refine .t 1 4 rfl rfl (.cc (gb) rfl) ?_
 refine .g 6 4 rfl ?_
 refine TE.obj 4 (.box 45 (b.dv)) rfl rfl ?_
 by_cases c1 : ea = 0
 ·skip
  by_cases c2 : eb = 0
  ·skip
   refine .t 1 5 rfl rfl (.bv (.bool false) rfl (congrArg Value.bool (by simp [c1]))) ?_
   refine .t 2 5 rfl rfl (.bv (.bool false) rfl (congrArg Value.bool (by simp [c2]))) ?_
   cases k1 with
   | true =>
    cases k2 with
    | true =>
     refine .t 3 5 rfl rfl (.lp (a.dv) rfl) ?_
     refine .t 0 5 rfl rfl (.cf (cA) rfl) ?_
     refine .t 3 5 rfl rfl (.lp (b.dv) rfl) ?_
     refine .t 0 5 rfl rfl (.cf (cB) rfl) ?_
     refine .d 3 5 rfl ?_
     refine .v 0 5 [3] rfl rfl (fun _ _ => .lp (a.dv) rfl) ?_
     refine .v 0 5 [4] rfl rfl (fun _ _ => .lp (b.dv) rfl) ?_
     refine .y 3 5 rfl (by kernel_rfl) ?_
     rw [headsE_ok c1 c2 hk1 hk2]
     exact .z 0 5 rfl (TE.rettc rfl rfl rfl)
    | false =>
     have hsg : checkH y a = false ∨ checkH y b = false := .inr hk2
     refine .t 3 5 rfl rfl (.lp (a.dv) rfl) ?_
     refine .t 0 5 rfl rfl (.cf (cA) rfl) ?_
     refine .t 3 5 rfl rfl (.lp (b.dv) rfl) ?_
     refine .t 0 5 rfl rfl (.cf (cB) rfl) ?_
     refine .d 3 5 rfl ?_
     refine .v 0 5 [3] rfl rfl (fun _ _ => .lp (a.dv) rfl) ?_
     refine .v 0 5 [4] rfl rfl (fun _ _ => .lp (b.dv) rfl) ?_
     refine .y 3 5 rfl (by kernel_rfl) ?_
     rw [headsE_sig c1 c2 hsg]
     exact .z 0 5 rfl (TE.rettc rfl rfl rfl)
   | false =>
    have hsg : checkH y a = false ∨ checkH y b = false := .inl hk1
    refine .t 3 5 rfl rfl (.lp (a.dv) rfl) ?_
    refine .t 0 5 rfl rfl (.cf (cA) rfl) ?_
    refine .d 8 5 rfl ?_
    refine .v 0 5 [3] rfl rfl (fun _ _ => .lp (a.dv) rfl) ?_
    refine .v 0 5 [4] rfl rfl (fun _ _ => .lp (b.dv) rfl) ?_
    refine .y 3 5 rfl (by kernel_rfl) ?_
    rw [headsE_sig c1 c2 hsg]
    exact .z 0 5 rfl (TE.rettc rfl rfl rfl)
  ·skip
   have hbad : ¬ ea = 0 ∨ ¬ eb = 0 := .inr c2
   refine .t 1 5 rfl rfl (.bv (.bool false) rfl (congrArg Value.bool (by simp [c1]))) ?_
   refine .t 2 5 rfl rfl (.bv (.bool true) rfl (congrArg Value.bool (by simp [c2]))) ?_
   refine .d 2 5 rfl ?_
   refine .v 0 5 [3] rfl rfl (fun _ _ => .lp (a.dv) rfl) ?_
   refine .v 0 5 [4] rfl rfl (fun _ _ => .lp (b.dv) rfl) ?_
   refine .y 3 5 rfl (by kernel_rfl) ?_
   rw [headsE_bytes hbad]
   exact .z 0 5 rfl (TE.rettc rfl rfl rfl)
 ·skip
  have hbad : ¬ ea = 0 ∨ ¬ eb = 0 := .inl c1
  refine .t 1 5 rfl rfl (.bv (.bool true) rfl (congrArg Value.bool (by simp [c1]))) ?_
  refine .d 5 5 rfl ?_
  refine .v 0 5 [3] rfl rfl (fun _ _ => .lp (a.dv) rfl) ?_
  refine .v 0 5 [4] rfl rfl (fun _ _ => .lp (b.dv) rfl) ?_
  refine .y 3 5 rfl (by kernel_rfl) ?_
  rw [headsE_bytes hbad]
  exact .z 0 5 rfl (TE.rettc rfl rfl rfl)
end Go.Proofs.YtdjcclcejmeheaaGreat
/-
  A log in a longer one: the reference's way down; why a head isn't grown out of another: plain values.
-/
namespace Go.Proofs.YtdjcclcejmeheaaGreat
set_option linter.unusedVariables false
set_option linter.unusedSimpArgs false
open Go.RowKit Pl
def boG (old : H) : Nat → Nat → Nat → Bool → List H → H × H × Bool
  | 0, _, _, _, _ => (zeroH, zeroH, false)
  | f + 1, m, n, w, p => if m = n then (if w = true then (old, old, decide (p.length = 0)) else if ¬ p.length = 1 then (zeroH, zeroH, false) else (lastD p, lastD p, true)) else if p.length = 0 then (zeroH, zeroH, false)
    else if m ≤ splitN n then ((boG old f m (splitN n) w (initD p)).1, lnode (boG old f m (splitN n) w (initD p)).2.1 (lastD p), (boG old f m (splitN n) w (initD p)).2.2)
    else (lnode (lastD p) (boG old f (m - splitN n) (n - splitN n) false (initD p)).1, lnode (lastD p) (boG old f (m - splitN n) (n - splitN n) false (initD p)).2.1, (boG old f (m - splitN n) (n - splitN n) false (initD p)).2.2)
def bothF (old : H) (m n : Nat) (w : Bool) (p : List H) : H × H × Bool := boG old n m n w p
theorem boG_eq (old : H) : ∀ (f g m n : Nat) (w : Bool) (p : List H), 1 ≤ m → m ≤ n → n ≤ f → n ≤ g → boG old f m n w p = boG old g m n w p
  | 0, _, m, n, _, _, h0, h1, h, _ => absurd h (by omega)
  | f + 1, 0, m, n, _, _, h0, h1, _, h => absurd h (by omega)
  | f + 1, g + 1, m, n, w, p, h0, h1, h2, h3 => by
    unfold boG
    by_cases hn : m = n
    · rw [if_pos hn, if_pos hn]
    · have hs := splitN_two (n := n) (by omega)
      rw [if_neg hn, if_neg hn]
      by_cases hp : p.length = 0
      · rw [if_pos hp, if_pos hp]
      rw [if_neg hp, if_neg hp]
      by_cases k : m ≤ splitN n
      · rw [if_pos k, if_pos k, boG_eq old f g m (splitN n) w (initD p) h0 k (by omega) (by omega)]
      · rw [if_neg k, if_neg k, boG_eq old f g (m - splitN n) (n - splitN n) false (initD p) (by omega) (by omega) (by omega) (by omega)]
section
variable {old : H} {m n : Nat} {w : Bool} {p : List H}
theorem bothF_same (h : 1 ≤ n) : bothF old n n w p = (if w = true then (old, old, decide (p.length = 0)) else if ¬ p.length = 1 then (zeroH, zeroH, false) else (lastD p, lastD p, true)) := by
  unfold bothF
  rw [boG_eq old n (n + 1) n n w p h (Nat.le_refl _) (Nat.le_refl _) (by omega), boG, if_pos rfl]
theorem bothF_nil (h0 : 1 ≤ m) (h : m < n) (k : p.length = 0) : bothF old m n w p = (zeroH, zeroH, false) := by
  unfold bothF
  rw [boG_eq old n (n + 1) m n w p h0 (by omega) (Nat.le_refl _) (by omega), boG, if_neg (by omega), if_pos k]
theorem bothF_left (h0 : 1 ≤ m) (h : m < n) (j : ¬ p.length = 0) (k : m ≤ splitN n) : bothF old m n w p = ((bothF old m (splitN n) w (initD p)).1, lnode (bothF old m (splitN n) w (initD p)).2.1 (lastD p), (bothF old m (splitN n) w (initD p)).2.2) := by
  have hs := splitN_two (n := n) (by omega)
  unfold bothF
  rw [boG_eq old n (n + 1) m n w p h0 (by omega) (Nat.le_refl _) (by omega), boG, if_neg (by omega), if_neg j, if_pos k, boG_eq old n (splitN n) m (splitN n) w _ h0 k (by omega) (Nat.le_refl _)]
theorem bothF_right (h0 : 1 ≤ m) (h : m < n) (j : ¬ p.length = 0) (k : ¬ m ≤ splitN n) : bothF old m n w p = (lnode (lastD p) (bothF old (m - splitN n) (n - splitN n) false (initD p)).1, lnode (lastD p) (bothF old (m - splitN n) (n - splitN n) false (initD p)).2.1, (bothF old (m - splitN n) (n - splitN n) false (initD p)).2.2) := by
  have hs := splitN_two (n := n) (by omega)
  unfold bothF
  rw [boG_eq old n (n + 1) m n w p h0 (by omega) (Nat.le_refl _) (by omega), boG, if_neg (by omega), if_neg j, if_neg k, boG_eq old n (n - splitN n) (m - splitN n) (n - splitN n) false _ (by omega) (by omega) (by omega) (Nat.le_refl _)]
end
/-- Does a log begin with another one? -/
def growL (old new : H) (m n : Nat) (p : List H) : Bool := (bothF old m n true p).2.2 && (decide (H.l (bothF old m n true p).1 = H.l old) && decide (H.l (bothF old m n true p).2.1 = H.l new))
def growG (a b : Hd) (e : Int) (p : List H) : Int := if ¬ e = 0 then e else if a.ep < 2 ∨ b.ep < a.ep then 23 else if growL a.log b.log (a.ep - 1).toNat (b.ep - 1).toNat p = false then 37 else 0
section
variable {a b : Hd} {e : Int} {p : List H}
theorem growG_err (h : ¬ e = 0) : growG a b e p = e := if_pos h
theorem growG_form (h : e = 0) (k : a.ep < 2 ∨ b.ep < a.ep) : growG a b e p = 23 := by unfold growG; rw [if_neg (by omega), if_pos k]
theorem growG_no (h : e = 0) (k : ¬ (a.ep < 2 ∨ b.ep < a.ep)) (q : growL a.log b.log (a.ep - 1).toNat (b.ep - 1).toNat p = false) : growG a b e p = 37 := by unfold growG; rw [if_neg (by omega), if_neg k, if_pos q]
theorem growG_ok (h : e = 0) (k : ¬ (a.ep < 2 ∨ b.ep < a.ep)) (q : growL a.log b.log (a.ep - 1).toNat (b.ep - 1).toNat p = true) : growG a b e p = 0 := by unfold growG; rw [if_neg (by omega), if_neg k, if_neg (by rw [q]; simp)]
end
def growF (y : Int) (old new : List UInt8) (p : List H) : Int := growG (headsF y old new).1 (headsF y old new).2.1 (headsF y old new).2.2 p
theorem headsF_right {y : Int} {old new : List UInt8} {a b : Hd} {e : Int} (h : headsF y old new = (a, b, e)) (z : e = 0) : rightH a = true ∧ rightH b = true := by
  unfold headsF at h
  injection h with h1 h
  injection h with h2 h3
  obtain ⟨_, _, k1, k2⟩ := headsE_zero (h3.trans z)
  rw [← h1, ← h2]
  exact ⟨checkH_right k1, checkH_right k2⟩
end Go.Proofs.YtdjcclcejmeheaaGreat
/-
  Heads in logs, of the program.
-/
namespace Go.Proofs.YtdjcclcejmeheaaGreat
set_option linter.unusedVariables false
set_option linter.unusedSimpArgs false
open Go.RowKit Pl
set_option maxRecDepth 100000
set_option maxHeartbeats 3200000
theorem in_pf (y : Int) (hy : u64I y) (old new : List UInt8) (ho : old.length ≤ 1048576) (hn : new.length ≤ 1048576) (p : List H) (hp : p.length ≤ 1048576) : PF Tryz.prog 18 [.v (.int .u64 y), slT bdv 1 (old), slT bdv 1 (new), slT hdv 32 (p)] (.v (.int .i64 (inF y old new p))) := by
 obtain ⟨a, b, e, hV⟩ : ∃ a b e, headsF y old new = (a, b, e) := ⟨_, _, _, rfl⟩
 have c1 := two_pc y hy old new ho hn
 rw [hV] at c1
 dsimp only at c1
 have hz := headsF_right hV
 rw [show inF y old new p = inG a b e (lleaf old) p by unfold inF; rw [hV]]
 refine PF.enter (fn := Tryz.f18) Tryz.func18 rfl Tryz.ntmps18 rfl (fun w0 => .w ?_)
 refine .t 4 1 rfl rfl (.cc (c1) rfl) ?_
 refine .g 9 1 rfl ?_
 refine TE.obj 1 (.box 45 a.dv) rfl rfl ?_
 refine TE.obj 2 (.box 45 b.dv) rfl rfl ?_
 refine .q 3 3 rfl rfl (fun h1 => ?_) (fun h1 => ?_)
 ·skip
  have he : ¬ e = 0 := by simpa using h1
  rw [inG_err he]
  exact .z 2 3 rfl (TE.retf rfl rfl rfl (okv rfl))
 ·skip
  have he : e = 0 := by simpa using h1
  have hr := hz he
  have ha := rightH_ep hr.1
  have hb := rightH_ep hr.2
  refine .q 6 3 rfl rfl (fun h2 => ?_) (fun h2 => ?_)
  ·skip
   have hk : b.ep ≤ a.ep := of_decide_eq_true h2
   rw [inG_form he hk]
   exact .z 1 3 rfl (TE.retf rfl rfl rfl (okv rfl))
  ·skip
   have hk : ¬ b.ep ≤ a.ep := of_decide_eq_false h2
   obtain ⟨n, qn⟩ : ∃ z : Nat, b.ep - 1 = (z : Int) := ⟨(b.ep - 1).toNat, by omega⟩
   have tn : (b.ep - 1).toNat = n := by omega
   obtain ⟨i, qi⟩ : ∃ z : Nat, a.ep - 1 = (z : Int) := ⟨(a.ep - 1).toNat, by omega⟩
   have ti : (a.ep - 1).toNat = i := by omega
   have hin : i < n := by omega
   have hnb : n ≤ 1073741825 := by omega
   obtain ⟨kL, hkL⟩ : ∃ k, inLog b.log n i (lleaf old) p = k := ⟨_, rfl⟩
   have eL : inLog b.log (b.ep - 1).toNat (a.ep - 1).toNat (lleaf old) p = kL := by rw [tn, ti]; exact hkL
   have cL : PF Tryz.prog 55 [.ag (hdv (b.log)), .v (.int .i64 ((n : Nat) : Int)), .v (.int .i64 ((i : Nat) : Int)), .ag (hdv (lleaf old)), slT hdv 32 (p)] (.v (.bool kL)) := hkL ▸ lchk_pf b.log n i (lleaf old) p hnb hin hp
   refine .d 0 3 rfl ?_
   refine .v 1 3 [2] rfl rfl (fun _ _ => .lp (hdv b.log) rfl) ?_
   refine .v 2 3 [] rfl rfl (fun _ _ => .bv (.int .i64 ((n : Nat) : Int)) rfl (congrArg _ (by rw [IntKind.wrap_i64]; omega))) ?_
   refine .v 2 3 [] rfl rfl (fun _ _ => .bv (.int .i64 ((i : Nat) : Int)) rfl (congrArg _ (by rw [IntKind.wrap_i64]; omega))) ?_
   refine .v 1 3 [] rfl rfl (fun _ _ => .cf (lleaf_pf old ho) rfl) ?_
   refine .v 1 3 [] rfl rfl (fun _ _ => .cf (cL) rfl) ?_
   refine .y 2 3 rfl (by kernel_rfl) ?_
   refine .q 0 3 rfl rfl (fun h3 => ?_) (fun h3 => ?_)
   ·skip
    have hK : kL = false := by simpa using h3
    rw [inG_no he hk (eL.trans hK)]
    exact .z 1 3 rfl (TE.retf rfl rfl rfl (okv rfl))
   ·skip
    have hK : kL = true := by simpa using h3
    rw [inG_ok he hk (eL.trans hK)]
    exact .z 1 3 rfl (TE.retf rfl rfl rfl (okv rfl))
theorem grown_pf (y : Int) (hy : u64I y) (old new : List UInt8) (ho : old.length ≤ 1048576) (hn : new.length ≤ 1048576) (p : List H) (hp : p.length ≤ 1048576) (hG : (headsF y old new).2.2 = 0 → ¬ (headsF y old new).1.ep < 2 → ∀ (o w : H) (m n : Nat), 1 ≤ m → m ≤ n → n ≤ 1073741825 → PF Tryz.prog 54 [.ag (hdv (o)), .ag (hdv (w)), .v (.int .i64 ((m : Nat) : Int)), .v (.int .i64 ((n : Nat) : Int)), slT hdv 32 (p)] (.v (.bool (growL o w m n p)))) : PF Tryz.prog 17 [.v (.int .u64 y), slT bdv 1 (old), slT bdv 1 (new), slT hdv 32 (p)] (.v (.int .i64 (growF y old new p))) := by
 obtain ⟨a, b, e, hV⟩ : ∃ a b e, headsF y old new = (a, b, e) := ⟨_, _, _, rfl⟩
 have c1 := two_pc y hy old new ho hn
 rw [hV] at c1
 dsimp only at c1
 have hz := headsF_right hV
 rw [hV] at hG
 dsimp only at hG
 rw [show growF y old new p = growG a b e p by unfold growF; rw [hV]]
 refine PF.enter (fn := Tryz.f17) Tryz.func17 rfl Tryz.ntmps17 rfl (fun w0 => .w ?_)
 refine .t 4 1 rfl rfl (.cc (c1) rfl) ?_
 refine .g 9 1 rfl ?_
 refine TE.obj 1 (.box 45 a.dv) rfl rfl ?_
 refine TE.obj 2 (.box 45 b.dv) rfl rfl ?_
 refine .q 3 3 rfl rfl (fun h1 => ?_) (fun h1 => ?_)
 ·skip
  have he : ¬ e = 0 := by simpa using h1
  rw [growG_err he]
  exact .z 2 3 rfl (TE.retf rfl rfl rfl (okv rfl))
 ·skip
  have he : e = 0 := by simpa using h1
  have hr := hz he
  have ha := rightH_ep hr.1
  have hb := rightH_ep hr.2
  by_cases g1 : a.ep < 2
  ·skip
   have hbad : a.ep < 2 ∨ b.ep < a.ep := .inl g1
   refine .t 2 3 rfl rfl (.bv (.bool true) rfl (congrArg Value.bool (decide_eq_true g1))) ?_
   rw [growG_form he hbad]
   exact .z 10 3 rfl (TE.retf rfl rfl rfl (okv rfl))
  ·skip
   by_cases g2 : b.ep < a.ep
   ·skip
    have hbad : a.ep < 2 ∨ b.ep < a.ep := .inr g2
    refine .t 2 3 rfl rfl (.bv (.bool false) rfl (congrArg Value.bool (decide_eq_false g1))) ?_
    refine .t 5 3 rfl rfl (.bv (.bool true) rfl (congrArg Value.bool (decide_eq_true g2))) ?_
    rw [growG_form he hbad]
    exact .z 4 3 rfl (TE.retf rfl rfl rfl (okv rfl))
   ·skip
    have hbad : ¬ (a.ep < 2 ∨ b.ep < a.ep) := fun z => z.elim g1 g2
    obtain ⟨m, qm⟩ : ∃ z : Nat, a.ep - 1 = (z : Int) := ⟨(a.ep - 1).toNat, by omega⟩
    have tm : (a.ep - 1).toNat = m := by omega
    obtain ⟨n, qn⟩ : ∃ z : Nat, b.ep - 1 = (z : Int) := ⟨(b.ep - 1).toNat, by omega⟩
    have tn : (b.ep - 1).toNat = n := by omega
    obtain ⟨kL, hkL⟩ : ∃ k, growL a.log b.log m n p = k := ⟨_, rfl⟩
    have eL : growL a.log b.log (a.ep - 1).toNat (b.ep - 1).toNat p = kL := by rw [tm, tn]; exact hkL
    have cG : PF Tryz.prog 54 [.ag (hdv (a.log)), .ag (hdv (b.log)), .v (.int .i64 ((m : Nat) : Int)), .v (.int .i64 ((n : Nat) : Int)), slT hdv 32 (p)] (.v (.bool kL)) := hkL ▸ hG he g1 a.log b.log m n (by omega) (by omega) (by omega)
    refine .t 2 3 rfl rfl (.bv (.bool false) rfl (congrArg Value.bool (decide_eq_false g1))) ?_
    refine .t 5 3 rfl rfl (.bv (.bool false) rfl (congrArg Value.bool (decide_eq_false g2))) ?_
    refine .t 4 3 rfl rfl (.lp (hdv a.log) rfl) ?_
    refine .t 1 3 rfl rfl (.lp (hdv b.log) rfl) ?_
    refine .t 2 3 rfl rfl (.bv (.int .i64 ((m : Nat) : Int)) rfl (congrArg _ (by rw [IntKind.wrap_i64]; omega))) ?_
    refine .t 2 3 rfl rfl (.bv (.int .i64 ((n : Nat) : Int)) rfl (congrArg _ (by rw [IntKind.wrap_i64]; omega))) ?_
    refine .t 1 3 rfl rfl (.cf (cG) rfl) ?_
    refine .q 2 3 rfl rfl (fun h7 => ?_) (fun h7 => ?_)
    ·skip
     have hK : kL = false := by simpa using h7
     rw [growG_no he hbad (eL.trans hK)]
     exact .z 1 3 rfl (TE.retf rfl rfl rfl (okv rfl))
    ·skip
     have hK : kL = true := by simpa using h7
     rw [growG_ok he hbad (eL.trans hK)]
     exact .z 1 3 rfl (TE.retf rfl rfl rfl (okv rfl))
theorem rpath_one (l : List H) (h1 : l.length = 1) : PC Tryz.prog 16 [slT hdv 32 (l), .v (.int .i64 0)] (.tp [slT hdv 32 ([]), .v (.bool true)]) := by
 refine PC.enter (fn := Tryz.f16) Tryz.func16 rfl Tryz.ntmps16 rfl (fun w0 K0 => .w ?_)
 refine .t 3 1 rfl rfl (.bv (.bool false) rfl (congrArg Value.bool (decide_eq_false (by omega)))) ?_
 refine .t 4 1 rfl rfl (.bv (.bool false) rfl (congrArg Value.bool (decide_eq_false (by omega)))) ?_
 refine .t 4 1 rfl rfl (.bv (.bool true) rfl (congrArg Value.bool (decide_eq_true (by omega)))) ?_
 refine .g 3 1 rfl ?_
 refine TE.sub 4 (slT hdv 32 ([])) rfl rfl (nil_sub _ _) ?_
 exact .z 0 1 rfl (TE.rettc rfl rfl rfl)
end Go.Proofs.YtdjcclcejmeheaaGreat

