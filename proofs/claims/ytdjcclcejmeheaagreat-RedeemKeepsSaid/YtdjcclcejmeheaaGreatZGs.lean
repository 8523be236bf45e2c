import Derived.Test.YtdjcclcejmeheaaGreatZGr
import Derived.Test.YtdjcclcejmeheaaGreatZEv
import Derived.Test.YtdjcclcejmeheaaGreatZGc
/-
  A leaf in a log, of both sides.
-/
namespace Go.Proofs.YtdjcclcejmeheaaGreat
set_option linter.unusedVariables false
set_option linter.unusedSimpArgs false
open Go.RowKit Pl
set_option maxRecDepth 100000
set_option maxHeartbeats 3200000
theorem climb_step (N : Nat) (ih : ∀ (n i : Nat) (x : H) (p : List H), n < N → 1 ≤ n → n ≤ 1073741825 → i < n → p.length ≤ 1048576 → PC Tryz.prog 106 [.v (.int .i64 ((n : Nat) : Int)), .v (.int .i64 ((i : Nat) : Int)), .ag (hdv (x)), slT hdv 32 (p)] (.tp [.ag (hdv ((climbF (n) (i) x (p)).1)), slT hdv 32 ((climbF (n) (i) x (p)).2.1), .v (.bool (climbF (n) (i) x (p)).2.2)])) (n i : Nat) (x : H) (p : List H) (hN : n ≤ N) (h1 : 1 ≤ n) (hb : n ≤ 1073741825) (hi : i < n) (hp : p.length ≤ 1048576) : PC Tryz.prog 106 [.v (.int .i64 ((n : Nat) : Int)), .v (.int .i64 ((i : Nat) : Int)), .ag (hdv (x)), slT hdv 32 (p)] (.tp [.ag (hdv ((climbF (n) (i) x (p)).1)), slT hdv 32 ((climbF (n) (i) x (p)).2.1), .v (.bool (climbF (n) (i) x (p)).2.2)]) := by
 refine PC.enter (fn := Tryz.f106) Tryz.func106 rfl Tryz.ntmps106 rfl (fun w0 K0 => .w ?_)
 refine .g 4 1 rfl ?_
 refine TE.frzb 6 rfl rfl rfl rfl ?_
 refine .t 1 3 rfl rfl (.cf (split_pf n hb) rfl) ?_
 refine .q 3 3 rfl rfl (fun h1 => ?_) (fun h1 => ?_)
 ·skip
  have hz : splitN n = 0 := by have q := of_decide_eq_true h1; (try dsimp only at q); omega
  have h2 : n < 2 := (Nat.lt_or_ge n 2).elim id (fun z => by have := (splitN_two z).1; omega)
  refine .t 0 3 rfl rfl (.lm (hdv x) rfl) ?_
  rw [climbF_one h2]
  exact .z 4 3 rfl (TE.rettc rfl rfl rfl)
 ·skip
  have hz : ¬ splitN n = 0 := by have q := of_decide_eq_false h1; (try dsimp only at q); omega
  have h2 : 2 ≤ n := (Nat.lt_or_ge n 2).elim (fun z => absurd (splitN_lt z) hz) id
  have hs := splitN_two h2
  by_cases hk : i < splitN n
  ·skip
   obtain ⟨h, q, b, hc⟩ : ∃ h q b, climbF (splitN n) (i) x p = (h, q, b) := ⟨_, _, _, rfl⟩
   have hql : q.length ≤ 1048576 := by have z := climbF_len (splitN n) (splitN n) (i) x p; rw [show clF (splitN n) (splitN n) (i) x p = climbF (splitN n) (i) x p from rfl, hc] at z; exact Nat.le_trans z hp
   have c1 := ih (splitN n) (i) x p (by omega) (by omega) (by omega) (by omega) hp
   rw [hc] at c1
   dsimp only at c1
   rw [climbF_left h2 hk, hc]
   refine .t 2 3 rfl rfl (.bv (.bool true) rfl (congrArg Value.bool (decide_eq_true (by omega)))) ?_
   refine .t 1 3 rfl rfl (.bd (hdv zeroH) rfl) ?_
   refine .g 5 3 rfl ?_
   refine TE.obj 3 (.box 41 (hdv zeroH)) rfl rfl ?_
   refine .t 4 4 rfl rfl (.lm (hdv x) rfl) ?_
   refine .t 1 4 rfl rfl (.cc (c1) rfl) ?_
   refine .g 7 4 rfl ?_
   refine TE.obj 3 (.box 41 (hdv h)) rfl rfl ?_
   cases b with
   | true =>
    by_cases hq : q.length = 0
    ·skip
     rw [show cStep true (h, q, true) = (zeroH, [], false) by rw [List.eq_nil_of_length_eq_zero hq]; rfl]
     refine .t 5 4 rfl rfl (.bv (.bool true) rfl (congrArg Value.bool (decide_eq_true (by omega)))) ?_
     refine .t 3 4 rfl rfl (.bd (hdv zeroH) rfl) ?_
     refine .g 3 4 rfl ?_
     refine TE.sub 9 (slT hdv 32 ([])) rfl rfl (nil_sub _ _) ?_
     exact .z 0 4 rfl (TE.rettc rfl rfl rfl)
    ·skip
     obtain ⟨y, r, hqr⟩ : ∃ y r, q = y :: r := by cases q with | nil => exact absurd rfl hq | cons y r => exact ⟨y, r, rfl⟩
     subst hqr
     rw [cStep_left]
     refine .t 5 4 rfl rfl (.bv (.bool false) rfl (congrArg Value.bool (decide_eq_false (by omega)))) ?_
     refine .d 6 4 rfl ?_
     refine .v 0 4 [3] rfl rfl (fun _ _ => .lp (hdv h) rfl) ?_
     refine .v 1 4 [] rfl rfl (fun _ _ => .idx (y) rfl rfl rfl rfl et52 (fun _ => rfl) (by decide) rfl) ?_
     refine .v 0 4 [] rfl rfl (fun _ _ => .lm (hdv y) rfl) ?_
     refine .v 0 4 [] rfl rfl (fun _ _ => .cf (lnode_pf h y) rfl) ?_
     refine .v 1 4 [] rfl rfl (fun _ _ => .slice rfl rfl rfl rfl rfl et52 (fun _ => rfl) (by decide) (by simp only [List.length_cons]; omega) (Int.le_refl _)) ?_
     refine .y 3 4 rfl (by kernel_rfl) ?_
     refine TE.sub 9 (slT hdv 32 r) rfl rfl (fun K w u h => by have e : (((y :: r).take ((y :: r).length : Int).toNat).drop (1 : Int).toNat) = r := (by simp); rw [← e]; exact h) ?_
     exact .z 0 4 rfl (TE.rettc rfl rfl rfl)
   | false =>
    rw [cStep_no]
    refine .t 9 4 rfl rfl (.bd (hdv zeroH) rfl) ?_
    refine .g 3 4 rfl ?_
    refine TE.sub 9 (slT hdv 32 ([])) rfl rfl (nil_sub _ _) ?_
    exact .z 0 4 rfl (TE.rettc rfl rfl rfl)
  ·skip
   obtain ⟨h, q, b, hc⟩ : ∃ h q b, climbF (n - splitN n) (i - splitN n) x p = (h, q, b) := ⟨_, _, _, rfl⟩
   have hql : q.length ≤ 1048576 := by have z := climbF_len (n - splitN n) (n - splitN n) (i - splitN n) x p; rw [show clF (n - splitN n) (n - splitN n) (i - splitN n) x p = climbF (n - splitN n) (i - splitN n) x p from rfl, hc] at z; exact Nat.le_trans z hp
   have c1 := ih (n - splitN n) (i - splitN n) x p (by omega) (by omega) (by omega) (by omega) hp
   rw [hc] at c1
   dsimp only at c1
   rw [climbF_right h2 hk, hc]
   refine .t 2 4 rfl rfl (.bv (.bool false) rfl (congrArg Value.bool (decide_eq_false (by omega)))) ?_
   refine .t 1 4 rfl rfl (.bd (hdv zeroH) rfl) ?_
   refine .g 5 4 rfl ?_
   refine TE.obj 4 (.box 41 (hdv zeroH)) rfl rfl ?_
   refine .t 4 5 rfl rfl (.bv (.int .i64 ((n - splitN n : Nat) : Int)) rfl (congrArg _ (by (try dsimp only); rw [IntKind.wrap_i64]; omega))) ?_
   refine .t 2 5 rfl rfl (.bv (.int .i64 ((i - splitN n : Nat) : Int)) rfl (congrArg _ (by (try dsimp only); rw [IntKind.wrap_i64]; omega))) ?_
   refine .t 0 5 rfl rfl (.lm (hdv x) rfl) ?_
   refine .t 1 5 rfl rfl (.cc (c1) rfl) ?_
   refine .g 7 5 rfl ?_
   refine TE.obj 4 (.box 41 (hdv h)) rfl rfl ?_
   cases b with
   | true =>
    by_cases hq : q.length = 0
    ·skip
     rw [show cStep false (h, q, true) = (zeroH, [], false) by rw [List.eq_nil_of_length_eq_zero hq]; rfl]
     refine .t 5 5 rfl rfl (.bv (.bool true) rfl (congrArg Value.bool (decide_eq_true (by omega)))) ?_
     refine .t 3 5 rfl rfl (.bd (hdv zeroH) rfl) ?_
     refine .g 3 5 rfl ?_
     refine TE.sub 9 (slT hdv 32 ([])) rfl rfl (nil_sub _ _) ?_
     exact .z 0 5 rfl (TE.rettc rfl rfl rfl)
    ·skip
     obtain ⟨y, r, hqr⟩ : ∃ y r, q = y :: r := by cases q with | nil => exact absurd rfl hq | cons y r => exact ⟨y, r, rfl⟩
     subst hqr
     rw [cStep_right]
     refine .t 5 5 rfl rfl (.bv (.bool false) rfl (congrArg Value.bool (decide_eq_false (by omega)))) ?_
     refine .d 6 5 rfl ?_
     refine .v 1 5 [] rfl rfl (fun _ _ => .idx (y) rfl rfl rfl rfl et52 (fun _ => rfl) (by decide) rfl) ?_
     refine .v 0 5 [] rfl rfl (fun _ _ => .lm (hdv y) rfl) ?_
     refine .v 0 5 [4] rfl rfl (fun _ _ => .lp (hdv h) rfl) ?_
     refine .v 0 5 [] rfl rfl (fun _ _ => .cf (lnode_pf y h) rfl) ?_
     refine .v 1 5 [] rfl rfl (fun _ _ => .slice rfl rfl rfl rfl rfl et52 (fun _ => rfl) (by decide) (by simp only [List.length_cons]; omega) (Int.le_refl _)) ?_
     refine .y 3 5 rfl (by kernel_rfl) ?_
     refine TE.sub 9 (slT hdv 32 r) rfl rfl (fun K w u h => by have e : (((y :: r).take ((y :: r).length : Int).toNat).drop (1 : Int).toNat) = r := (by simp); rw [← e]; exact h) ?_
     exact .z 0 5 rfl (TE.rettc rfl rfl rfl)
   | false =>
    rw [cStep_no]
    refine .t 9 5 rfl rfl (.bd (hdv zeroH) rfl) ?_
    refine .g 3 5 rfl ?_
    refine TE.sub 9 (slT hdv 32 ([])) rfl rfl (nil_sub _ _) ?_
    exact .z 0 5 rfl (TE.rettc rfl rfl rfl)
theorem climb_all (N : Nat) : ∀ (n i : Nat) (x : H) (p : List H), n ≤ N → 1 ≤ n → n ≤ 1073741825 → i < n → p.length ≤ 1048576 → PC Tryz.prog 106 [.v (.int .i64 ((n : Nat) : Int)), .v (.int .i64 ((i : Nat) : Int)), .ag (hdv (x)), slT hdv 32 (p)] (.tp [.ag (hdv ((climbF (n) (i) x (p)).1)), slT hdv 32 ((climbF (n) (i) x (p)).2.1), .v (.bool (climbF (n) (i) x (p)).2.2)]) := by
  induction N with
  | zero => exact climb_step 0 (fun n i x p h => absurd h (Nat.not_lt_zero _))
  | succ N ih => exact climb_step (N + 1) (fun n i x p h => ih n i x p (by omega))
theorem climb_pc (n i : Nat) (x : H) (p : List H) (hb : n ≤ 1073741825) (hi : i < n) (hp : p.length ≤ 1048576) : PC Tryz.prog 106 [.v (.int .i64 ((n : Nat) : Int)), .v (.int .i64 ((i : Nat) : Int)), .ag (hdv (x)), slT hdv 32 (p)] (.tp [.ag (hdv ((climbF (n) (i) x (p)).1)), slT hdv 32 ((climbF (n) (i) x (p)).2.1), .v (.bool (climbF (n) (i) x (p)).2.2)]) := climb_all n n i x p (Nat.le_refl _) (by omega) hb hi hp
theorem lchk_pf (root : H) (n i : Nat) (x : H) (p : List H) (hb : n ≤ 1073741825) (hi : i < n) (hp : p.length ≤ 1048576) : PF Tryz.prog 55 [.ag (hdv (root)), .v (.int .i64 ((n : Nat) : Int)), .v (.int .i64 ((i : Nat) : Int)), .ag (hdv (x)), slT hdv 32 (p)] (.v (.bool (inLog root n i x p))) := by
 have c1 := climb_pc n i x p hb hi hp
 obtain ⟨h, q, b, hc⟩ : ∃ h q b, climbF n i x p = (h, q, b) := ⟨_, _, _, rfl⟩
 have hql : q.length ≤ 1048576 := by have z := climbF_len n n i x p; rw [show clF n n i x p = climbF n i x p from rfl, hc] at z; exact Nat.le_trans z hp
 rw [hc] at c1
 dsimp only at c1
 refine PF.enter (fn := Tryz.f55) Tryz.func55 rfl Tryz.ntmps55 rfl (fun w0 => .w ?_)
 refine .g 3 1 rfl ?_
 refine TE.frzb 5 rfl rfl rfl rfl ?_
 refine TE.frzb 8 rfl rfl rfl rfl ?_
 refine .t 1 3 rfl rfl (.bv (.bool false) rfl (congrArg Value.bool (decide_eq_false (by omega)))) ?_
 refine .t 3 3 rfl rfl (.bv (.bool false) rfl (congrArg Value.bool (decide_eq_false (by omega)))) ?_
 refine .t 4 3 rfl rfl (.lm (hdv x) rfl) ?_
 refine .t 1 3 rfl rfl (.cc (c1) rfl) ?_
 refine .g 8 3 rfl ?_
 refine TE.obj 3 (.box 41 (hdv h)) rfl rfl ?_
 cases b with
 | true =>
  by_cases hq : q.length = 0
  ·skip
   refine .t 4 4 rfl rfl (.bv (.bool true) rfl (congrArg Value.bool (decide_eq_true (by omega)))) ?_
   refine .t 2 4 rfl rfl (.lp (hdv h) rfl) ?_
   refine .t 0 4 rfl rfl (.lm (hdv root) rfl) ?_
   refine .t 0 4 rfl rfl (.eqh (a := h) (b := root) rfl rfl rfl qh41) ?_
   rw [show inLog root n i x p = decide (H.l h = H.l root) by rw [inLog_climb hi, hc]; simp [hq]]
   exact .z 2 4 rfl (TE.retf rfl rfl rfl (okv rfl))
  ·skip
   refine .t 4 4 rfl rfl (.bv (.bool false) rfl (congrArg Value.bool (decide_eq_false (by omega)))) ?_
   rw [show inLog root n i x p = false by rw [inLog_climb hi, hc]; simp [hq]]
   exact .z 7 4 rfl (TE.retf rfl rfl rfl (okv rfl))
 | false =>
  rw [show inLog root n i x p = false by rw [inLog_climb hi, hc]; rfl]
  exact .z 12 4 rfl (TE.retf rfl rfl rfl (okv rfl))
end Go.Proofs.YtdjcclcejmeheaaGreat
/-
  Two heads, of both sides.
-/
namespace Go.Proofs.YtdjcclcejmeheaaGreat
set_option linter.unusedVariables false
set_option linter.unusedSimpArgs false
open Go.RowKit Pl
set_option maxRecDepth 100000
set_option maxHeartbeats 3200000
theorem two_pc (y : Int) (hy : u64I y) (old new : List UInt8) (ho : old.length ≤ 1048576) (hn : new.length ≤ 1048576) : PC Tryz.prog 53 [.v (.int .u64 y), slT bdv 1 (old), slT bdv 1 (new)] (.tp [.ag (headsF y old new).1.dv, .ag (headsF y old new).2.1.dv, .v (.int .i64 (headsF y old new).2.2)]) := by
 obtain ⟨a, qa⟩ : ∃ z, z = (readH intI old).1 := ⟨_, rfl⟩
 obtain ⟨ea, qea⟩ : ∃ z, z = (readH intI old).2 := ⟨_, rfl⟩
 have ga : PC Tryz.prog 26 [slT bdv 1 (old)] (.tp [.ag a.dv, .v (.int .i64 ea)]) := by rw [qa, qea]; exact hread_pc old (by omega)
 have ao : a.ok := qa ▸ readH_zero intI old
 obtain ⟨b, qb⟩ : ∃ z, z = (readH intI new).1 := ⟨_, rfl⟩
 obtain ⟨eb, qeb⟩ : ∃ z, z = (readH intI new).2 := ⟨_, rfl⟩
 have gb : PC Tryz.prog 26 [slT bdv 1 (new)] (.tp [.ag b.dv, .v (.int .i64 eb)]) := by rw [qb, qeb]; exact hread_pc new (by omega)
 have bo : b.ok := qb ▸ readH_zero intI new
 rw [show headsF y old new = (a, b, headsE y a ea b eb) by rw [qa, qea, qb, qeb]; rfl]
 clear qa qea qb qeb
 obtain ⟨k1, hk1⟩ : ∃ k, checkH y a = k := ⟨_, rfl⟩
 obtain ⟨k2, hk2⟩ : ∃ k, checkH y b = k := ⟨_, rfl⟩
 have cA : PF Tryz.prog 29 [.v (.int .u64 y), .ag a.dv] (.v (.bool k1)) := hk1 ▸ chk_pf y a hy ao
 have cB : PF Tryz.prog 29 [.v (.int .u64 y), .ag b.dv] (.v (.bool k2)) := hk2 ▸ chk_pf y b hy bo
 refine PC.enter (fn := Tryz.f53) Tryz.func53 rfl Tryz.ntmps53 rfl (fun w0 K0 => .w ?_)
 refine .t 4 1 rfl rfl (.cc (ga) rfl) ?_
 refine .g 6 3 rfl ?_
 refine TE.obj 3 (.box 45 (a.dv)) rfl rfl ?_
 refine .t 1 4 rfl rfl (.cc (gb) rfl) ?_
 refine .g 6 4 rfl ?_
 refine TE.obj 4 (.box 45 (b.dv)) rfl rfl ?_
 by_cases c1 : ea = 0
 ·skip
  by_cases c2 : eb = 0
  ·skip
   refine .t 1 5 rfl rfl (.bv (.bool false) rfl (congrArg Value.bool (by simp [c1]))) ?_
   refine .t 2 5 rfl rfl (.bv (.bool false) rfl (congrArg Value.bool (by simp [c2]))) ?_
   cases k1 with
   | true =>
    cases k2 with
    | true =>
     refine .t 4 5 rfl rfl (.lp (a.dv) rfl) ?_
     refine .t 0 5 rfl rfl (.cf (cA) rfl) ?_
     refine .t 3 5 rfl rfl (.lp (b.dv) rfl) ?_
     refine .t 0 5 rfl rfl (.cf (cB) rfl) ?_
     refine .d 4 5 rfl ?_
     refine .v 0 5 [3] rfl rfl (fun _ _ => .lp (a.dv) rfl) ?_
     refine .v 0 5 [4] rfl rfl (fun _ _ => .lp (b.dv) rfl) ?_
     refine .y 3 5 rfl (by kernel_rfl) ?_
     rw [headsE_ok c1 c2 hk1 hk2]
     exact .z 0 5 rfl (TE.rettc rfl rfl rfl)
    | false =>
     have hsg : checkH y a = false ∨ checkH y b = false := .inr hk2
     refine .t 4 5 rfl rfl (.lp (a.dv) rfl) ?_
     refine .t 0 5 rfl rfl (.cf (cA) rfl) ?_
     refine .t 3 5 rfl rfl (.lp (b.dv) rfl) ?_
     refine .t 0 5 rfl rfl (.cf (cB) rfl) ?_
     refine .d 4 5 rfl ?_
     refine .v 0 5 [3] rfl rfl (fun _ _ => .lp (a.dv) rfl) ?_
     refine .v 0 5 [4] rfl rfl (fun _ _ => .lp (b.dv) rfl) ?_
     refine .y 3 5 rfl (by kernel_rfl) ?_
     rw [headsE_sig c1 c2 hsg]
     exact .z 0 5 rfl (TE.rettc rfl rfl rfl)
   | false =>
    have hsg : checkH y a = false ∨ checkH y b = false := .inl hk1
    refine .t 4 5 rfl rfl (.lp (a.dv) rfl) ?_
    refine .t 0 5 rfl rfl (.cf (cA) rfl) ?_
    refine .d 9 5 rfl ?_
    refine .v 0 5 [3] rfl rfl (fun _ _ => .lp (a.dv) rfl) ?_
    refine .v 0 5 [4] rfl rfl (fun _ _ => .lp (b.dv) rfl) ?_
    refine .y 3 5 rfl (by kernel_rfl) ?_
    rw [headsE_sig c1 c2 hsg]
    exact .z 0 5 rfl (TE.rettc rfl rfl rfl)
  ·skip
   have hbad : ¬ ea = 0 ∨ ¬ eb = 0 := .inr c2
   refine .t 1 5 rfl rfl (.bv (.bool false) rfl (congrArg Value.bool (by simp [c1]))) ?_
   refine .t 2 5 rfl rfl (.bv (.bool true) rfl (congrArg Value.bool (by simp [c2]))) ?_
   refine .d 3 5 rfl ?_
   refine .v 0 5 [3] rfl rfl (fun _ _ => .lp (a.dv) rfl) ?_
   refine .v 0 5 [4] rfl rfl (fun _ _ => .lp (b.dv) rfl) ?_
   refine .y 3 5 rfl (by kernel_rfl) ?_
   rw [headsE_bytes hbad]
   exact .z 0 5 rfl (TE.rettc rfl rfl rfl)
 ·skip
  have hbad : ¬ ea = 0 ∨ ¬ eb = 0 := .inl c1
  refine .t 1 5 rfl rfl (.bv (.bool true) rfl (congrArg Value.bool (by simp [c1]))) ?_
  refine .d 6 5 rfl ?_
  refine .v 0 5 [3] rfl rfl (fun _ _ => .lp (a.dv) rfl) ?_
  refine .v 0 5 [4] rfl rfl (fun _ _ => .lp (b.dv) rfl) ?_
  refine .y 3 5 rfl (by kernel_rfl) ?_
  rw [headsE_bytes hbad]
  exact .z 0 5 rfl (TE.rettc rfl rfl rfl)
end Go.Proofs.YtdjcclcejmeheaaGreat
/-
  A log in a longer one: the reference's way down; why a head isn't grown out of another: plain values.
-/
namespace Go.Proofs.YtdjcclcejmeheaaGreat
set_option linter.unusedVariables false
set_option linter.unusedSimpArgs false
open Go.RowKit Pl
def boG (old : H) : Nat → Nat → Nat → Bool → List H → H × H × Bool
  | 0, _, _, _, _ => (zeroH, zeroH, false)
  | f + 1, m, n, w, p => if m = n then (if w = true then (old, old, decide (p.length = 0)) else if ¬ p.length = 1 then (zeroH, zeroH, false) else (lastD p, lastD p, true)) else if p.length = 0 then (zeroH, zeroH, false)
    else if m ≤ splitN n then ((boG old f m (splitN n) w (initD p)).1, lnode (boG old f m (splitN n) w (initD p)).2.1 (lastD p), (boG old f m (splitN n) w (initD p)).2.2)
    else (lnode (lastD p) (boG old f (m - splitN n) (n - splitN n) false (initD p)).1, lnode (lastD p) (boG old f (m - splitN n) (n - splitN n) false (initD p)).2.1, (boG old f (m - splitN n) (n - splitN n) false (initD p)).2.2)
def bothF (old : H) (m n : Nat) (w : Bool) (p : List H) : H × H × Bool := boG old n m n w p
section
variable {old : H} {m n : Nat} {w : Bool} {p : List H}
end
/-- Does a log begin with another one? -/
def growL (old new : H) (m n : Nat) (p : List H) : Bool := (bothF old m n true p).2.2 && (decide (H.l (bothF old m n true p).1 = H.l old) && decide (H.l (bothF old m n true p).2.1 = H.l new))
def growG (a b : Hd) (e : Int) (p : List H) : Int := if ¬ e = 0 then e else if a.ep < 2 ∨ b.ep < a.ep then 23 else if growL a.log b.log (a.ep - 1).toNat (b.ep - 1).toNat p = false then 37 else 0
section
variable {a b : Hd} {e : Int} {p : List H}
theorem growG_err (h : ¬ e = 0) : growG a b e p = e := if_pos h
theorem growG_form (h : e = 0) (k : a.ep < 2 ∨ b.ep < a.ep) : growG a b e p = 23 := by unfold growG; rw [if_neg (by omega), if_pos k]
theorem growG_no (h : e = 0) (k : ¬ (a.ep < 2 ∨ b.ep < a.ep)) (q : growL a.log b.log (a.ep - 1).toNat (b.ep - 1).toNat p = false) : growG a b e p = 37 := by unfold growG; rw [if_neg (by omega), if_neg k, if_pos q]
theorem growG_ok (h : e = 0) (k : ¬ (a.ep < 2 ∨ b.ep < a.ep)) (q : growL a.log b.log (a.ep - 1).toNat (b.ep - 1).toNat p = true) : growG a b e p = 0 := by unfold growG; rw [if_neg (by omega), if_neg k, if_neg (by rw [q]; simp)]
end
def growF (y : Int) (old new : List UInt8) (p : List H) : Int := growG (headsF y old new).1 (headsF y old new).2.1 (headsF y old new).2.2 p
theorem headsF_right {y : Int} {old new : List UInt8} {a b : Hd} {e : Int} (h : headsF y old new = (a, b, e)) (z : e = 0) : rightH a = true ∧ rightH b = true := by
  unfold headsF at h
  injection h with h1 h
  injection h with h2 h3
  obtain ⟨_, _, k1, k2⟩ := headsE_zero (h3.trans z)
  rw [← h1, ← h2]
  exact ⟨checkH_right k1, checkH_right k2⟩
end Go.Proofs.YtdjcclcejmeheaaGreat

