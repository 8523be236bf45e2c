import Derived.Test.YtdjcclcejmeheaaGreatZKl
import Derived.Test.YtdjcclcejmeheaaGreatZGx
import Derived.Test.YtdjcclcejmeheaaGreatZHn
import Derived.Test.YtdjcclcejmeheaaGreatZEv
/-
  A log in a longer one, of the reference.
-/
namespace Go.Proofs.YtdjcclcejmeheaaGreat
set_option linter.unusedVariables false
set_option linter.unusedSimpArgs false
open Go.RowKit Pl
set_option maxRecDepth 100000
set_option maxHeartbeats 3200000
theorem ap28 : apt Tryz.prog 28 = some (45, 69, 104) := by kernel_rfl
theorem zc45 : zc Tryz.prog 45 = some [.int .i64 0, .int .i64 0, .int .i64 0, .int .u8 0, .int .u8 0, .int .u8 0, .int .u8 0, .int .u8 0, .int .u8 0, .int .u8 0, .int .u8 0, .int .u8 0, .int .u8 0, .int .u8 0, .int .u8 0, .int .u8 0, .int .u8 0, .int .u8 0, .int .u8 0, .int .u8 0, .int .u8 0, .int .u8 0, .int .u8 0, .int .u8 0, .int .u8 0, .int .u8 0, .int .u8 0, .int .u8 0, .int .u8 0, .int .u8 0, .int .u8 0, .int .u8 0, .int .u8 0, .int .u8 0, .int .u8 0, .int .u8 0, .int .u8 0, .int .u8 0, .int .u8 0, .int .u8 0, .int .u8 0, .int .u8 0, .int .u8 0, .int .u8 0, .int .u8 0, .int .u8 0, .int .u8 0, .int .u8 0, .int .u8 0, .int .u8 0, .int .u8 0, .int .u8 0, .int .u8 0, .int .u8 0, .int .u8 0, .int .u8 0, .int .u8 0, .int .u8 0, .int .u8 0, .int .u8 0, .int .u8 0, .int .u8 0, .int .u8 0, .int .u8 0, .int .u8 0, .int .u8 0, .int .u8 0, .int .u64 0, .int .u64 0] := by kernel_rfl
theorem both_step (old : H) (N : Nat) (ih : ∀ (m n : Nat) (w : Bool) (p : List H), n < N → 1 ≤ m → m ≤ n → n ≤ 1073741825 → p.length ≤ 1048577 → PC Tryz.prog 107 [.ag (hdv (old)), .v (.int .i64 ((m : Nat) : Int)), .v (.int .i64 ((n : Nat) : Int)), .v (.bool w), slT hdv 32 (p)] (.tp [.ag (hdv ((bothF old m n w p).1)), .ag (hdv ((bothF old m n w p).2.1)), .v (.bool (bothF old m n w p).2.2)])) (m n : Nat) (w : Bool) (p : List H) (hN : n ≤ N) (h0 : 1 ≤ m) (hmn : m ≤ n) (hb : n ≤ 1073741825) (hp : p.length ≤ 1048577) : PC Tryz.prog 107 [.ag (hdv (old)), .v (.int .i64 ((m : Nat) : Int)), .v (.int .i64 ((n : Nat) : Int)), .v (.bool w), slT hdv 32 (p)] (.tp [.ag (hdv ((bothF old m n w p).1)), .ag (hdv ((bothF old m n w p).2.1)), .v (.bool (bothF old m n w p).2.2)]) := by
 refine PC.enter (fn := Tryz.f107) Tryz.func107 rfl Tryz.ntmps107 rfl (fun w0 K0 => .w ?_)
 refine .g 4 1 rfl ?_
 refine TE.frzb 5 rfl rfl rfl rfl ?_
 refine .q 3 4 rfl rfl (fun h1 => ?_) (fun h1 => ?_)
 ·skip
  have hmm : m = n := by have q := of_decide_eq_true h1; (try dsimp only at q); omega
  cases w with
  | true =>
   refine .d 2 4 rfl ?_
   refine .v 0 4 [] rfl rfl (fun _ _ => .lm (hdv old) rfl) ?_
   refine .v 0 4 [] rfl rfl (fun _ _ => .lm (hdv old) rfl) ?_
   refine .v 2 4 [] rfl rfl (fun _ _ => .bv (.bool (decide (p.length = 0))) rfl (congrArg Value.bool (decide_eq_decide.2 (by omega)))) ?_
   refine .y 3 4 rfl (by kernel_rfl) ?_
   rw [show bothF old m n true p = (old, old, decide (p.length = 0)) by rw [hmm, bothF_same (by omega), if_pos rfl]]
   exact .z 0 4 rfl (TE.rettc rfl rfl rfl)
  | false =>
   refine .q 5 4 rfl rfl (fun h5 => ?_) (fun h5 => ?_)
   ·skip
    have hl1 : ¬ p.length = 1 := by intro z; rw [z] at h5; exact absurd h5 (by decide)
    refine .t 0 4 rfl rfl (.bd (hdv zeroH) rfl) ?_
    refine .t 0 4 rfl rfl (.bd (hdv zeroH) rfl) ?_
    rw [show bothF old m n false p = (zeroH, zeroH, false) by rw [hmm, bothF_same (by omega), if_neg (by decide), if_pos hl1]]
    exact .z 3 4 rfl (TE.rettc rfl rfl rfl)
   ·skip
    have hl1 : p.length = 1 := by have q : ¬ ¬ ((p.length : Nat) : Int) = 1 := (by simpa using h5); omega
    refine .d 0 4 rfl ?_
    refine .v 1 4 [] rfl rfl (fun _ _ => .idx (lastD p) rfl rfl rfl rfl et52 (fun _ => rfl) (by decide) (last_one hl1)) ?_
    refine .v 0 4 [] rfl rfl (fun _ _ => .lm (hdv (lastD p)) rfl) ?_
    refine .v 1 4 [] rfl rfl (fun _ _ => .idx (lastD p) rfl rfl rfl rfl et52 (fun _ => rfl) (by decide) (last_one hl1)) ?_
    refine .v 0 4 [] rfl rfl (fun _ _ => .lm (hdv (lastD p)) rfl) ?_
    refine .y 3 4 rfl (by kernel_rfl) ?_
    rw [show bothF old m n false p = (lastD p, lastD p, true) by rw [hmm, bothF_same (by omega), if_neg (by decide), if_neg (by omega)]]
    exact .z 0 4 rfl (TE.rettc rfl rfl rfl)
 ·skip
  have hlt : m < n := by have q := of_decide_eq_false h1; (try dsimp only at q); omega
  refine .q 3 4 rfl rfl (fun h6 => ?_) (fun h6 => ?_)
  ·skip
   have hz : p.length = 0 := by have q := of_decide_eq_true h6; (try dsimp only at q); omega
   refine .t 0 4 rfl rfl (.bd (hdv zeroH) rfl) ?_
   refine .t 0 4 rfl rfl (.bd (hdv zeroH) rfl) ?_
   rw [bothF_nil h0 hlt hz]
   exact .z 3 4 rfl (TE.rettc rfl rfl rfl)
  ·skip
   have hz : ¬ p.length = 0 := by have q := of_decide_eq_false h6; (try dsimp only at q); omega
   have hp0 : 0 < p.length := by omega
   have hs := splitN_two (n := n) (by omega)
   refine .t 1 4 rfl rfl (.cf (rsplit_pf n hb) rfl) ?_
   refine .d 1 4 rfl ?_
   refine .v 3 4 [] rfl rfl (fun _ _ => .bv (.int .i64 ((p.length - 1 : Nat) : Int)) rfl (congrArg _ (by (try dsimp only); rw [IntKind.wrap_i64]; omega))) ?_
   refine .v 0 4 [] rfl rfl (fun _ _ => .idx (lastD p) rfl rfl rfl rfl et52 (fun _ => rfl) (Int.natCast_nonneg _) (by rw [lastD_at hp0]; exact get_nat _)) ?_
   refine .v 0 4 [] rfl rfl (fun _ _ => .lm (hdv (lastD p)) rfl) ?_
   refine .v 3 4 [] rfl rfl (fun _ _ => .bv (.int .i64 ((p.length - 1 : Nat) : Int)) rfl (congrArg _ (by (try dsimp only); rw [IntKind.wrap_i64]; omega))) ?_
   refine .v 0 4 [] rfl rfl (fun _ _ => .slice rfl rfl rfl rfl rfl et52 (fun _ => rfl) (by omega) (by omega) (by omega)) ?_
   refine .y 3 4 rfl (by kernel_rfl) ?_
   refine TE.obj 4 (.box 41 (hdv (lastD p))) rfl rfl ?_
   refine .q 3 5 rfl rfl (fun h7 => ?_) (fun h7 => ?_)
   ·skip
    have hk : m ≤ splitN n := by have q := of_decide_eq_true h7; (try dsimp only at q); omega
    obtain ⟨a, b, k, hu⟩ : ∃ a b k, bothF old (m) (splitN n) w (initD p) = (a, b, k) := ⟨_, _, _, rfl⟩
    have c1 := ih (m) (splitN n) w (initD p) (by omega) (by omega) (by omega) (by omega) (by rw [initD_len]; omega)
    rw [hu] at c1
    dsimp only at c1
    refine .t 0 5 rfl rfl (.lm (hdv old) rfl) ?_
    refine .t 4 5 rfl rfl (.cc (c1) rfl) ?_
    refine .g 9 5 rfl ?_
    refine TE.obj 5 (.box 41 (hdv a)) rfl rfl ?_
    refine TE.obj 6 (.box 41 (hdv b)) rfl rfl ?_
    refine .d 0 7 rfl ?_
    refine .v 0 7 [5] rfl rfl (fun _ _ => .lp (hdv a) rfl) ?_
    refine .v 0 7 [6] rfl rfl (fun _ _ => .lp (hdv b) rfl) ?_
    refine .v 0 7 [4] rfl rfl (fun _ _ => .lp (hdv (lastD p)) rfl) ?_
    refine .v 0 7 [] rfl rfl (fun _ _ => .cf (rlnode_pf b (lastD p)) rfl) ?_
    refine .y 4 7 rfl (by kernel_rfl) ?_
    rw [bothF_left h0 hlt hz hk, hu]
    exact .z 0 7 rfl (TE.rettc rfl rfl rfl)
   ·skip
    have hk : ¬ m ≤ splitN n := by have q := of_decide_eq_false h7; (try dsimp only at q); omega
    obtain ⟨a, b, k, hu⟩ : ∃ a b k, bothF old (m - splitN n) (n - splitN n) false (initD p) = (a, b, k) := ⟨_, _, _, rfl⟩
    have c1 := ih (m - splitN n) (n - splitN n) false (initD p) (by omega) (by omega) (by omega) (by omega) (by rw [initD_len]; omega)
    rw [hu] at c1
    dsimp only at c1
    refine .t 0 7 rfl rfl (.lm (hdv old) rfl) ?_
    refine .t 2 7 rfl rfl (.bv (.int .i64 ((m - splitN n : Nat) : Int)) rfl (congrArg _ (by (try dsimp only); rw [IntKind.wrap_i64]; omega))) ?_
    refine .t 2 7 rfl rfl (.bv (.int .i64 ((n - splitN n : Nat) : Int)) rfl (congrArg _ (by (try dsimp only); rw [IntKind.wrap_i64]; omega))) ?_
    refine .t 1 7 rfl rfl (.cc (c1) rfl) ?_
    refine .g 9 7 rfl ?_
    refine TE.obj 7 (.box 41 (hdv a)) rfl rfl ?_
    refine TE.obj 8 (.box 41 (hdv b)) rfl rfl ?_
    refine .d 0 9 rfl ?_
    refine .v 0 9 [4] rfl rfl (fun _ _ => .lp (hdv (lastD p)) rfl) ?_
    refine .v 0 9 [7] rfl rfl (fun _ _ => .lp (hdv a) rfl) ?_
    refine .v 0 9 [] rfl rfl (fun _ _ => .cf (rlnode_pf (lastD p) a) rfl) ?_
    refine .v 0 9 [4] rfl rfl (fun _ _ => .lp (hdv (lastD p)) rfl) ?_
    refine .v 0 9 [8] rfl rfl (fun _ _ => .lp (hdv b) rfl) ?_
    refine .v 0 9 [] rfl rfl (fun _ _ => .cf (rlnode_pf (lastD p) b) rfl) ?_
    refine .y 4 9 rfl (by kernel_rfl) ?_
    rw [bothF_right h0 hlt hz hk, hu]
    exact .z 0 9 rfl (TE.rettc rfl rfl rfl)
theorem both_all (old : H) (N : Nat) : ∀ (m n : Nat) (w : Bool) (p : List H), n ≤ N → 1 ≤ m → m ≤ n → n ≤ 1073741825 → p.length ≤ 1048577 → PC Tryz.prog 107 [.ag (hdv (old)), .v (.int .i64 ((m : Nat) : Int)), .v (.int .i64 ((n : Nat) : Int)), .v (.bool w), slT hdv 32 (p)] (.tp [.ag (hdv ((bothF old m n w p).1)), .ag (hdv ((bothF old m n w p).2.1)), .v (.bool (bothF old m n w p).2.2)]) := by
  induction N with
  | zero => exact both_step old 0 (fun m n w p h => absurd h (Nat.not_lt_zero _))
  | succ N ih => exact both_step old (N + 1) (fun m n w p h => ih m n w p (by omega))
theorem rgl_pf (old new : H) (m n : Nat) (p : List H) (h0 : 1 ≤ m) (hmn : m ≤ n) (hn : n ≤ 1073741825) (hp : p.length ≤ 1048576) : PF Tryz.prog 58 [.ag (hdv (old)), .ag (hdv (new)), .v (.int .i64 ((m : Nat) : Int)), .v (.int .i64 ((n : Nat) : Int)), slT hdv 32 (p)] (.v (.bool (growL old new m n p))) := by
 have c1 := both_all old n m n true p (Nat.le_refl _) h0 hmn hn (by omega)
 obtain ⟨a, b, k, hu⟩ : ∃ a b k, bothF old m n true p = (a, b, k) := ⟨_, _, _, rfl⟩
 rw [hu] at c1
 dsimp only at c1
 refine PF.enter (fn := Tryz.f58) Tryz.func58 rfl Tryz.ntmps58 rfl (fun w0 => .w ?_)
 refine .g 3 1 rfl ?_
 refine TE.frzb 5 rfl rfl rfl rfl ?_
 refine TE.frzb 6 rfl rfl rfl rfl ?_
 refine .t 1 3 rfl rfl (.bv (.bool false) rfl (congrArg Value.bool (decide_eq_false (by omega)))) ?_
 refine .t 3 3 rfl rfl (.bv (.bool false) rfl (congrArg Value.bool (decide_eq_false (by omega)))) ?_
 refine .t 2 3 rfl rfl (.lm (hdv old) rfl) ?_
 refine .t 3 3 rfl rfl (.cc (c1) rfl) ?_
 refine .g 9 3 rfl ?_
 refine TE.obj 3 (.box 41 (hdv a)) rfl rfl ?_
 refine TE.obj 4 (.box 41 (hdv b)) rfl rfl ?_
 cases k with
 | true =>
  by_cases hao : a = old
  ·skip
   refine .t 2 5 rfl rfl (.lp (hdv a) rfl) ?_
   refine .t 0 5 rfl rfl (.lm (hdv old) rfl) ?_
   refine .t 0 5 rfl rfl (.eqht (a := a) (b := old) (hao) rfl rfl rfl qh41) ?_
   refine .t 2 5 rfl rfl (.lp (hdv b) rfl) ?_
   refine .t 0 5 rfl rfl (.lm (hdv new) rfl) ?_
   refine .t 0 5 rfl rfl (.eqh (a := b) (b := new) rfl rfl rfl qh41) ?_
   rw [show growL old new m n p = decide (H.l b = H.l new) by unfold growL; rw [hu]; simp [hao]]
   exact .z 2 5 rfl (TE.retf rfl rfl rfl (okv rfl))
  ·skip
   have hne : ¬ H.l a = H.l old := fun q => hao (H.l_inj q)
   refine .t 2 5 rfl rfl (.lp (hdv a) rfl) ?_
   refine .t 0 5 rfl rfl (.lm (hdv old) rfl) ?_
   refine .t 0 5 rfl rfl (.eqhf (a := a) (b := old) (hne) rfl rfl rfl qh41) ?_
   rw [show growL old new m n p = false by unfold growL; rw [hu]; simp [hne]]
   exact .z 7 5 rfl (TE.retf rfl rfl rfl (okv rfl))
 | false =>
  rw [show growL old new m n p = false by unfold growL; rw [hu]; rfl]
  exact .z 12 5 rfl (TE.retf rfl rfl rfl (okv rfl))
theorem rin_pf (y : Int) (hy : u64I y) (old new : List UInt8) (ho : old.length ≤ 1048576) (hn : new.length ≤ 1048576) (p : List H) (hp : p.length ≤ 1048576) : PF Tryz.prog 20 [.v (.int .u64 y), slT bdv 1 (old), slT bdv 1 (new), slT hdv 32 (p)] (.v (.int .i64 (inF y old new p))) := by
 obtain ⟨a, b, e, hV⟩ : ∃ a b e, headsF y old new = (a, b, e) := ⟨_, _, _, rfl⟩
 have c1 := rtwo_pc y hy old new ho hn
 rw [hV] at c1
 dsimp only at c1
 have hz := headsF_right hV
 have hao : a.ok := by have q : (readH intI old).1 = a := congrArg Prod.fst hV; rw [← q]; exact readH_zero intI old
 rw [← inF_leaf, hV]
 refine PF.enter (fn := Tryz.f20) Tryz.func20 rfl Tryz.ntmps20 rfl (fun w0 => .w ?_)
 refine .t 4 1 rfl rfl (.cc (c1) rfl) ?_
 refine .g 9 1 rfl ?_
 refine TE.obj 1 (.box 45 a.dv) rfl rfl ?_
 refine TE.obj 2 (.box 45 b.dv) rfl rfl ?_
 refine .q 3 3 rfl rfl (fun h1 => ?_) (fun h1 => ?_)
 ·skip
  have he : ¬ e = 0 := by simpa using h1
  rw [inG_err he]
  exact .z 2 3 rfl (TE.retf rfl rfl rfl (okv rfl))
 ·skip
  have he : e = 0 := by simpa using h1
  have hr := hz he
  have ha := rightH_ep hr.1
  have hb := rightH_ep hr.2
  refine .q 6 3 rfl rfl (fun h2 => ?_) (fun h2 => ?_)
  ·skip
   have hk : b.ep ≤ a.ep := of_decide_eq_true h2
   rw [inG_form he hk]
   exact .z 1 3 rfl (TE.retf rfl rfl rfl (okv rfl))
  ·skip
   have hk : ¬ b.ep ≤ a.ep := of_decide_eq_false h2
   obtain ⟨n, qn⟩ : ∃ z : Nat, b.ep - 1 = (z : Int) := ⟨(b.ep - 1).toNat, by omega⟩
   have tn : (b.ep - 1).toNat = n := by omega
   obtain ⟨i, qi⟩ : ∃ z : Nat, a.ep - 1 = (z : Int) := ⟨(a.ep - 1).toNat, by omega⟩
   have ti : (a.ep - 1).toNat = i := by omega
   have hin : i < n := by omega
   have hnb : n ≤ 1073741825 := by omega
   obtain ⟨kL, hkL⟩ : ∃ k, inLog b.log n i (hleaf a) p = k := ⟨_, rfl⟩
   have eL : inLog b.log (b.ep - 1).toNat (a.ep - 1).toNat (hleaf a) p = kL := by rw [tn, ti]; exact hkL
   have cL : PF Tryz.prog 59 [.ag (hdv (b.log)), .v (.int .i64 ((n : Nat) : Int)), .v (.int .i64 ((i : Nat) : Int)), .ag (hdv ((hleaf a))), slT hdv 32 (p)] (.v (.bool kL)) := hkL ▸ rlchk_pf b.log n i (hleaf a) p hnb hin hp
   refine .d 0 3 rfl ?_
   refine .v 1 3 [2] rfl rfl (fun _ _ => .lp (hdv b.log) rfl) ?_
   refine .v 2 3 [] rfl rfl (fun _ _ => .bv (.int .i64 ((n : Nat) : Int)) rfl (congrArg _ (by rw [IntKind.wrap_i64]; omega))) ?_
   refine .v 2 3 [] rfl rfl (fun _ _ => .bv (.int .i64 ((i : Nat) : Int)) rfl (congrArg _ (by rw [IntKind.wrap_i64]; omega))) ?_
   refine .v 0 3 [1] rfl rfl (fun _ _ => .lp (a.dv) rfl) ?_
   refine .t 0 3 (E := ⟨some (40, _), [(3, .dead)]⟩) [3] rfl rfl (fun _ _ => .letgo (.buildsl (ds := [a].flatMap Hd.dv) 3 rfl rfl rfl ap28 zc45 rfl rfl rfl) rfl rfl) ?_
   refine .v 0 4 [] rfl rfl (fun _ _ => .cf ((rleaves_po [a] (show 1 ≤ _ by decide) (fun h hh => by rw [List.mem_singleton] at hh; subst hh; exact hao)).pf) rfl) ?_
   refine .v 0 4 [] rfl rfl (fun _ _ => .idx (hleaf a) rfl rfl rfl rfl et52 (fun _ => rfl) (by decide) rfl) ?_
   refine .v 0 4 [] rfl rfl (fun _ _ => .lm (hdv (hleaf a)) rfl) ?_
   refine .v 1 4 [] rfl rfl (fun _ _ => .cf (cL) rfl) ?_
   refine .y 2 4 rfl (by kernel_rfl) ?_
   refine .q 0 4 rfl rfl (fun h3 => ?_) (fun h3 => ?_)
   ·skip
    have hK : kL = false := by simpa using h3
    rw [inG_no he hk (eL.trans hK)]
    exact .z 1 4 rfl (TE.retf rfl rfl rfl (okv rfl))
   ·skip
    have hK : kL = true := by simpa using h3
    rw [inG_ok he hk (eL.trans hK)]
    exact .z 1 4 rfl (TE.retf rfl rfl rfl (okv rfl))
theorem rgrown_pf (y : Int) (hy : u64I y) (old new : List UInt8) (ho : old.length ≤ 1048576) (hn : new.length ≤ 1048576) (p : List H) (hp : p.length ≤ 1048576) : PF Tryz.prog 19 [.v (.int .u64 y), slT bdv 1 (old), slT bdv 1 (new), slT hdv 32 (p)] (.v (.int .i64 (growF y old new p))) := by
 obtain ⟨a, b, e, hV⟩ : ∃ a b e, headsF y old new = (a, b, e) := ⟨_, _, _, rfl⟩
 have c1 := rtwo_pc y hy old new ho hn
 rw [hV] at c1
 dsimp only at c1
 have hz := headsF_right hV
 rw [show growF y old new p = growG a b e p by unfold growF; rw [hV]]
 refine PF.enter (fn := Tryz.f19) Tryz.func19 rfl Tryz.ntmps19 rfl (fun w0 => .w ?_)
 refine .t 4 1 rfl rfl (.cc (c1) rfl) ?_
 refine .g 9 1 rfl ?_
 refine TE.obj 1 (.box 45 a.dv) rfl rfl ?_
 refine TE.obj 2 (.box 45 b.dv) rfl rfl ?_
 refine .q 3 3 rfl rfl (fun h1 => ?_) (fun h1 => ?_)
 ·skip
  have he : ¬ e = 0 := by simpa using h1
  rw [growG_err he]
  exact .z 2 3 rfl (TE.retf rfl rfl rfl (okv rfl))
 ·skip
  have he : e = 0 := by simpa using h1
  have hr := hz he
  have ha := rightH_ep hr.1
  have hb := rightH_ep hr.2
  by_cases g1 : a.ep < 2
  ·skip
   have hbad : a.ep < 2 ∨ b.ep < a.ep := .inl g1
   refine .t 2 3 rfl rfl (.bv (.bool true) rfl (congrArg Value.bool (decide_eq_true g1))) ?_
   rw [growG_form he hbad]
   exact .z 10 3 rfl (TE.retf rfl rfl rfl (okv rfl))
  ·skip
   by_cases g2 : b.ep < a.ep
   ·skip
    have hbad : a.ep < 2 ∨ b.ep < a.ep := .inr g2
    refine .t 2 3 rfl rfl (.bv (.bool false) rfl (congrArg Value.bool (decide_eq_false g1))) ?_
    refine .t 5 3 rfl rfl (.bv (.bool true) rfl (congrArg Value.bool (decide_eq_true g2))) ?_
    rw [growG_form he hbad]
    exact .z 4 3 rfl (TE.retf rfl rfl rfl (okv rfl))
   ·skip
    have hbad : ¬ (a.ep < 2 ∨ b.ep < a.ep) := fun z => z.elim g1 g2
    obtain ⟨m, qm⟩ : ∃ z : Nat, a.ep - 1 = (z : Int) := ⟨(a.ep - 1).toNat, by omega⟩
    have tm : (a.ep - 1).toNat = m := by omega
    obtain ⟨n, qn⟩ : ∃ z : Nat, b.ep - 1 = (z : Int) := ⟨(b.ep - 1).toNat, by omega⟩
    have tn : (b.ep - 1).toNat = n := by omega
    obtain ⟨kL, hkL⟩ : ∃ k, growL a.log b.log m n p = k := ⟨_, rfl⟩
    have eL : growL a.log b.log (a.ep - 1).toNat (b.ep - 1).toNat p = kL := by rw [tm, tn]; exact hkL
    have cG : PF Tryz.prog 58 [.ag (hdv (a.log)), .ag (hdv (b.log)), .v (.int .i64 ((m : Nat) : Int)), .v (.int .i64 ((n : Nat) : Int)), slT hdv 32 (p)] (.v (.bool kL)) := hkL ▸ rgl_pf a.log b.log m n p (by omega) (by omega) (by omega) hp
    refine .t 2 3 rfl rfl (.bv (.bool false) rfl (congrArg Value.bool (decide_eq_false g1))) ?_
    refine .t 5 3 rfl rfl (.bv (.bool false) rfl (congrArg Value.bool (decide_eq_false g2))) ?_
    refine .t 4 3 rfl rfl (.lp (hdv a.log) rfl) ?_
    refine .t 1 3 rfl rfl (.lp (hdv b.log) rfl) ?_
    refine .t 2 3 rfl rfl (.bv (.int .i64 ((m : Nat) : Int)) rfl (congrArg _ (by rw [IntKind.wrap_i64]; omega))) ?_
    refine .t 2 3 rfl rfl (.bv (.int .i64 ((n : Nat) : Int)) rfl (congrArg _ (by rw [IntKind.wrap_i64]; omega))) ?_
    refine .t 1 3 rfl rfl (.cf (cG) rfl) ?_
    refine .q 2 3 rfl rfl (fun h7 => ?_) (fun h7 => ?_)
    ·skip
     have hK : kL = false := by simpa using h7
     rw [growG_no he hbad (eL.trans hK)]
     exact .z 1 3 rfl (TE.retf rfl rfl rfl (okv rfl))
    ·skip
     have hK : kL = true := by simpa using h7
     rw [growG_ok he hbad (eL.trans hK)]
     exact .z 1 3 rfl (TE.retf rfl rfl rfl (okv rfl))
theorem grown_all (y : Int) (hy : u64I y) (old new : List UInt8) (ho : old.length ≤ 1048576) (hn : new.length ≤ 1048576) (p : List H) (hp : p.length ≤ 1048576) : PF Tryz.prog 17 [.v (.int .u64 y), slT bdv 1 (old), slT bdv 1 (new), slT hdv 32 (p)] (.v (.int .i64 (growF y old new p))) := grown_pf y hy old new ho hn p hp (fun _ _ o w m n h0 h1 h2 => gchk_pf o w m n p h0 h1 h2 hp)
end Go.Proofs.YtdjcclcejmeheaaGreat

