import Derived.Test.YtmjokdhhniblgaaGreatYId
import Derived.Test.YtmjokdhhniblgaaGreatYEv
/-
  What an entry may be; the library's helpers.
-/
namespace Go.Proofs.YtmjokdhhniblgaaGreat
set_option linter.unusedVariables false
set_option linter.unusedSimpArgs false
open Go.RowKit Pl
set_option maxRecDepth 100000
set_option maxHeartbeats 3200000
theorem cf81 : cfn Tryz.prog 81 = true := by kernel_rfl
theorem umay_pf (e : En) : PF Tryz.prog 151 [.ag e.dv] (.v (.bool (rightE e.nm e.ver e.key))) := by
 refine PF.enter (fn := Tryz.f151) Tryz.func151 rfl Tryz.ntmps151 rfl (fun w0 => .w ?_)
 by_cases m0 : 1 ≤ e.nm.length
 ·skip
  by_cases m1 : e.nm.length ≤ 32
  ·skip
   by_cases m2 : 1 ≤ e.ver
   ·skip
    by_cases m3 : e.ver ≤ 1073741824
    ·skip
     by_cases m4 : 1 ≤ e.key
     ·skip
      by_cases m5 : e.key < 2305843009213693951
      ·skip
       have hR : rightE e.nm e.ver e.key = true := by unfold rightE; rw [decide_eq_true m0, decide_eq_true m1, decide_eq_true m2, decide_eq_true m3, decide_eq_true m4, decide_eq_true m5]; rfl
       refine .t 5 1 rfl rfl (.bv (.bool true) rfl (congrArg Value.bool (decide_eq_true (by omega)))) ?_
       refine .t 4 2 rfl rfl (.bv (.bool true) rfl (congrArg Value.bool (decide_eq_true (by omega)))) ?_
       refine .t 4 2 rfl rfl (.bv (.bool true) rfl (congrArg Value.bool (decide_eq_true (by omega)))) ?_
       refine .t 4 2 rfl rfl (.bv (.bool true) rfl (congrArg Value.bool (decide_eq_true (by omega)))) ?_
       refine .t 4 2 rfl rfl (.bv (.bool true) rfl (congrArg Value.bool (decide_eq_true (by omega)))) ?_
       refine .t 4 2 rfl rfl (.bv (.bool true) rfl (congrArg Value.bool (decide_eq_true (by omega)))) ?_
       rw [hR]
       exact .z 2 2 rfl (TE.retf rfl rfl rfl trivial)
      ·skip
       have hR : rightE e.nm e.ver e.key = false := by unfold rightE; rw [decide_eq_false m5]; simp
       refine .t 5 1 rfl rfl (.bv (.bool true) rfl (congrArg Value.bool (decide_eq_true (by omega)))) ?_
       refine .t 4 2 rfl rfl (.bv (.bool true) rfl (congrArg Value.bool (decide_eq_true (by omega)))) ?_
       refine .t 4 2 rfl rfl (.bv (.bool true) rfl (congrArg Value.bool (decide_eq_true (by omega)))) ?_
       refine .t 4 2 rfl rfl (.bv (.bool true) rfl (congrArg Value.bool (decide_eq_true (by omega)))) ?_
       refine .t 4 2 rfl rfl (.bv (.bool true) rfl (congrArg Value.bool (decide_eq_true (by omega)))) ?_
       refine .t 4 2 rfl rfl (.bv (.bool false) rfl (congrArg Value.bool (decide_eq_false (by omega)))) ?_
       rw [hR]
       exact .z 2 2 rfl (TE.retf rfl rfl rfl trivial)
     ·skip
      have hR : rightE e.nm e.ver e.key = false := by unfold rightE; rw [decide_eq_false m4]; simp
      refine .t 5 1 rfl rfl (.bv (.bool true) rfl (congrArg Value.bool (decide_eq_true (by omega)))) ?_
      refine .t 4 2 rfl rfl (.bv (.bool true) rfl (congrArg Value.bool (decide_eq_true (by omega)))) ?_
      refine .t 4 2 rfl rfl (.bv (.bool true) rfl (congrArg Value.bool (decide_eq_true (by omega)))) ?_
      refine .t 4 2 rfl rfl (.bv (.bool true) rfl (congrArg Value.bool (decide_eq_true (by omega)))) ?_
      refine .t 4 2 rfl rfl (.bv (.bool false) rfl (congrArg Value.bool (decide_eq_false (by omega)))) ?_
      rw [hR]
      exact .z 7 2 rfl (TE.retf rfl rfl rfl trivial)
    ·skip
     have hR : rightE e.nm e.ver e.key = false := by unfold rightE; rw [decide_eq_false m3]; simp
     refine .t 5 1 rfl rfl (.bv (.bool true) rfl (congrArg Value.bool (decide_eq_true (by omega)))) ?_
     refine .t 4 2 rfl rfl (.bv (.bool true) rfl (congrArg Value.bool (decide_eq_true (by omega)))) ?_
     refine .t 4 2 rfl rfl (.bv (.bool true) rfl (congrArg Value.bool (decide_eq_true (by omega)))) ?_
     refine .t 4 2 rfl rfl (.bv (.bool false) rfl (congrArg Value.bool (decide_eq_false (by omega)))) ?_
     rw [hR]
     exact .z 12 2 rfl (TE.retf rfl rfl rfl trivial)
   ·skip
    have hR : rightE e.nm e.ver e.key = false := by unfold rightE; rw [decide_eq_false m2]; simp
    refine .t 5 1 rfl rfl (.bv (.bool true) rfl (congrArg Value.bool (decide_eq_true (by omega)))) ?_
    refine .t 4 2 rfl rfl (.bv (.bool true) rfl (congrArg Value.bool (decide_eq_true (by omega)))) ?_
    refine .t 4 2 rfl rfl (.bv (.bool false) rfl (congrArg Value.bool (decide_eq_false (by omega)))) ?_
    rw [hR]
    exact .z 17 2 rfl (TE.retf rfl rfl rfl trivial)
  ·skip
   have hR : rightE e.nm e.ver e.key = false := by unfold rightE; rw [decide_eq_false m1]; simp
   refine .t 5 1 rfl rfl (.bv (.bool true) rfl (congrArg Value.bool (decide_eq_true (by omega)))) ?_
   refine .t 4 2 rfl rfl (.bv (.bool false) rfl (congrArg Value.bool (decide_eq_false (by omega)))) ?_
   rw [hR]
   exact .z 22 2 rfl (TE.retf rfl rfl rfl trivial)
 ·skip
  have hR : rightE e.nm e.ver e.key = false := by unfold rightE; rw [decide_eq_false m0]; simp
  refine .t 5 1 rfl rfl (.bv (.bool false) rfl (congrArg Value.bool (decide_eq_false (by omega)))) ?_
  rw [hR]
  exact .z 27 2 rfl (TE.retf rfl rfl rfl trivial)
theorem emay_pf (e : En) : PF Tryz.prog 100 [.ag e.dv] (.v (.bool (rightE e.nm e.ver e.key))) := by
 refine PF.enter (fn := Tryz.f100) Tryz.func100 rfl Tryz.ntmps100 rfl (fun w0 => .w ?_)
 by_cases m0 : 1 ≤ e.nm.length
 ·skip
  by_cases m1 : e.nm.length ≤ 32
  ·skip
   by_cases m2 : 1 ≤ e.ver
   ·skip
    by_cases m3 : e.ver ≤ 1073741824
    ·skip
     by_cases m4 : 1 ≤ e.key
     ·skip
      by_cases m5 : e.key < 2305843009213693951
      ·skip
       have hR : rightE e.nm e.ver e.key = true := by unfold rightE; rw [decide_eq_true m0, decide_eq_true m1, decide_eq_true m2, decide_eq_true m3, decide_eq_true m4, decide_eq_true m5]; rfl
       refine .t 5 1 rfl rfl (.bv (.bool true) rfl (congrArg Value.bool (decide_eq_true (by omega)))) ?_
       refine .t 4 2 rfl rfl (.bv (.bool true) rfl (congrArg Value.bool (decide_eq_true (by omega)))) ?_
       refine .t 4 2 rfl rfl (.bv (.bool true) rfl (congrArg Value.bool (decide_eq_true (by omega)))) ?_
       refine .t 4 2 rfl rfl (.bv (.bool true) rfl (congrArg Value.bool (decide_eq_true (by omega)))) ?_
       refine .t 4 2 rfl rfl (.bv (.bool true) rfl (congrArg Value.bool (decide_eq_true (by omega)))) ?_
       refine .t 4 2 rfl rfl (.bv (.bool true) rfl (congrArg Value.bool (decide_eq_true (by omega)))) ?_
       rw [hR]
       exact .z 2 2 rfl (TE.retf rfl rfl rfl trivial)
      ·skip
       have hR : rightE e.nm e.ver e.key = false := by unfold rightE; rw [decide_eq_false m5]; simp
       refine .t 5 1 rfl rfl (.bv (.bool true) rfl (congrArg Value.bool (decide_eq_true (by omega)))) ?_
       refine .t 4 2 rfl rfl (.bv (.bool true) rfl (congrArg Value.bool (decide_eq_true (by omega)))) ?_
       refine .t 4 2 rfl rfl (.bv (.bool true) rfl (congrArg Value.bool (decide_eq_true (by omega)))) ?_
       refine .t 4 2 rfl rfl (.bv (.bool true) rfl (congrArg Value.bool (decide_eq_true (by omega)))) ?_
       refine .t 4 2 rfl rfl (.bv (.bool true) rfl (congrArg Value.bool (decide_eq_true (by omega)))) ?_
       refine .t 4 2 rfl rfl (.bv (.bool false) rfl (congrArg Value.bool (decide_eq_false (by omega)))) ?_
       rw [hR]
       exact .z 2 2 rfl (TE.retf rfl rfl rfl trivial)
     ·skip
      have hR : rightE e.nm e.ver e.key = false := by unfold rightE; rw [decide_eq_false m4]; simp
      refine .t 5 1 rfl rfl (.bv (.bool true) rfl (congrArg Value.bool (decide_eq_true (by omega)))) ?_
      refine .t 4 2 rfl rfl (.bv (.bool true) rfl (congrArg Value.bool (decide_eq_true (by omega)))) ?_
      refine .t 4 2 rfl rfl (.bv (.bool true) rfl (congrArg Value.bool (decide_eq_true (by omega)))) ?_
      refine .t 4 2 rfl rfl (.bv (.bool true) rfl (congrArg Value.bool (decide_eq_true (by omega)))) ?_
      refine .t 4 2 rfl rfl (.bv (.bool false) rfl (congrArg Value.bool (decide_eq_false (by omega)))) ?_
      rw [hR]
      exact .z 7 2 rfl (TE.retf rfl rfl rfl trivial)
    ·skip
     have hR : rightE e.nm e.ver e.key = false := by unfold rightE; rw [decide_eq_false m3]; simp
     refine .t 5 1 rfl rfl (.bv (.bool true) rfl (congrArg Value.bool (decide_eq_true (by omega)))) ?_
     refine .t 4 2 rfl rfl (.bv (.bool true) rfl (congrArg Value.bool (decide_eq_true (by omega)))) ?_
     refine .t 4 2 rfl rfl (.bv (.bool true) rfl (congrArg Value.bool (decide_eq_true (by omega)))) ?_
     refine .t 4 2 rfl rfl (.bv (.bool false) rfl (congrArg Value.bool (decide_eq_false (by omega)))) ?_
     rw [hR]
     exact .z 12 2 rfl (TE.retf rfl rfl rfl trivial)
   ·skip
    have hR : rightE e.nm e.ver e.key = false := by unfold rightE; rw [decide_eq_false m2]; simp
    refine .t 5 1 rfl rfl (.bv (.bool true) rfl (congrArg Value.bool (decide_eq_true (by omega)))) ?_
    refine .t 4 2 rfl rfl (.bv (.bool true) rfl (congrArg Value.bool (decide_eq_true (by omega)))) ?_
    refine .t 4 2 rfl rfl (.bv (.bool false) rfl (congrArg Value.bool (decide_eq_false (by omega)))) ?_
    rw [hR]
    exact .z 17 2 rfl (TE.retf rfl rfl rfl trivial)
  ·skip
   have hR : rightE e.nm e.ver e.key = false := by unfold rightE; rw [decide_eq_false m1]; simp
   refine .t 5 1 rfl rfl (.bv (.bool true) rfl (congrArg Value.bool (decide_eq_true (by omega)))) ?_
   refine .t 4 2 rfl rfl (.bv (.bool false) rfl (congrArg Value.bool (decide_eq_false (by omega)))) ?_
   rw [hR]
   exact .z 22 2 rfl (TE.retf rfl rfl rfl trivial)
 ·skip
  have hR : rightE e.nm e.ver e.key = false := by unfold rightE; rw [decide_eq_false m0]; simp
  refine .t 5 1 rfl rfl (.bv (.bool false) rfl (congrArg Value.bool (decide_eq_false (by omega)))) ?_
  rw [hR]
  exact .z 27 2 rfl (TE.retf rfl rfl rfl trivial)
theorem uent_pf (nm : List UInt8) (v k c : Int) : PF Tryz.prog 152 [.ag [.v (strV nm), .v (.int .i64 v), .v (.int .u64 k), .v (.int .i64 c), .v (.int .u64 0), .v (.int .u64 0)]] (.ag (En.dv ⟨nm, v, k⟩)) := by
 refine PF.enter (fn := Tryz.f152) Tryz.func152 rfl Tryz.ntmps152 rfl (fun w0 => .w ?_)
 refine .t 8 1 rfl rfl (.bd (En.dv ⟨nm, v, k⟩) rfl) ?_
 exact .z 1 3 rfl (TE.retf rfl rfl rfl (pl_ag (pl_en ⟨nm, v, k⟩)))
theorem urt_pf (nm : List UInt8) (v k : Int) : PF Tryz.prog 112 [.ag [.v (strV nm), .v (.int .i64 v), .v (.int .u64 k), .v (.int .i64 0), .v (.int .u64 0), .v (.int .u64 0)]] (.v (.bool (rightE nm v k))) := by
 refine PF.enter (fn := Tryz.f112) Tryz.func112 rfl Tryz.ntmps112 rfl (fun w0 => .w ?_)
 refine .t 3 1 rfl rfl (.cf (uent_pf nm v k 0) rfl) ?_
 refine .t 0 2 rfl rfl (.cf (umay_pf ⟨nm, v, k⟩) rfl) ?_
 refine .case 5 rfl (fun h1 => ?_) (fun h1 => ?_)
 ·skip
  have hR : rightE nm v k = true := h1
  refine .t 3 2 rfl rfl (.bv (.bool true) rfl (rfl)) ?_
  rw [hR]
  exact .z 7 2 rfl (TE.retf rfl rfl rfl trivial)
 ·skip
  have hR : rightE nm v k = false := h1
  rw [hR]
  exact .z 11 2 rfl (TE.retf rfl rfl rfl trivial)
theorem dmay_pf (e : En) : PF Tryz.prog 83 [.ag e.dv] (.v (.bool (rightE e.nm e.ver e.key))) := by
 refine PF.enter (fn := Tryz.f83) Tryz.func83 rfl Tryz.ntmps83 rfl (fun w0 => .w ?_)
 refine .t 8 1 rfl rfl (.bd ([.v (strV e.nm), .v (.int .i64 e.ver), .v (.int .u64 e.key), .v (.int .i64 0), .v (.int .u64 0), .v (.int .u64 0)]) rfl) ?_
 refine .t 0 2 rfl rfl (.cf (urt_pf e.nm e.ver e.key) rfl) ?_
 exact .z 1 2 rfl (TE.retf rfl rfl rfl trivial)
theorem add1_pf (k : Kn) (ep : Int) : PF Tryz.prog 81 ([.ag k.dv] ++ [.el [.v (.int .i64 ep)]]) (.v (.bool (decide (ep ≤ k.ep)))) := by
 refine PF.enter (fn := Tryz.f81) Tryz.func81 rfl Tryz.ntmps81 rfl (fun w0 => .w ?_)
 exact .z 7 1 rfl (TE.retf rfl rfl rfl trivial)
/-- The first that is so. -/
def fsK (p : Kn → Bool) : List Kn → Nat
  | [] => 0
  | x :: r => if p x then 0 else fsK p r + 1
theorem fsK_at {p : Kn → Bool} : ∀ {l : List Kn} {k : Nat} (hk : k < l.length), p l[k] = true → (∀ j (hj : j < l.length), j < k → p l[j] = false) → fsK p l = k
  | x :: r, 0, _, h, _ => by simp only [List.getElem_cons_zero] at h; simp [fsK, h]
  | x :: r, k + 1, hk, h, hn => by
    have h0 : p x = false := hn 0 (by simp) (by omega)
    have := fsK_at (p := p) (l := r) (k := k) (by simpa using hk) (by simpa using h) (fun j hj hjk => hn (j + 1) (by simpa using hj) (by omega))
    simp [fsK, h0, this]
theorem fsK_none {p : Kn → Bool} : ∀ {l : List Kn}, (∀ j (hj : j < l.length), p l[j] = false) → fsK p l = l.length
  | [], _ => rfl
  | x :: r, hn => by
    have h0 : p x = false := hn 0 (by simp)
    have := fsK_none (p := p) (l := r) (fun j hj => hn (j + 1) (by simpa using hj))
    simp [fsK, h0, this]
theorem fsK_lt {p : Kn → Bool} : ∀ {l : List Kn}, fsK p l < l.length ↔ ∃ k ∈ l, p k = true
  | [] => by simp [fsK]
  | x :: r => by
    have ih := fsK_lt (p := p) (l := r)
    cases h : p x with
    | true => simp [fsK, h]
    | false => simp [fsK, h, ← ih]
/-- The first batch of this epoch or a later one: where it stands. -/
def idxE (ep : Int) (l : List Kn) : Int := if fsK (fun k : Kn => decide (ep ≤ k.ep)) l < l.length then ((fsK (fun k : Kn => decide (ep ≤ k.ep)) l : Nat) : Int) else -1
theorem idxk_pf (l : List Kn) (ep : Int) (hl : l.length ≤ 1048577) : PF Tryz.prog 111 [slT Kn.dv 4 l, .fn (.func 81) [] [.el [.v (.int .i64 ep)]]] (.v (.int .i64 (idxE ep l))) := by
 refine PF.enter (fn := Tryz.f111) Tryz.func111 rfl Tryz.ntmps111 rfl (fun w0 => .w ?_)
 refine .g 4 1 rfl ?_
 refine TE.setv 8 (.int .i64 ((0 : Nat) : Int)) rfl (congrArg _ (by first | rfl | (dsimp only; first | done | rfl | omega))) ?_
 refine .lo (T := Nat) 0 1 rfl (fun i => i ≤ l.length ∧ ∀ j (hj : j < l.length), j < i → (fun k : Kn => decide (ep ≤ k.ep)) l[j] = false) (fun i => l.length - i) [0, 1] [] (fun i => [(6, .d (slT Kn.dv 4 l)), (7, .f (.v (.int .i64 ((l.length : Nat) : Int)))), (8, .d (.v (.int .i64 ((i : Nat) : Int))))]) (fun i => []) (0) rfl rfl ⟨Nat.zero_le _, fun j _ h => absurd h (Nat.not_lt_zero j)⟩ rfl rfl rfl (fun i hI => ?_)
 obtain ⟨i1, i2⟩ := hI
 refine .q 1 1 rfl rfl (fun h1 => ?_) (fun h1 => ?_)
 ·skip
  have hi : i < l.length := by have q := of_decide_eq_true h1; (try dsimp only at q); omega
  refine .t 5 1 rfl rfl (.idx (l[i]) rfl rfl rfl rfl et33 (fun _ => rfl) (Int.natCast_nonneg i) (get_nat hi)) ?_
  refine .t 0 1 rfl rfl (.lm (l[i].dv) rfl) ?_
  refine .t 0 1 rfl rfl (.callvf rfl rfl cf81 rfl ⟨trivial, trivial⟩ (add1_pf l[i] ep)) ?_
  refine .q 0 1 rfl rfl (fun h2 => ?_) (fun h2 => ?_)
  ·skip
   have hb : (fun k : Kn => decide (ep ≤ k.ep)) l[i] = true := h2
   have e : idxE ep l = ((i : Nat) : Int) := by unfold idxE; rw [fsK_at hi hb (fun j hj hjk => i2 j hj hjk), if_pos hi]
   rw [e]
   exact .z 2 1 rfl (TE.retf rfl rfl rfl (pl_v _))
  ·skip
   have hb : (fun k : Kn => decide (ep ≤ k.ep)) l[i] = false := h2
   refine .t 0 1 rfl rfl (.bv (.int .i64 ((i + 1 : Nat) : Int)) rfl (congrArg _ (by (try dsimp only); rw [IntKind.wrap_i64]; omega))) ?_
   refine .g 1 1 rfl ?_
   refine TE.setv 8 (.int .i64 ((i + 1 : Nat) : Int)) rfl (congrArg _ (by first | rfl | (dsimp only; first | done | rfl | omega))) ?_
   exact .rd 0 1 id (fun _ _ e => e) rfl (i + 1) ⟨hi, fun j hj hjk => (Nat.lt_or_eq_of_le (Nat.le_of_lt_succ hjk)).elim (i2 j hj) (fun e => by subst e; exact hb)⟩ (by omega) rfl rfl rfl
 ·skip
  have hi : ¬ (i < l.length) := by have q := of_decide_eq_false h1; (try dsimp only at q); omega
  have e : idxE ep l = -1 := by unfold idxE; rw [fsK_none (fun j hj => i2 j hj (by omega)), if_neg (Nat.lt_irrefl _)]
  rw [e]
  exact .z 1 1 rfl (TE.retf rfl rfl rfl trivial)
theorem cont_pf (l : List Kn) (ep : Int) (hl : l.length ≤ 1048577) : PF Tryz.prog 80 [slT Kn.dv 4 l, .fn (.func 81) [] [.el [.v (.int .i64 ep)]]] (.v (.bool (decide (0 ≤ idxE ep l)))) := by
 refine PF.enter (fn := Tryz.f80) Tryz.func80 rfl Tryz.ntmps80 rfl (fun w0 => .w ?_)
 refine .t 3 1 rfl rfl (.cf (idxk_pf l ep hl) rfl) ?_
 exact .z 2 1 rfl (TE.retf rfl rfl rfl trivial)
theorem clk_po (l : List Kn) (hl : l.length ≤ 1048576) : PO Tryz.prog 79 [slT Kn.dv 4 l] 40 4 l.length (l.flatMap Kn.dv) := by
 refine PO.enter (fn := Tryz.f79) Tryz.func79 rfl Tryz.ntmps79 rfl (fun w0 => .w ?_)
 refine .g 2 1 rfl ?_
 refine .eqnil rfl rfl rfl et33 (fun hn0 hc0 => ?_) ?_
 ·skip
  have e : l = [] := List.eq_nil_of_length_eq_zero hn0
  subst e
  refine .g 2 1 rfl ?_
  refine TE.own0 2 1 40 4 rfl rfl ?_
  exact .z 0 2 rfl (TE.retof rfl rfl rfl rfl (by decide) pl_nil)
 ·skip
  refine .t 1 2 rfl rfl (.buildsl0 2 rfl rfl ap33) ?_
  refine .t 1 3 rfl rfl (.ap 3 rfl rfl (flat_one (fun _ => rfl) l) (by omega) (by omega)) ?_
  refine .g 1 4 rfl ?_
  refine TE.set 2 (.ow 3 l.length 4) rfl (by rw [Nat.zero_add]) ?_
  refine TE.obj 3 (.row 40 4 (l.flatMap Kn.dv)) rfl rfl ?_
  exact .z 0 4 rfl (TE.retof rfl rfl rfl (flat_length (sz := 4) (enc := Kn.dv) (fun _ => rfl) _) (by decide) (pl_flat pl_kn _))
end Go.Proofs.YtmjokdhhniblgaaGreat

