import Derived.Test.YtdjcclcejmeheaaGreatZGb
import Derived.Test.YtdjcclcejmeheaaGreatZEv
import Derived.Test.YtdjcclcejmeheaaGreatZPy
import Derived.Test.YtdjcclcejmeheaaGreatZHa
/-
  Heads' bytes.
-/
namespace Go.Proofs.YtdjcclcejmeheaaGreat
set_option linter.unusedVariables false
set_option linter.unusedSimpArgs false
open Go.RowKit Pl
set_option maxRecDepth 100000
set_option maxHeartbeats 3200000
theorem num_s (s : RS) (hs : s.1.length ≤ 1099511627776) : PM Tryz.prog 66 [.ptr 0 0] (.mbox 0 166 (rdC (s).1 (s).2)) (.mbox 0 166 (rdC (rdS s 8).1 (rdS s 8).2)) (.d (.v (.int .u64 (rdN s)))) := num_pm s.1 s.2 hs
theorem hash_s (s : RS) (hs : s.1.length ≤ 1099511627776) : PM Tryz.prog 71 [.ptr 0 0] (.mbox 0 166 (rdC (s).1 (s).2)) (.mbox 0 166 (rdC (rdS s 32).1 (rdS s 32).2)) (.d (.ag (hdv (rdH s)))) := hash_pm s.1 s.2 hs
theorem rbytes_po (h : Hd) (ho : h.ok) : PO Tryz.prog 14 [.ag h.dv] 5 1 (putH h).length ((putH h).flatMap bdv) := by
 refine PO.enter (fn := Tryz.f14) Tryz.func14 rfl Tryz.ntmps14 rfl (fun w0 => .w ?_)
 refine .g 2 1 rfl ?_
 refine TE.frzb 1 rfl rfl rfl rfl ?_
 refine .d 0 2 rfl ?_
 refine .v 0 2 [] rfl rfl (fun _ _ => .lm (h.dv) rfl) ?_
 refine .t 0 2 (E := ⟨some (4, _), [(2, _)]⟩) [2] rfl rfl (fun _ _ => .co 2 (rmsg_po h) rfl) ?_
 refine .v 1 3 [] rfl rfl (fun _ _ => .lm (sgdv h.r h.s) rfl) ?_
 refine .v 0 3 [] rfl rfl (fun _ _ => .cf (rsgp_pf h.r h.s ho.1 ho.2) rfl) ?_
 refine .t 0 3 (E := ⟨some (8, _), [(2, .dead), (3, _)]⟩) [2, 3] rfl rfl (fun _ _ => .ap 3 rfl (by rw [flat_length (sz := 1) (fun _ => rfl)]) (flat_one (fun _ => rfl) _) (by rw [msgB_len, putF_len]; decide) (by rw [msgB_len, putF_len]; decide)) ?_
 refine .y 1 4 rfl (by kernel_rfl) ?_
 refine TE.obj 3 (.row 5 1 ((putH h).flatMap bdv)) rfl (congrArg (AO.row _ _) (by unfold putH; rw [List.flatMap_append])) ?_
 refine TE.set 2 (.ow 3 (putH h).length 1) rfl (congrArg (fun n => AV.ow _ n 1) (by unfold putH; rw [List.length_append])) ?_
 exact .z 0 4 rfl (TE.retof rfl rfl rfl (by rw [flat_length (sz := 1) (fun _ => rfl)]) (by decide) (pl_flat (fun b Y hY => by simp [bdv] at hY; subst hY; exact pl_v _) _))
theorem near_pf (n : Int) (hn : u64I n) : PF Tryz.prog 70 [.v (.int .u64 n)] (.v (.int .i64 (nearI n))) := by
 refine PF.enter (fn := Tryz.f70) Tryz.func70 rfl Tryz.ntmps70 rfl (fun w0 => .w ?_)
 refine .q 3 1 rfl rfl (fun h1 => ?_) (fun h1 => ?_)
 ·skip
  have hb : 1152921504606846976 < n := of_decide_eq_true h1
  have e : nearI n = -1 := if_pos hb
  rw [e]
  exact .z 1 1 rfl (TE.retf rfl rfl rfl (by first | trivial | exact pl_v _))
 ·skip
  have hb : ¬ 1152921504606846976 < n := of_decide_eq_false h1
  have e : nearI n = n := if_neg hb
  refine .t 1 1 rfl rfl (.cv (n) rfl (by rw [IntKind.wrap_i64]; have := hn.1; omega)) ?_
  rw [e]
  exact .z 1 1 rfl (TE.retf rfl rfl rfl (by first | trivial | exact pl_v _))
end Go.Proofs.YtdjcclcejmeheaaGreat
/-
  What bytes are read as a head.
-/
namespace Go.Proofs.YtdjcclcejmeheaaGreat
set_option linter.unusedVariables false
set_option linter.unusedSimpArgs false
open Go.RowKit Pl
set_option maxRecDepth 100000
set_option maxHeartbeats 3200000
theorem cf63 : cfn Tryz.prog 63 = true := by kernel_rfl
theorem hread_pc (l : List UInt8) (hl : l.length ≤ 1099511627776) : PC Tryz.prog 26 [slT bdv 1 l] (.tp [.ag (readH intI l).1.dv, .v (.int .i64 (readH intI l).2)]) := by
 refine PC.enter (fn := Tryz.f26) Tryz.func26 rfl Tryz.ntmps26 rfl (fun w0 K0 => .w ?_)
 refine .g 2 1 rfl ?_
 refine TE.obj 1 (.box 45 zeroHd.dv) rfl rfl ?_
 refine .q 4 2 rfl rfl (fun h1 => ?_) (fun h1 => ?_)
 ·skip
  have h1 : 512 < l.length := by have q := of_decide_eq_true h1; (try dsimp only at q); omega
  refine .t 0 2 rfl rfl (.bd (zeroHd.dv) rfl) ?_
  rw [← readH_near]
  rw [readH_long h1]
  exact .z 2 2 rfl (TE.rettc rfl rfl rfl)
 ·skip
  have h1 : ¬ (512 < l.length) := by have q := of_decide_eq_false h1; (try dsimp only at q); omega
  refine .q 4 2 rfl rfl (fun h2 => ?_) (fun h2 => ?_)
  ·skip
   have h2 : l.length < 105 := by have q := of_decide_eq_true h2; (try dsimp only at q); omega
   refine .t 0 2 rfl rfl (.bd (zeroHd.dv) rfl) ?_
   rw [← readH_near]
   rw [readH_short h2]
   exact .z 2 2 rfl (TE.rettc rfl rfl rfl)
  ·skip
   have h2 : ¬ (l.length < 105) := by have q := of_decide_eq_false h2; (try dsimp only at q); omega
   have hp : 0 < l.length := by omega
   have g0 : l.getD 0 0 = l[0] := by rw [List.getD_eq_getElem?_getD, List.getElem?_eq_getElem hp]; rfl
   refine .g 4 2 rfl ?_
   refine .case 20 rfl (fun h3 => ?_) (fun h3 => ?_)
   ·skip
    have h4 : 105 < l.length := by have q := of_decide_eq_true h3; (try dsimp only at q); omega
    have h3 : 105 < l.length ∨ ¬ l.getD 0 0 = 72 := .inl h4
    refine .t 7 2 rfl rfl (.bd (zeroHd.dv) rfl) ?_
    rw [← readH_near]
    rw [readH_bytes h1 h2 h3]
    exact .z 2 2 rfl (TE.rettc rfl rfl rfl)
   ·skip
    have h4 : ¬ (105 < l.length) := by have q := of_decide_eq_false h3; (try dsimp only at q); omega
    refine .t 1 2 rfl rfl (.idx (l[0]'hp) rfl rfl rfl rfl et22 (fun _ => rfl) (by decide) (List.getElem?_eq_getElem hp)) ?_
    refine .q 4 2 rfl rfl (fun h5 => ?_) (fun h5 => ?_)
    ·skip
     have h3 : 105 < l.length ∨ ¬ l.getD 0 0 = 72 := .inr (by rw [g0]; intro q; rw [q] at h5; exact absurd h5 (by decide))
     refine .t 0 2 rfl rfl (.bd (zeroHd.dv) rfl) ?_
     rw [← readH_near]
     rw [readH_bytes h1 h2 h3]
     exact .z 2 2 rfl (TE.rettc rfl rfl rfl)
    ·skip
     have h5 : l.getD 0 0 = 72 := by rw [g0]; have z : ((l[0].toNat : Nat) : Int) = 72 := (by simpa using h5); exact UInt8.toNat_inj.1 (by show l[0].toNat = 72; omega)
     refine .t 1 2 rfl rfl (.slice rfl rfl rfl rfl rfl et22 (fun _ => rfl) (by decide) (by omega) (Int.le_refl _)) ?_
     refine .sub 28 (slT bdv 1 (l.drop 1)) rfl rfl (fun K w u h => by have e : ((l.take (l.length : Int).toNat).drop (1 : Int).toNat) = l.drop 1 := (by simp); rw [← e]; exact h) ?_
     refine .t 0 2 rfl rfl (.callb 2 rfl rfl cf63 rfl ⟨trivial, trivial⟩ (new_pb (l.drop 1) (by rw [List.length_drop]; omega))) ?_
     refine .g 1 3 rfl ?_
     obtain ⟨s0, he0⟩ : ∃ s0 : RS, s0 = (l.drop 1, 0) := ⟨_, rfl⟩
     have hs0 : s0.1.length ≤ 1099511627776 := by rw [he0, List.length_drop]; omega
     refine TE.obj 2 (.box 166 (rdC (s0).1 (s0).2)) rfl (by (rw [he0]); try rfl) ?_
     refine .t 1 3 rfl rfl (.cm 2 (.box 166 (rdC ((rdS s0 8)).1 ((rdS s0 8)).2)) rfl (num_s s0 hs0) rfl) ?_
     refine .t 0 3 rfl rfl (.cf (near_pf (rdN s0) (rdN_bd _)) rfl) ?_
     refine .t 1 3 rfl rfl (.cm 2 (.box 166 (rdC ((rdS (rdS s0 8) 8)).1 ((rdS (rdS s0 8) 8)).2)) rfl (num_s (rdS s0 8) (Nat.le_trans (rdS_le _ _) hs0)) rfl) ?_
     refine .t 0 3 rfl rfl (.cf (near_pf (rdN (rdS s0 8)) (rdN_bd _)) rfl) ?_
     refine .t 1 3 rfl rfl (.cm 2 (.box 166 (rdC ((rdS (rdS (rdS s0 8) 8) 8)).1 ((rdS (rdS (rdS s0 8) 8) 8)).2)) rfl (num_s (rdS (rdS s0 8) 8) (Nat.le_trans (rdS_le _ _) (Nat.le_trans (rdS_le _ _) hs0))) rfl) ?_
     refine .t 0 3 rfl rfl (.cf (near_pf (rdN (rdS (rdS s0 8) 8)) (rdN_bd _)) rfl) ?_
     refine .t 1 3 rfl rfl (.cm 2 (.box 166 (rdC ((rdS (rdS (rdS (rdS s0 8) 8) 8) 32)).1 ((rdS (rdS (rdS (rdS s0 8) 8) 8) 32)).2)) rfl (hash_s (rdS (rdS (rdS s0 8) 8) 8) (Nat.le_trans (rdS_le _ _) (Nat.le_trans (rdS_le _ _) (Nat.le_trans (rdS_le _ _) hs0)))) rfl) ?_
     refine .t 1 3 rfl rfl (.cm 2 (.box 166 (rdC ((rdS (rdS (rdS (rdS (rdS s0 8) 8) 8) 32) 32)).1 ((rdS (rdS (rdS (rdS (rdS s0 8) 8) 8) 32) 32)).2)) rfl (hash_s (rdS (rdS (rdS (rdS s0 8) 8) 8) 32) (Nat.le_trans (rdS_le _ _) (Nat.le_trans (rdS_le _ _) (Nat.le_trans (rdS_le _ _) (Nat.le_trans (rdS_le _ _) hs0))))) rfl) ?_
     refine .t 0 3 rfl rfl (.bd (Hd.dv ⟨nearI (rdN s0), nearI (rdN (rdS s0 8)), nearI (rdN (rdS (rdS s0 8) 8)), rdH (rdS (rdS (rdS s0 8) 8) 8), rdH (rdS (rdS (rdS (rdS s0 8) 8) 8) 32), 0, 0⟩) rfl) ?_
     refine .t 3 3 rfl rfl (.cm 2 (.box 166 (rdC ((rdS (rdS (rdS (rdS (rdS (rdS s0 8) 8) 8) 32) 32) 8)).1 ((rdS (rdS (rdS (rdS (rdS (rdS s0 8) 8) 8) 32) 32) 8)).2)) rfl (num_s (rdS (rdS (rdS (rdS (rdS s0 8) 8) 8) 32) 32) (Nat.le_trans (rdS_le _ _) (Nat.le_trans (rdS_le _ _) (Nat.le_trans (rdS_le _ _) (Nat.le_trans (rdS_le _ _) (Nat.le_trans (rdS_le _ _) hs0)))))) rfl) ?_
     refine .t 1 4 rfl rfl (.cm 2 (.box 166 (rdC ((rdS (rdS (rdS (rdS (rdS (rdS (rdS s0 8) 8) 8) 32) 32) 8) 8)).1 ((rdS (rdS (rdS (rdS (rdS (rdS (rdS s0 8) 8) 8) 32) 32) 8) 8)).2)) rfl (num_s (rdS (rdS (rdS (rdS (rdS (rdS s0 8) 8) 8) 32) 32) 8) (Nat.le_trans (rdS_le _ _) (Nat.le_trans (rdS_le _ _) (Nat.le_trans (rdS_le _ _) (Nat.le_trans (rdS_le _ _) (Nat.le_trans (rdS_le _ _) (Nat.le_trans (rdS_le _ _) hs0))))))) rfl) ?_
     refine .t 0 4 rfl rfl (.bd (sgdv (rdN (rdS (rdS (rdS (rdS (rdS s0 8) 8) 8) 32) 32)) (rdN (rdS (rdS (rdS (rdS (rdS (rdS s0 8) 8) 8) 32) 32) 8))) rfl) ?_
     refine .g 2 4 rfl ?_
     refine TE.obj 3 (.box 45 (hdF nearI s0).dv) rfl rfl ?_
     refine .t 0 4 rfl rfl (.lp ((hdF nearI s0).dv) rfl) ?_
     refine .t 0 4 rfl rfl (.cf (right_pf (hdF nearI s0)) rfl) ?_
     refine .q 1 4 rfl rfl (fun h6 => ?_) (fun h6 => ?_)
     ·skip
      have hR : rightH (hdF nearI s0) = false := by simpa using h6
      refine .t 0 4 rfl rfl (.bd (zeroHd.dv) rfl) ?_
      rw [← readH_near]
      rw [readH_form h2 h4 h5 (he0 ▸ hR)]
      exact .z 2 4 rfl (TE.rettc rfl rfl rfl)
     ·skip
      have hR : rightH (hdF nearI s0) = true := by simpa using h6
      refine .t 0 4 rfl rfl (.lp ((hdF nearI s0).dv) rfl) ?_
      rw [← readH_near]
      rw [readH_ok h2 h4 h5 (he0 ▸ hR), ← he0]
      exact .z 2 4 rfl (TE.rettc rfl rfl rfl)
end Go.Proofs.YtdjcclcejmeheaaGreat
/-
  Logs, batches by name, epochs: the plain values.
-/
namespace Go.Proofs.YtdjcclcejmeheaaGreat
set_option linter.unusedVariables false
set_option linter.unusedSimpArgs false
open Go.RowKit Pl
/-- The greatest power of two below a number. -/
def splitN (n : Nat) : Nat := if n < 2 then 0 else 2 ^ (n - 1).log2
theorem splitN_two {n : Nat} (h : 2 ≤ n) : 1 ≤ splitN n ∧ splitN n < n ∧ n ≤ 2 * splitN n := by
  unfold splitN; rw [if_neg (by omega)]
  have h1 := Nat.log2_self_le (n := n - 1) (by omega)
  have h2 := Nat.lt_log2_self (n := n - 1)
  rw [Nat.pow_succ] at h2
  have := Nat.two_pow_pos (n - 1).log2
  omega
theorem splitN_lt {n : Nat} (h : n < 2) : splitN n = 0 := by unfold splitN; rw [if_pos h]
theorem splitN_eq {n j : Nat} (h1 : 2 ^ j < n) (h2 : n ≤ 2 * 2 ^ j) : splitN n = 2 ^ j := by
  have hp := Nat.two_pow_pos j
  unfold splitN; rw [if_neg (by omega)]
  have : (n - 1).log2 = j := by rw [Nat.log2_eq_iff (by omega), Nat.pow_succ]; omega
  rw [this]
/-- Logs. -/
def lnode (a b : H) : H := tagH 78 [H.l a, H.l b]
def lleaf (b : List UInt8) : H := tagH 76 [b]
def lnull : H := tagH 69 []
def lrF : Nat → List H → H
  | 0, _ => zeroH
  | f + 1, l => if l.length = 0 then lnull else if l.length = 1 then l.headD zeroH else lnode (lrF f (l.take (splitN l.length))) (lrF f (l.drop (splitN l.length)))
def lroot (l : List H) : H := lrF (l.length + 1) l
theorem lrF_eq : ∀ (f g : Nat) (l : List H), l.length < f → l.length < g → lrF f l = lrF g l
  | 0, _, _, h, _ => absurd h (Nat.not_lt_zero _)
  | _, 0, _, _, h => absurd h (Nat.not_lt_zero _)
  | f + 1, g + 1, l, h1, h2 => by
    unfold lrF
    by_cases h0 : l.length = 0
    · rw [if_pos h0, if_pos h0]
    · by_cases h1' : l.length = 1
      · rw [if_neg h0, if_pos h1', if_neg h0, if_pos h1']
      · have hs := splitN_two (n := l.length) (by omega)
        rw [if_neg h0, if_neg h1', if_neg h0, if_neg h1', lrF_eq f g _ (by rw [List.length_take]; omega) (by rw [List.length_take]; omega), lrF_eq f g _ (by rw [List.length_drop]; omega) (by rw [List.length_drop]; omega)]
theorem lroot_nil {l : List H} (h : l.length = 0) : lroot l = lnull := by unfold lroot lrF; rw [if_pos h]
theorem lroot_one {l : List H} (h : l.length = 1) (k : 0 < l.length) : lroot l = l[0] := by
  unfold lroot lrF; rw [if_neg (by omega), if_pos h]
  cases l with
  | nil => cases k
  | cons x r => rfl
theorem lroot_two {l : List H} (h : 2 ≤ l.length) : lroot l = lnode (lroot (l.take (splitN l.length))) (lroot (l.drop (splitN l.length))) := by
  have hs := splitN_two h
  have e : lroot l = lnode (lrF l.length (l.take (splitN l.length))) (lrF l.length (l.drop (splitN l.length))) := by
    show lrF (l.length + 1) l = _
    rw [lrF, if_neg (by omega), if_neg (by omega)]
  rw [e]
  unfold lroot
  rw [lrF_eq l.length ((l.take (splitN l.length)).length + 1) _ (by rw [List.length_take]; omega) (by omega), lrF_eq l.length ((l.drop (splitN l.length)).length + 1) _ (by rw [List.length_drop]; omega) (by omega)]
def hleaf (h : Hd) : H := lleaf (putH h)
def hdl : Hd → List DV := Hd.dv
theorem hd_len (h : Hd) : h.dv.length = 69 := rfl
/-- A batch in the order of the names. -/
def leN (a b : List UInt8) : Bool := Op.bytesLess a b || decide (a = b)
def inNm (e : En) (l : List En) : List En := l.takeWhile (fun x => leN x.nm e.nm) ++ e :: l.dropWhile (fun x => leN x.nm e.nm)
def byN (l : List En) : List En := l.foldl (fun o e => inNm e o) []
theorem inNm_len (e : En) (l : List En) : (inNm e l).length = l.length + 1 := by
  unfold inNm
  have := congrArg List.length (List.takeWhile_append_dropWhile (p := fun x => leN x.nm e.nm) (l := l))
  simp only [List.length_append, List.length_cons] at this ⊢; omega
theorem byN_snoc {l : List En} {k : Nat} (h : k < l.length) : byN (l.take (k + 1)) = inNm l[k] (byN (l.take k)) := by
  unfold byN; rw [take_snoc' h, List.foldl_append]; rfl
theorem byN_len (l : List En) : (byN l).length = l.length := by
  have : ∀ (l o : List En), (l.foldl (fun o e => inNm e o) o).length = o.length + l.length := fun l => by
    induction l with
    | nil => intro o; rfl
    | cons e r ih => intro o; rw [List.foldl_cons, ih, inNm_len, List.length_cons]; omega
  unfold byN; rw [this]; simp
/-- An epoch as it is published. -/
structure Pub where
  hd : Hd
  es : List En
def Pub.dv (p : Pub) : List DV := p.hd.dv ++ [slT En.dv 3 p.es]
def zeroPub : Pub := ⟨zeroHd, []⟩
theorem subL_snoc : ∀ {Zs : List DV} {X Y : DV}, Sub X Y → SubL (Zs ++ [X]) (Zs ++ [Y])
  | [], _, _, h => subL_cons h subL_nil
  | Z :: Zs, _, _, h => subL_cons (Sub.refl Z) (subL_snoc h)
theorem pub_nil (h : Hd) : Sub (.ag (h.dv ++ [.v (.slice none 0 0)])) (.ag (Pub.dv ⟨h, []⟩)) := sub_ag (subL_snoc (nil_sub _ _))
/-- The next epoch's head, and whether there is one. -/
def badN (kn : List Kn) (hs : List Hd) (b : List En) (tk : Int) : Bool := !(addR kn ((hs.length + 1 : Nat) : Int) b).2 || (decide (b.length < 1) || (decide (8 < b.length) || (decide (tk < 0) || (decide (1152921504606846976 < tk) || (decide (1 < hs.length + 1) && decide (tk < (hs.getLastD zeroHd).tk))))))
def knN (kn : List Kn) (hs : List Hd) (b : List En) : List Kn := (addR kn ((hs.length + 1 : Nat) : Int) b).1
def headN (kn : List Kn) (hs : List Hd) (b : List En) (tk : Int) : Hd := ⟨((hs.length + 1 : Nat) : Int), tk, ((b.length : Nat) : Int), rootH (setR (itsK ((hs.length + 1 : Nat) : Int) (knN kn hs b)) []), lroot (hs.map hleaf), 0, 0⟩
def buildB (x : Int) (kn : List Kn) (hs : List Hd) (b : List En) (tk : Int) : Pub × List Kn × Int := if badN kn hs b tk = true then (zeroPub, [], 23) else (⟨signH x (headN kn hs b tk), byN b⟩, knN kn hs b, 0)
def nextV (kn : List Kn) (hs : List Hd) (b : List En) (tk : Int) : Hd × List Kn × Bool := if badN kn hs b tk = true then (zeroHd, [], false) else (headN kn hs b tk, knN kn hs b, true)
theorem nextV_bad {kn : List Kn} {hs : List Hd} {b : List En} {tk : Int} (h : badN kn hs b tk = true) : nextV kn hs b tk = (zeroHd, [], false) := if_pos h
theorem nextV_good {kn : List Kn} {hs : List Hd} {b : List En} {tk : Int} (h : badN kn hs b tk = false) : nextV kn hs b tk = (headN kn hs b tk, knN kn hs b, true) := if_neg (by rw [h]; simp)
theorem addGo_in {kn : List Kn} {ep : Int} (hk : knIn kn) : ∀ (r done : List En) (out : List Kn), knIn out → knIn (addGo kn ep done r out).1
  | [], _, out, h => h
  | e :: r, done, out, h => by
    unfold addGo
    split
    · rename_i hc
      refine addGo_in hk r _ _ fun k hm => ?_
      rcases mem_insK hm with rfl | hm
      · have := hc.1
        simp only [rightE, Bool.and_eq_true, decide_eq_true_eq] at this
        exact ⟨by show e.nm.length ≤ _; omega, by show 0 ≤ e.key; omega, by show e.key < _; omega⟩
      · exact h k hm
    · exact hk
theorem addR_in {kn : List Kn} {ep : Int} {b : List En} (hk : knIn kn) : knIn (addR kn ep b).1 := by
  unfold addR; split
  · exact hk
  · exact addGo_in hk b [] kn hk
/-- The seat's epochs. -/
structure Eps where
  ps : List Pub
  hs : List Hd
  kn : List Kn
  tk : Int
def epB (kn : List Kn) (b : UInt8) (n : Nat) : List En := (List.range n).map fun j => seatE (b + UInt8.ofNat j) (i64w ((latR kn (nameL (((b + UInt8.ofNat j).toNat : Nat) : Int))).1.ver + 1))
def epN (b : UInt8) : Nat := b.toNat / 24 % 3 + 1
def epT (b : UInt8) : Nat := b.toNat / 6 % 4
def epS (x : Int) (s : Eps) (b : UInt8) : Eps := if badN s.kn s.hs (epB s.kn b (epN b)) (s.tk + epT b) = true then { s with tk := s.tk + epT b } else
  ⟨s.ps ++ [⟨signH x (headN s.kn s.hs (epB s.kn b (epN b)) (s.tk + epT b)), byN (epB s.kn b (epN b))⟩], s.hs ++ [signH x (headN s.kn s.hs (epB s.kn b (epN b)) (s.tk + epT b))], knN s.kn s.hs (epB s.kn b (epN b)), s.tk + epT b⟩
def epsR (x : Int) (l : List UInt8) : Eps := l.foldl (epS x) ⟨[], [], [], 0⟩
theorem epsR_snoc (x : Int) {l : List UInt8} {k : Nat} (h : k < l.length) : epsR x (l.take (k + 1)) = epS x (epsR x (l.take k)) l[k] := by
  unfold epsR; rw [take_snoc' h, List.foldl_append]; rfl
theorem epB_len (kn : List Kn) (b : UInt8) (n : Nat) : (epB kn b n).length = n := by unfold epB; simp
theorem epB_snoc (kn : List Kn) (b : UInt8) (n : Nat) : epB kn b (n + 1) = epB kn b n ++ [seatE (b + UInt8.ofNat n) (i64w ((latR kn (nameL (((b + UInt8.ofNat n).toNat : Nat) : Int))).1.ver + 1))] := by
  unfold epB; rw [List.range_succ, List.map_append]; rfl
structure EpsOk (s : Eps) (n : Nat) : Prop where
  ps : s.ps.length = s.hs.length
  hs : s.hs.length ≤ n
  kn : s.kn.length ≤ 3 * n
  tk : 0 ≤ s.tk ∧ s.tk ≤ 3 * n
  knI : knIn s.kn
  hok : ∀ h ∈ s.hs, h.ok
theorem epS_ok (x : Int) {s : Eps} {n : Nat} (h : EpsOk s n) (b : UInt8) : EpsOk (epS x s b) (n + 1) := by
  have ht : epT b ≤ 3 := by unfold epT; omega
  have hn : epN b ≤ 3 := by unfold epN; omega
  have ht0 := h.tk
  unfold epS
  split
  · exact ⟨h.ps, Nat.le_succ_of_le h.hs, by have := h.kn; show s.kn.length ≤ _; omega, by show 0 ≤ s.tk + (epT b : Int) ∧ s.tk + (epT b : Int) ≤ _; omega, h.knI, h.hok⟩
  · refine ⟨?_, ?_, ?_, ?_, addR_in h.knI, ?_⟩
    · have := h.ps; simp [this]
    · have := h.hs; simp; omega
    · have h1 := h.kn
      have h2 := addR_len s.kn ((s.hs.length + 1 : Nat) : Int) (epB s.kn b (epN b))
      rw [epB_len] at h2
      show (addR _ _ _).1.length ≤ _; omega
    · show 0 ≤ s.tk + (epT b : Int) ∧ s.tk + (epT b : Int) ≤ _; omega
    · intro g hg
      rcases List.mem_append.1 hg with hg | hg
      · exact h.hok g hg
      · rw [List.mem_singleton] at hg; subst hg; exact signH_ok _ _
theorem epsR_ok (x : Int) (l : List UInt8) : EpsOk (epsR x l) l.length := by
  have : ∀ (k : Nat), k ≤ l.length → EpsOk (epsR x (l.take k)) k := fun k => by
    induction k with
    | zero => intro _; exact ⟨rfl, Nat.le_refl _, Nat.le_refl _, ⟨Int.le_refl _, by show (0 : Int) ≤ 3 * ((0 : Nat) : Int); omega⟩, fun k h => (by cases h), fun h q => (by cases q)⟩
    | succ k ih => intro h; rw [epsR_snoc x (by omega : k < l.length)]; exact epS_ok x (ih (by omega)) _
  have := this l.length (Nat.le_refl _)
  rwa [List.take_length] at this
end Go.Proofs.YtdjcclcejmeheaaGreat

