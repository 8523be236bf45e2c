import Derived.Test.YtdjcclcejmeheaaGreatZFe
import Derived.Test.YtdjcclcejmeheaaGreatZQ3
import Derived.Test.YtdjcclcejmeheaaGreatZPy
import Derived.Test.YtdjcclcejmeheaaGreatZEv
/-
  Readers: what a call of Raw leaves; Clone and Word as contracts of data.
-/
namespace Go.Proofs.YtdjcclcejmeheaaGreat
set_option linter.unusedVariables false
set_option linter.unusedSimpArgs false
open Go.RowKit Pl
/-- A reader's cells: the bytes that are left, and its error. -/
def rdC (l : List UInt8) (x : Int) : List DV := [slT bdv 1 l, .v (.int .i64 x)]
theorem rd_bad {l : List UInt8} {x : Int} (n : Nat) (h : ¬ x = 0) : rawOut l x n = [] ∧ rawRest l x n = l ∧ rawErr l x n = x := by
  unfold rawOut rawRest rawErr; simp [h]
theorem rd_short {l : List UInt8} {x : Int} {n : Nat} (h : x = 0) (k : ¬ n ≤ l.length) : rawOut l x n = [] ∧ rawRest l x n = [] ∧ rawErr l x n = 21 := by
  unfold rawOut rawRest rawErr; simp [h, k]
theorem rd_ok {l : List UInt8} {x : Int} {n : Nat} (h : x = 0) (k : n ≤ l.length) : rawOut l x n = l.take n ∧ rawRest l x n = l.drop n ∧ rawErr l x n = x := by
  unfold rawOut rawRest rawErr; simp [h, k]
theorem rdC_sub (x : Value) : SubL [.v (.slice none 0 0), .v x] [slT bdv 1 [], .v x] := subL_cons (nil_sub _ _) (subL_cons (fun _ _ _ h => h) subL_nil)
theorem rawRest_le (l : List UInt8) (x : Int) (n : Nat) : (rawRest l x n).length ≤ l.length := by
  unfold rawRest; split
  · split
    · rw [List.length_drop]; omega
    · simp
  · exact Nat.le_refl _
theorem po_own1 {P : Program} {f : FuncId} {X : DV} {l : List UInt8} (hc : ∀ w v, X.rep noK w v → Calls P f #[v] w (GivesOwn w l)) : PO P f [X] 5 1 l.length (l.flatMap bdv) := fun w us hr => by
  unfold repL at hr
  obtain ⟨v, t, rfl, r1, hr⟩ := hr
  unfold repL at hr; subst hr
  exact (hc w v r1).mono fun e w' ⟨v, h1, h2, h3⟩ => ⟨v, bvs l, h1, h3, h2, bvs_one l, fun K _ => repL_u8 l⟩
theorem clone8_pf (l : List UInt8) (hl : l.length ≤ 1099511627776) : PF Tryz.prog 111 [slT bdv 1 l] (slT bdv 1 l) := (po_own1 fun w v hv => clone_any v l w (rd_of_rep hv) hl).pf
theorem clone8_po (l : List UInt8) (hl : l.length ≤ 1099511627776) : PO Tryz.prog 111 [slT bdv 1 l] 5 1 l.length (l.flatMap bdv) := po_own1 fun w v hv => clone_any v l w (rd_of_rep hv) hl
theorem join_pf (ls : List (List UInt8)) (hl : totalLen ls ≤ 1099511627776) (hn : ls.length ≤ 1099511627776) : PF Tryz.prog 119 [slT ldv 1 ls] (slT bdv 1 ls.flatten) := (po_own1 fun w v hv => join_any v ls w (rdl_of_rep hv) hl hn).pf
theorem or_next {q : List UInt8} {i : Nat} (h : i < q.length) (hq : q.length ≤ 8) : bits .or .u64 (leNum (q.take i)) (IntKind.u64.wrap (IntKind.u64.wrap (q[i].toNat : Int) * 2 ^ (8 * i))) = leNum (q.take (i + 1)) := by
  have h2 := leNum_bd (q.take i)
  rw [List.length_take, Nat.min_eq_left (Nat.le_of_lt h)] at h2
  rw [or_step' (leNum (q.take i)) (q[i].toNat : Int) i (by omega) h2.1 h2.2 (by omega) (by have := UInt8.toNat_lt q[i]; omega), ← leNum_take q i h]
theorem ofL_at {l : List UInt8} {j : Nat} (p : j < (H.l (ofL l)).length) : (H.l (ofL l))[j] = l.getD j 0 := List.getElem_ofFn p
theorem ofL_copy {q : List UInt8} {m : Nat} (hm : m = q.length) (hq : q.length ≤ 32) : Pl.splice (hdv zeroH) 0 ((q.flatMap bdv).take (m * 1)) = hdv (ofL q) := by
  have hz : (hdv zeroH) = (List.replicate 32 (0 : UInt8)).flatMap bdv := rfl
  have hl : (q.flatMap bdv).length = q.length := by rw [flat_length (enc := bdv) (sz := 1) (fun _ => rfl)]; omega
  rw [hm, Nat.mul_one, List.take_of_length_le (by omega)]
  unfold Pl.splice
  rw [List.take_zero, List.nil_append, hl, Nat.zero_add]
  unfold hdv
  have e : H.l (ofL q) = q ++ List.replicate (32 - q.length) 0 := by
    apply List.ext_getElem
    · simp [H.l_len]; omega
    · intro j h1 h2
      rw [ofL_at h1, List.getElem_append]
      split
      · next e => simp [List.getD_eq_getElem?_getD, e]
      · next e => simp [List.getD_eq_getElem?_getD, e]
  rw [e, List.flatMap_append]
  congr 1
  have e2 : H.l zeroH = List.replicate 32 0 := rfl
  rw [e2, show (32 : Nat) = q.length + (32 - q.length) by omega, ← List.replicate_append_replicate, List.flatMap_append, show q.length + (32 - q.length) - q.length = 32 - q.length by omega]
  have h3 : ((List.replicate q.length (0 : UInt8)).flatMap bdv).length = q.length := by rw [flat_length (enc := bdv) (sz := 1) (fun _ => rfl)]; simp
  exact List.drop_left' h3
end Go.Proofs.YtdjcclcejmeheaaGreat
/-
  Heads: plain values; signatures of both sides as contracts of data; a new row let go at once.
-/
namespace Go.Proofs.YtdjcclcejmeheaaGreat
set_option linter.unusedVariables false
set_option linter.unusedSimpArgs false
open Go.RowKit Pl
/-- An operation whose new row is let go at once. -/
theorem Pl.OT.letgo {P : Program} {C : Cx} {o : Oper} {L : Lo} {Γ Γ' : Ga} {d g n sz e : Nat} {cs : List DV} {Y : DV} (h : OT P C o L Γ (upd L d (.ow g n sz)) (upd Γ' g (.row e sz cs))) (hl : cs.length = n * sz) (he : DV.sl sz n cs = Y) : OT P C o L Γ (upd L d (.d Y)) (upd Γ' g .dead) := fun a w hr =>
  Oper.wp_mono (fun a' w' q => by
    subst he
    have q2 := reps_freeze d (g := g) (upd_same _ _ _) (upd_same _ _ _) hl q
    have e1 : upd (upd L d (.ow g n sz)) d (.d (.sl sz n cs)) = upd L d (.d (.sl sz n cs)) := by
      funext i; unfold upd; cases i.beq d <;> rfl
    have e2 : upd (upd Γ' g (.row e sz cs)) g .dead = upd Γ' g .dead := by
      funext i; unfold upd; cases i.beq g <;> rfl
    rw [e1, e2] at q2
    exact q2) (h a w hr)
def sgdv (r s : Int) : List DV := [.v (.int .u64 r), .v (.int .u64 s)]
theorem sg_rep {K : Nat → Prop} {w : World} (r s : Int) : (DV.ag (sgdv r s)).rep K w (sigV r s) := by
  unfold DV.rep
  exact ⟨[.int .u64 r, .int .u64 s], rfl, repL_v [.int .u64 r, .int .u64 s]⟩
theorem sg_val {K : Nat → Prop} {w : World} {r s : Int} {u : Value} (h : (DV.ag (sgdv r s)).rep K w u) : u = sigV r s := by
  unfold DV.rep at h
  obtain ⟨us, rfl, h⟩ := h
  have := repL_v_eq (us := [.int .u64 r, .int .u64 s]) h
  rw [this]; rfl
def u64I (x : Int) : Prop := 0 ≤ x ∧ x < 18446744073709551616
def sigP (x : Int) (m : List UInt8) : Int × Int := (sigR (x % 2305843009213693950) m, sigS (x % 2305843009213693950) m)
theorem sigP_bd (x : Int) (m : List UInt8) : u64I (sigP x m).1 ∧ u64I (sigP x m).2 := by
  have h1 := sigR_bd (x % 2305843009213693950) m
  have h2 := sigS_bd (x % 2305843009213693950) m
  exact ⟨⟨h1.1, by show sigR _ _ < _; omega⟩, ⟨h2.1, by show sigS _ _ < _; omega⟩⟩
theorem pf_sign {P : Program} {f : FuncId} {x : Int} {m : List UInt8} (hc : ∀ v w, Rd w v m → Calls P f #[.int .u64 x, v] w fun e w' => e = .returned (signV x m) ∧ Below w.heap.size w w') : PF P f [.v (.int .u64 x), slT bdv 1 m] (.ag (sgdv (sigP x m).1 (sigP x m).2)) := fun w us hr => by
  unfold repL at hr
  obtain ⟨v, t, rfl, r1, hr⟩ := hr
  unfold repL at hr
  obtain ⟨y, t', rfl, r2, hr⟩ := hr
  unfold repL at hr; subst hr
  unfold DV.rep at r1; subst r1
  exact (hc y w (rd_of_rep r2)).mono fun e w' ⟨h1, h2⟩ => ⟨_, h1, h2, fun K _ => sg_rep _ _⟩
theorem rsgn_pf (x : Int) (m : List UInt8) (hx : u64I x) (hl : m.length ≤ 549755813800) : PF Tryz.prog 95 [.v (.int .u64 x), slT bdv 1 m] (.ag (sgdv (sigP x m).1 (sigP x m).2)) := pf_sign fun v w hv => rsign_any x v m w hx.1 hx.2 hv hl
theorem pf_chk {P : Program} {f : FuncId} {y r s : Int} {m : List UInt8} {b : Bool} (hc : ∀ v w, Rd w v m → Calls P f #[.int .u64 y, v, sigV r s] w fun e w' => e = .returned (.bool b) ∧ Below w.heap.size w w') : PF P f [.v (.int .u64 y), slT bdv 1 m, .ag (sgdv r s)] (.v (.bool b)) := fun w us hr => by
  unfold repL at hr
  obtain ⟨v, t, rfl, r1, hr⟩ := hr
  unfold repL at hr
  obtain ⟨y, t', rfl, r2, hr⟩ := hr
  unfold repL at hr
  obtain ⟨z, t'', rfl, r3, hr⟩ := hr
  unfold repL at hr; subst hr
  unfold DV.rep at r1; subst r1
  have := sg_val r3; subst this
  exact (hc y w (rd_of_rep r2)).mono fun e w' ⟨h1, h2⟩ => ⟨_, h1, h2, fun K _ => by unfold DV.rep; rfl⟩
theorem sgc_pf (y r s : Int) (m : List UInt8) (hy : u64I y) (hr : u64I r) (hs : u64I s) (hl : m.length ≤ 549755813800) : PF Tryz.prog 74 [.v (.int .u64 y), slT bdv 1 m, .ag (sgdv r s)] (.v (.bool (checkF y m r s))) := pf_chk fun v w hv => check_any y r s v m w hy.1 hy.2 hr.1 hr.2 hs.1 hs.2 hv hl
theorem po_sput {P : Program} {f : FuncId} {r s : Int} {l : List UInt8} (hc : ∀ w, Calls P f #[sigV r s] w (GivesOwn w l)) : PO P f [.ag (sgdv r s)] 5 1 l.length (l.flatMap bdv) := fun w us hr => by
  unfold repL at hr
  obtain ⟨z, t, rfl, r3, hr⟩ := hr
  unfold repL at hr; subst hr
  have := sg_val r3; subst this
  exact (hc w).mono fun e w' ⟨v, h1, h2, h3⟩ => ⟨v, bvs l, h1, h3, h2, bvs_one l, fun K _ => repL_u8 l⟩
theorem rsgp_pf (r s : Int) (hr : u64I r) (hs : u64I s) : PF Tryz.prog 49 [.ag (sgdv r s)] (slT bdv 1 (putF r s)) := (po_sput fun w => rput_any r s w hr.1 hr.2 hs.1 hs.2).pf
theorem rpub_pf (x : Int) (hx : u64I x) : PF Tryz.prog 12 [.v (.int .u64 x)] (.v (.int .u64 (pubF x))) := pf_plain rfl rfl fun w => (rpublic_any x w hx.1 hx.2).mono fun e w' ⟨h1, h2⟩ => ⟨h1, h2.below _⟩
structure Hd where
  ep : Int
  tk : Int
  ct : Int
  root : H
  log : H
  r : Int
  s : Int
def Hd.dv (h : Hd) : List DV := .v (.int .i64 h.ep) :: .v (.int .i64 h.tk) :: .v (.int .i64 h.ct) :: (hdv h.root ++ (hdv h.log ++ sgdv h.r h.s))
def Hd.ok (h : Hd) : Prop := u64I h.r ∧ u64I h.s
def zeroHd : Hd := ⟨0, 0, 0, zeroH, zeroH, 0, 0⟩
def rightH (h : Hd) : Bool := decide (1 ≤ h.ep ∧ h.ep ≤ 1073741824 ∧ 0 ≤ h.tk ∧ h.tk ≤ 1152921504606846976 ∧ 1 ≤ h.ct ∧ h.ct ≤ 8)
def msgL (h : Hd) : List (List UInt8) := [[72], numB (u64w h.ep), numB (u64w h.tk), numB (u64w h.ct), H.l h.root, H.l h.log]
def msgB (h : Hd) : List UInt8 := (msgL h).flatten
theorem hg_one (h : H) : (hdv h).all DV.one = true := flat_one (fun _ => rfl) _
theorem msgL_len (h : Hd) : totalLen (msgL h) ≤ 1099511627776 := by
  unfold msgL
  simp only [totalLen, List.map_cons, List.map_nil, List.sum_cons, List.sum_nil, numB_len, H.l_len, List.length_cons, List.length_nil]; omega
theorem msgB_app (h : Hd) : [72] ++ numB (u64w h.ep) ++ numB (u64w h.tk) ++ numB (u64w h.ct) ++ H.l h.root ++ H.l h.log = msgB h := by unfold msgB msgL; simp
theorem pl_hd (h : Hd) : Pl (.ag h.dv) := by
  refine pl_ag ?_
  unfold Hd.dv
  exact pl_cons (pl_v _) (pl_cons (pl_v _) (pl_cons (pl_v _) (pl_app (pl_h _) (pl_app (pl_h _) (pl_cons (pl_v _) (pl_cons (pl_v _) pl_nil))))))
theorem msgB_len (h : Hd) : (msgB h).length = 89 := by
  unfold msgB msgL
  simp only [List.flatten_cons, List.flatten_nil, List.length_append, List.length_cons, List.length_nil, numB_len, H.l_len]
def signH (x : Int) (h : Hd) : Hd := { h with r := (sigP x (msgB h)).1, s := (sigP x (msgB h)).2 }
def checkH (y : Int) (h : Hd) : Bool := rightH h && checkF y (msgB h) h.r h.s
def putH (h : Hd) : List UInt8 := msgB h ++ putF h.r h.s
theorem putH_len (h : Hd) : (putH h).length = 105 := by unfold putH; rw [List.length_append, msgB_len, putF_len]
theorem checkH_no {y : Int} {h : Hd} (q : rightH h = false) : checkH y h = false := by unfold checkH; rw [q]; rfl
theorem checkH_yes {y : Int} {h : Hd} (q : rightH h = true) : checkH y h = checkF y (msgB h) h.r h.s := by unfold checkH; rw [q]; rfl
theorem signH_ok (x : Int) (h : Hd) : (signH x h).ok := sigP_bd x (msgB h)
end Go.Proofs.YtdjcclcejmeheaaGreat
/-
  Readers.
-/
namespace Go.Proofs.YtdjcclcejmeheaaGreat
set_option linter.unusedVariables false
set_option linter.unusedSimpArgs false
open Go.RowKit Pl
set_option maxRecDepth 100000
set_option maxHeartbeats 3200000
theorem et22 : elt Tryz.prog 22 = some (5, 1) := by kernel_rfl
theorem fail_pm (l : List UInt8) (x y : Int) : PM Tryz.prog 112 [.ptr 0 0, .d (.v (.int .i64 y))] (.mbox 0 166 (rdC (l) (x))) (.mbox 0 166 (rdC ([]) (y))) (.d (.tp [])) := by
 refine PM.enter (fn := Tryz.f112) Tryz.func112 rfl Tryz.ntmps112 rfl rfl rfl (fun w0 K0 ob => .w ?_)
 refine .g 9 1 rfl ?_
 refine TE.obj 0 (.mbox 0 166 [.v (.slice none 0 0), .v (.int .i64 y)]) rfl rfl ?_
 refine TE.objsub 0 (rdC [] y) rfl rfl rfl (rdC_sub _) ?_
 exact .z 0 1 rfl (TE.retm0 0 rfl rfl rfl)
theorem raw_pm (l : List UInt8) (x : Int) (n : Nat) (hl : l.length ≤ 1099511627776) : PM Tryz.prog 113 [.ptr 0 0, .d (.v (.int .i64 ((n : Nat) : Int)))] (.mbox 0 166 (rdC (l) (x))) (.mbox 0 166 (rdC (rawRest l x n) (rawErr l x n))) (.d (slT bdv 1 (rawOut l x n))) := by
 refine PM.enter (fn := Tryz.f113) Tryz.func113 rfl Tryz.ntmps113 rfl rfl rfl (fun w0 K0 ob => .w ?_)
 refine .g 4 1 rfl ?_
 refine TE.setv 1 (.int .i64 ((n : Nat) : Int)) rfl (congrArg _ (Int.max_eq_left (Int.natCast_nonneg n))) ?_
 refine .q 6 1 rfl rfl (fun h1 => ?_) (fun h1 => ?_)
 ·skip
  have hx : ¬ x = 0 := by simpa using h1
  refine .g 1 1 rfl ?_
  obtain ⟨e1, e2, e3⟩ := rd_bad (l := l) n hx
  rw [e1, e2, e3]
  refine TE.sub 4 (slT bdv 1 []) rfl rfl (nil_sub _ _) ?_
  exact .z 0 1 rfl (TE.retm 0 rfl rfl rfl rfl rfl)
 ·skip
  have hx : x = 0 := by simpa using h1
  refine .q 8 1 rfl rfl (fun h2 => ?_) (fun h2 => ?_)
  ·skip
   have hn : ¬ n ≤ l.length := by have q := of_decide_eq_true h2; (try dsimp only at q); omega
   refine .t 1 1 rfl rfl (.cm 0 (.mbox 0 166 (rdC ([]) (21))) rfl (fail_pm l x 21) rfl) ?_
   refine .g 1 1 rfl ?_
   obtain ⟨e1, e2, e3⟩ := rd_short (l := l) hx hn
   rw [e1, e2, e3]
   refine TE.sub 4 (slT bdv 1 []) rfl rfl (nil_sub _ _) ?_
   exact .z 0 1 rfl (TE.retm 0 rfl rfl rfl rfl rfl)
  ·skip
   have hn : n ≤ l.length := by have q := of_decide_eq_false h2; (try dsimp only at q); omega
   refine .t 5 1 rfl rfl (.slice rfl rfl rfl rfl rfl et22 (fun _ => rfl) (by omega) (by omega) (by omega)) ?_
   refine .t 0 1 rfl rfl (.cf (clone8_pf _ (by simp only [List.length_drop, List.length_take]; omega)) rfl) ?_
   refine .g 1 1 rfl ?_
   refine TE.set 5 (.f (slT bdv 1 (l.take n))) rfl (by simp only [Int.toNat_natCast, Int.toNat_zero, List.drop_zero]; try rfl) ?_
   refine .t 6 1 rfl rfl (.slice rfl rfl rfl rfl rfl et22 (fun _ => rfl) (by omega) (by omega) (by omega)) ?_
   refine .g 3 1 rfl ?_
   refine TE.obj 0 (.mbox 0 166 (rdC (l.drop n) (x))) rfl (by simp only [Int.toNat_natCast, List.take_length]; rfl) ?_
   obtain ⟨e1, e2, e3⟩ := rd_ok (l := l) hx hn
   rw [e1, e2, e3]
   exact .z 2 1 rfl (TE.retm 0 rfl rfl rfl rfl rfl)
theorem num_pm (l : List UInt8) (x : Int) (hl : l.length ≤ 1099511627776) : PM Tryz.prog 66 [.ptr 0 0] (.mbox 0 166 (rdC (l) (x))) (.mbox 0 166 (rdC (rawRest l x 8) (rawErr l x 8))) (.d (.v (.int .u64 (leNum (rawOut l x 8))))) := by
 have hq := rawOut_le l x 8
 refine PM.enter (fn := Tryz.f66) Tryz.func66 rfl Tryz.ntmps66 rfl rfl rfl (fun w0 K0 ob => .w ?_)
 refine .t 3 1 rfl rfl (.cm 0 (.mbox 0 166 (rdC (rawRest l x 8) (rawErr l x 8))) rfl (raw_pm l x 8 hl) rfl) ?_
 refine .g 2 1 rfl ?_
 generalize rawOut l x 8 = q at hq ⊢
 refine TE.setv 9 (.int .i64 ((0 : Nat) : Int)) rfl (congrArg _ (by first | rfl | (dsimp only; first | done | rfl | omega))) ?_
 refine TE.setv 8 (.int .i64 ((q.length : Nat) : Int)) rfl rfl ?_
 refine TE.setv 3 (.int .u64 (leNum (q.take 0))) rfl rfl ?_
 refine .lo (T := Nat) 0 1 rfl (fun i => i ≤ q.length) (fun i => q.length - i) [0] [] (fun i => [(3, .d (.v (.int .u64 (leNum (q.take i))))), (7, .d (slT bdv 1 q)), (8, .d (.v (.int .i64 ((q.length : Nat) : Int)))), (9, .d (.v (.int .i64 ((i : Nat) : Int))))]) (fun i => [(0, .mbox 0 166 (rdC (rawRest l x 8) (rawErr l x 8)))]) (0) rfl rfl (Nat.zero_le _) rfl rfl rfl (fun i hI => ?_)
 refine .q 1 1 rfl rfl (fun h1 => ?_) (fun h1 => ?_)
 ·skip
  have hi : i < q.length := by have q := of_decide_eq_true h1; (try dsimp only at q); omega
  refine .t 1 1 rfl rfl (.idx (q[i]) rfl rfl rfl rfl et22 (fun _ => rfl) (Int.natCast_nonneg _) (get_nat hi)) ?_
  refine .t 5 1 rfl rfl (.cv (IntKind.u64.wrap (q[i].toNat : Int)) rfl (rfl)) ?_
  refine .t 1 1 rfl rfl (.bv (.int .i64 ((8 * i : Nat) : Int)) rfl (congrArg _ (by (try dsimp only); rw [IntKind.wrap_i64]; omega))) ?_
  refine .t 0 1 rfl rfl (.shl (IntKind.u64.wrap (IntKind.u64.wrap (q[i].toNat : Int) * 2 ^ (8 * i))) rfl rfl rfl (Int.natCast_nonneg _) (congrArg (fun e => IntKind.u64.wrap (_ * 2 ^ e)) (Nat.min_eq_left (by show 8 * i ≤ 64; omega)))) ?_
  refine .t 0 1 rfl rfl (.bits (leNum (q.take (i + 1))) rfl rfl rfl rfl (or_next hi hq)) ?_
  refine .g 1 1 rfl ?_
  refine TE.setv 3 (.int .u64 (leNum (q.take (i + 1)))) rfl rfl ?_
  refine .t 0 1 rfl rfl (.bv (.int .i64 ((i + 1 : Nat) : Int)) rfl (congrArg _ (by (try dsimp only); rw [IntKind.wrap_i64]; omega))) ?_
  refine .g 1 1 rfl ?_
  refine TE.setv 9 (.int .i64 ((i + 1 : Nat) : Int)) rfl (congrArg _ (by first | rfl | (dsimp only; first | done | rfl | omega))) ?_
  exact .rd 0 1 id (fun _ _ e => e) rfl (i + 1) (by omega) (by omega) rfl rfl rfl
 ·skip
  have hi : ¬ (i < q.length) := by have q := of_decide_eq_false h1; (try dsimp only at q); omega
  have e : i = q.length := by have : i ≤ q.length := hI; omega
  subst e
  rw [List.take_length]
  exact .z 2 1 rfl (TE.retm 0 rfl rfl rfl rfl rfl)
theorem err_pm (l : List UInt8) (x : Int) : PM Tryz.prog 67 [.ptr 0 0] (.mbox 0 166 (rdC (l) (x))) (.mbox 0 166 (rdC (l) (x))) (.d (.v (.int .i64 x))) := by
 refine PM.enter (fn := Tryz.f67) Tryz.func67 rfl Tryz.ntmps67 rfl rfl rfl (fun w0 K0 ob => .w ?_)
 exact .z 6 1 rfl (TE.retm 0 rfl rfl rfl rfl rfl)
theorem left_pm (l : List UInt8) (x : Int) : PM Tryz.prog 68 [.ptr 0 0] (.mbox 0 166 (rdC (l) (x))) (.mbox 0 166 (rdC (l) (x))) (.d (.v (.int .i64 ((l.length : Nat) : Int)))) := by
 refine PM.enter (fn := Tryz.f68) Tryz.func68 rfl Tryz.ntmps68 rfl rfl rfl (fun w0 K0 ob => .w ?_)
 exact .z 7 1 rfl (TE.retm 0 rfl rfl rfl rfl rfl)
theorem new_pb (l : List UInt8) (hl : l.length ≤ 1099511627776) : PB Tryz.prog 63 [slT bdv 1 l] 166 (rdC l 0) := by
 refine PB.enter (fn := Tryz.f63) Tryz.func63 rfl Tryz.ntmps63 rfl (fun w0 => .w ?_)
 refine .t 2 1 rfl rfl (.co 1 (clone8_po l hl) rfl) ?_
 refine .name 4 rfl rfl (fun u uc => ?_)
 refine .g 3 2 rfl ?_
 refine TE.obj 2 (.box 166 [.v (.slice u (l.length : Nat) uc), .v (.int .i64 0)]) rfl rfl ?_
 exact .z 0 3 rfl (TE.retb (off := 0) (gR := 1) (g := 2) rfl rfl rfl rfl rfl (by rw [flat_length (sz := 1) (fun _ => rfl)]) (fun X h => by simp at h; rcases h with rfl | rfl <;> exact pl_v _) (pl_flat (fun b Y hY => by simp [bdv] at hY; subst hY; exact pl_v _) _) rfl)
theorem hash_pm (l : List UInt8) (x : Int) (hl : l.length ≤ 1099511627776) : PM Tryz.prog 71 [.ptr 0 0] (.mbox 0 166 (rdC (l) (x))) (.mbox 0 166 (rdC (rawRest l x 32) (rawErr l x 32))) (.d (.ag (hdv (ofL (rawOut l x 32))))) := by
 have hq := rawOut_le l x 32
 refine PM.enter (fn := Tryz.f71) Tryz.func71 rfl Tryz.ntmps71 rfl rfl rfl (fun w0 K0 ob => .w ?_)
 refine .g 2 1 rfl ?_
 refine TE.obj 1 (.box 41 (hdv zeroH)) rfl rfl ?_
 refine TE.obj 2 (.box 41 (hdv zeroH)) rfl rfl ?_
 refine .d 0 3 rfl ?_
 refine .v 0 3 [2] rfl rfl (fun _ _ => .slicep rfl rfl rfl rfl ar41 rfl rfl (by decide) (by decide) (by decide) (by decide) (Nat.le_of_ble_eq_true rfl) (by decide)) ?_
 refine .t 1 3 (E := ⟨some (6, _), [(0, _)]⟩) [0] rfl rfl (fun _ _ => .cm 0 (.mbox 0 166 (rdC (rawRest l x 32) (rawErr l x 32))) rfl (raw_pm l x 32 hl) rfl) ?_
 refine .t 0 3 (E := ⟨some (7, _), [(2, _)]⟩) [2] rfl rfl (fun _ _ => .copyb rfl rfl rfl rfl rfl rfl trivial et22 (Nat.min_eq_left hq) (by show 0 + (rawOut l x 32).length * 1 ≤ 32; omega)) ?_
 refine .y 0 3 rfl (by kernel_rfl) ?_
 refine TE.obj 2 (.box 41 (hdv (ofL (rawOut l x 32)))) rfl (congrArg (AO.box _) (ofL_copy rfl hq)) ?_
 refine .t 0 3 rfl rfl (.lp (hdv (ofL (rawOut l x 32))) rfl) ?_
 exact .z 1 3 rfl (TE.retm 0 rfl rfl rfl rfl rfl)
end Go.Proofs.YtdjcclcejmeheaaGreat

