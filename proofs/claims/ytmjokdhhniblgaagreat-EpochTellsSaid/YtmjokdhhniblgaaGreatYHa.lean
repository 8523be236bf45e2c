import Derived.Test.YtmjokdhhniblgaaGreatYFg
import Derived.Test.YtmjokdhhniblgaaGreatYIi
import Derived.Test.YtmjokdhhniblgaaGreatYEv
/-
  Heads: plain values; signatures of both sides as contracts of data; a new row let go at once.
-/
namespace Go.Proofs.YtmjokdhhniblgaaGreat
set_option linter.unusedVariables false
set_option linter.unusedSimpArgs false
open Go.RowKit Pl
/-- An operation whose new row is let go at once. -/
theorem Pl.OT.letgo {P : Program} {C : Cx} {o : Oper} {L : Lo} {Γ Γ' : Ga} {d g n sz e : Nat} {cs : List DV} {Y : DV} (h : OT P C o L Γ (upd L d (.ow g n sz)) (upd Γ' g (.row e sz cs))) (hl : cs.length = n * sz) (he : DV.sl sz n cs = Y) : OT P C o L Γ (upd L d (.d Y)) (upd Γ' g .dead) := fun a w hr =>
  Oper.wp_mono (fun a' w' q => by
    subst he
    have q2 := reps_freeze d (g := g) (upd_same _ _ _) (upd_same _ _ _) hl q
    have e1 : upd (upd L d (.ow g n sz)) d (.d (.sl sz n cs)) = upd L d (.d (.sl sz n cs)) := by
      funext i; unfold upd; cases i.beq d <;> rfl
    have e2 : upd (upd Γ' g (.row e sz cs)) g .dead = upd Γ' g .dead := by
      funext i; unfold upd; cases i.beq g <;> rfl
    rw [e1, e2] at q2
    exact q2) (h a w hr)
def sgdv (r s : Int) : List DV := [.v (.int .u64 r), .v (.int .u64 s)]
theorem sg_rep {K : Nat → Prop} {w : World} (r s : Int) : (DV.ag (sgdv r s)).rep K w (sigV r s) := by
  unfold DV.rep
  exact ⟨[.int .u64 r, .int .u64 s], rfl, repL_v [.int .u64 r, .int .u64 s]⟩
theorem sg_val {K : Nat → Prop} {w : World} {r s : Int} {u : Value} (h : (DV.ag (sgdv r s)).rep K w u) : u = sigV r s := by
  unfold DV.rep at h
  obtain ⟨us, rfl, h⟩ := h
  have := repL_v_eq (us := [.int .u64 r, .int .u64 s]) h
  rw [this]; rfl
def u64I (x : Int) : Prop := 0 ≤ x ∧ x < 18446744073709551616
def sigP (x : Int) (m : List UInt8) : Int × Int := (sigR (x % 2305843009213693950) m, sigS (x % 2305843009213693950) m)
theorem sigP_bd (x : Int) (m : List UInt8) : u64I (sigP x m).1 ∧ u64I (sigP x m).2 := by
  have h1 := sigR_bd (x % 2305843009213693950) m
  have h2 := sigS_bd (x % 2305843009213693950) m
  exact ⟨⟨h1.1, by show sigR _ _ < _; omega⟩, ⟨h2.1, by show sigS _ _ < _; omega⟩⟩
theorem pf_sign {P : Program} {f : FuncId} {x : Int} {m : List UInt8} (hc : ∀ v w, Rd w v m → Calls P f #[.int .u64 x, v] w fun e w' => e = .returned (signV x m) ∧ Below w.heap.size w w') : PF P f [.v (.int .u64 x), slT bdv 1 m] (.ag (sgdv (sigP x m).1 (sigP x m).2)) := fun w us hr => by
  unfold repL at hr
  obtain ⟨v, t, rfl, r1, hr⟩ := hr
  unfold repL at hr
  obtain ⟨y, t', rfl, r2, hr⟩ := hr
  unfold repL at hr; subst hr
  unfold DV.rep at r1; subst r1
  exact (hc y w (rd_of_rep r2)).mono fun e w' ⟨h1, h2⟩ => ⟨_, h1, h2, fun K _ => sg_rep _ _⟩
theorem sgn_pf (x : Int) (m : List UInt8) (hx : u64I x) (hl : m.length ≤ 549755813800) : PF Tryz.prog 57 [.v (.int .u64 x), slT bdv 1 m] (.ag (sgdv (sigP x m).1 (sigP x m).2)) := pf_sign fun v w hv => sign_any x v m w hx.1 hx.2 hv hl
theorem rsgn_pf (x : Int) (m : List UInt8) (hx : u64I x) (hl : m.length ≤ 549755813800) : PF Tryz.prog 59 [.v (.int .u64 x), slT bdv 1 m] (.ag (sgdv (sigP x m).1 (sigP x m).2)) := pf_sign fun v w hv => rsign_any x v m w hx.1 hx.2 hv hl
theorem pf_chk {P : Program} {f : FuncId} {y r s : Int} {m : List UInt8} {b : Bool} (hc : ∀ v w, Rd w v m → Calls P f #[.int .u64 y, v, sigV r s] w fun e w' => e = .returned (.bool b) ∧ Below w.heap.size w w') : PF P f [.v (.int .u64 y), slT bdv 1 m, .ag (sgdv r s)] (.v (.bool b)) := fun w us hr => by
  unfold repL at hr
  obtain ⟨v, t, rfl, r1, hr⟩ := hr
  unfold repL at hr
  obtain ⟨y, t', rfl, r2, hr⟩ := hr
  unfold repL at hr
  obtain ⟨z, t'', rfl, r3, hr⟩ := hr
  unfold repL at hr; subst hr
  unfold DV.rep at r1; subst r1
  have := sg_val r3; subst this
  exact (hc y w (rd_of_rep r2)).mono fun e w' ⟨h1, h2⟩ => ⟨_, h1, h2, fun K _ => by unfold DV.rep; rfl⟩
theorem sgc_pf (y r s : Int) (m : List UInt8) (hy : u64I y) (hr : u64I r) (hs : u64I s) (hl : m.length ≤ 549755813800) : PF Tryz.prog 63 [.v (.int .u64 y), slT bdv 1 m, .ag (sgdv r s)] (.v (.bool (checkF y m r s))) := pf_chk fun v w hv => check_any y r s v m w hy.1 hy.2 hr.1 hr.2 hs.1 hs.2 hv hl
theorem rsgc_pf (y r s : Int) (m : List UInt8) (hy : u64I y) (hr : u64I r) (hs : u64I s) (hl : m.length ≤ 549755813800) : PF Tryz.prog 48 [.v (.int .u64 y), slT bdv 1 m, .ag (sgdv r s)] (.v (.bool (checkF y m r s))) := pf_chk fun v w hv => rcheck_any y r s v m w hy.1 hy.2 hr.1 hr.2 hs.1 hs.2 hv hl
theorem po_sput {P : Program} {f : FuncId} {r s : Int} {l : List UInt8} (hc : ∀ w, Calls P f #[sigV r s] w (GivesOwn w l)) : PO P f [.ag (sgdv r s)] 5 1 l.length (l.flatMap bdv) := fun w us hr => by
  unfold repL at hr
  obtain ⟨z, t, rfl, r3, hr⟩ := hr
  unfold repL at hr; subst hr
  have := sg_val r3; subst this
  exact (hc w).mono fun e w' ⟨v, h1, h2, h3⟩ => ⟨v, bvs l, h1, h3, h2, bvs_one l, fun K _ => repL_u8 l⟩
theorem sgp_pf (r s : Int) (hr : u64I r) (hs : u64I s) : PF Tryz.prog 38 [.ag (sgdv r s)] (slT bdv 1 (putF r s)) := (po_sput fun w => put_any r s w hr.1 hr.2 hs.1 hs.2).pf
theorem rsgp_pf (r s : Int) (hr : u64I r) (hs : u64I s) : PF Tryz.prog 67 [.ag (sgdv r s)] (slT bdv 1 (putF r s)) := (po_sput fun w => rput_any r s w hr.1 hr.2 hs.1 hs.2).pf
theorem rpub_pf (x : Int) (hx : u64I x) : PF Tryz.prog 16 [.v (.int .u64 x)] (.v (.int .u64 (pubF x))) := pf_plain rfl rfl fun w => (rpublic_any x w hx.1 hx.2).mono fun e w' ⟨h1, h2⟩ => ⟨h1, h2.below _⟩
structure Hd where
  ep : Int
  tk : Int
  ct : Int
  root : H
  log : H
  r : Int
  s : Int
def Hd.dv (h : Hd) : List DV := .v (.int .i64 h.ep) :: .v (.int .i64 h.tk) :: .v (.int .i64 h.ct) :: (hdv h.root ++ (hdv h.log ++ sgdv h.r h.s))
def Hd.ok (h : Hd) : Prop := u64I h.r ∧ u64I h.s
def zeroHd : Hd := ⟨0, 0, 0, zeroH, zeroH, 0, 0⟩
def rightH (h : Hd) : Bool := decide (1 ≤ h.ep ∧ h.ep ≤ 1073741824 ∧ 0 ≤ h.tk ∧ h.tk ≤ 1152921504606846976 ∧ 1 ≤ h.ct ∧ h.ct ≤ 8)
def msgL (h : Hd) : List (List UInt8) := [[72], numB (u64w h.ep), numB (u64w h.tk), numB (u64w h.ct), H.l h.root, H.l h.log]
def msgB (h : Hd) : List UInt8 := (msgL h).flatten
theorem hg_one (h : H) : (hdv h).all DV.one = true := flat_one (fun _ => rfl) _
theorem msgL_len (h : Hd) : totalLen (msgL h) ≤ 1099511627776 := by
  unfold msgL
  simp only [totalLen, List.map_cons, List.map_nil, List.sum_cons, List.sum_nil, numB_len, H.l_len, List.length_cons, List.length_nil]; omega
theorem msgB_app (h : Hd) : [72] ++ numB (u64w h.ep) ++ numB (u64w h.tk) ++ numB (u64w h.ct) ++ H.l h.root ++ H.l h.log = msgB h := by unfold msgB msgL; simp
theorem pl_hd (h : Hd) : Pl (.ag h.dv) := by
  refine pl_ag ?_
  unfold Hd.dv
  exact pl_cons (pl_v _) (pl_cons (pl_v _) (pl_cons (pl_v _) (pl_app (pl_h _) (pl_app (pl_h _) (pl_cons (pl_v _) (pl_cons (pl_v _) pl_nil))))))
theorem msgB_len (h : Hd) : (msgB h).length = 89 := by
  unfold msgB msgL
  simp only [List.flatten_cons, List.flatten_nil, List.length_append, List.length_cons, List.length_nil, numB_len, H.l_len]
def signH (x : Int) (h : Hd) : Hd := { h with r := (sigP x (msgB h)).1, s := (sigP x (msgB h)).2 }
def checkH (y : Int) (h : Hd) : Bool := rightH h && checkF y (msgB h) h.r h.s
def putH (h : Hd) : List UInt8 := msgB h ++ putF h.r h.s
theorem putH_len (h : Hd) : (putH h).length = 105 := by unfold putH; rw [List.length_append, msgB_len, putF_len]
theorem checkH_no {y : Int} {h : Hd} (q : rightH h = false) : checkH y h = false := by unfold checkH; rw [q]; rfl
theorem checkH_yes {y : Int} {h : Hd} (q : rightH h = true) : checkH y h = checkF y (msgB h) h.r h.s := by unfold checkH; rw [q]; rfl
theorem signH_ok (x : Int) (h : Hd) : (signH x h).ok := sigP_bd x (msgB h)
end Go.Proofs.YtmjokdhhniblgaaGreat
/-
  Readers.
-/
namespace Go.Proofs.YtmjokdhhniblgaaGreat
set_option linter.unusedVariables false
set_option linter.unusedSimpArgs false
open Go.RowKit Pl
set_option maxRecDepth 100000
set_option maxHeartbeats 3200000
theorem et22 : elt Tryz.prog 22 = some (5, 1) := by kernel_rfl
end Go.Proofs.YtmjokdhhniblgaaGreat

