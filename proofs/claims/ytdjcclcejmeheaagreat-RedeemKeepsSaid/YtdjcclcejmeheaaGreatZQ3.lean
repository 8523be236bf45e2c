import Derived.Test.YtdjcclcejmeheaaGreatZQ2
import Derived.Test.YtdjcclcejmeheaaGreatZB3
/-
  Hashes and items: the values; what the library's sorting makes of a list. Tags of lumps, as contracts of data. Trees: hashes and items compared, numbers as bytes, bits, lists without doubles, first places: the values. Trees: lists joined; places of sides; what is below: the values. Trees: the reference's Set and sides: the values. Trees: the order of items; lists that are rearranged and keep the order of those that are alike. Trees: the library's merging and its stable sort sort. Trees: merging neighbours and the stable sort: the general step. Trees: sets: the program's and the reference's are one; what stands in a strict order can be told apart by bits. Trees: entries as data. Trees: bits gathered anew; halves of a tree; items that change places: the values. Trees: halves; lists that hold the same items: the values.
-/
section
namespace Go.Proofs.YtdjcclcejmeheaaGreat
set_option linter.unusedVariables false
set_option linter.unusedSimpArgs false
open Go.RowKit Pl
/-- A hash: 32 bytes. -/
abbrev H := Fin 32 → UInt8
def H.l (h : H) : List UInt8 := List.ofFn h
def hdv (h : H) : List DV := (H.l h).flatMap bdv
structure It where
  ix : H
  vl : H
def It.dv (x : It) : List DV := hdv x.ix ++ hdv x.vl
def zeroH : H := fun _ => 0
def zeroI : It := ⟨zeroH, zeroH⟩
theorem h_len (h : H) : (hdv h).length = 32 := rfl
theorem it_len (x : It) : x.dv.length = 64 := rfl
theorem it_one (x : It) : x.dv.all DV.one = true := rfl
theorem H.l_len (h : H) : (H.l h).length = 32 := List.length_ofFn
theorem H.l_get (a : H) (i : Fin 32) : (H.l a)[i.val]? = some (a i) := by
  unfold H.l; rw [List.getElem?_ofFn, dif_pos i.isLt]
theorem H.l_inj {a b : H} (h : H.l a = H.l b) : a = b := by
  funext i
  have h1 := H.l_get a i
  rw [h, H.l_get b i] at h1
  exact (Option.some.inj h1).symm
theorem pl_h (h : H) : ∀ X ∈ hdv h, Pl X := pl_flat (fun b => pl_cons (pl_v _) pl_nil) _
theorem pl_it (x : It) : ∀ X ∈ x.dv, Pl X := pl_app (pl_h _) (pl_h _)
/-- One item's cells of a row's. -/
theorem flat_at {α : Type} {enc : α → List DV} {sz : Nat} (h : ∀ x, (enc x).length = sz) (xs : List α) {i : Nat} (hi : i < xs.length) : ((xs.flatMap enc).drop (i * sz)).take sz = enc xs[i] := by
  rw [flat_drop h, ← List.getElem_cons_drop hi, List.flatMap_cons]
  have := h xs[i]
  rw [← this, List.take_left]
def ltI (x y : It) : Bool := Op.bytesLess (H.l x.ix) (H.l y.ix)
def at_ (xs : List It) (i : Nat) : It := xs.getD i zeroI
theorem at_eq {xs : List It} {i : Nat} (h : i < xs.length) : at_ xs i = xs[i] := by unfold at_; simp [List.getD, h]
/-- x[i], x[j] = x[j], x[i]. -/
def swI (xs : List It) (i j : Nat) : List It := (xs.set i (at_ xs j)).set j (at_ xs i)
def insDown : Nat → List It → Nat → List It
  | 0, xs, a => xs
  | j + 1, xs, a => if a < j + 1 ∧ ltI (at_ xs (j + 1)) (at_ xs j) = true then insDown j (swI xs (j + 1) j) a else xs
def insN : Nat → List It → Nat → Nat → List It
  | 0, xs, a, i => xs
  | n + 1, xs, a, i => insN n (insDown i xs a) a (i + 1)
def insS (xs : List It) (a b : Nat) : List It := insN (b - (a + 1)) xs a (a + 1)
/-- Two ranges of n change places. -/
def swR : Nat → List It → Nat → Nat → Nat → List It
  | 0, xs, a, b, i => xs
  | n + 1, xs, a, b, i => swR n (swI xs (a + i) (b + i)) a b (i + 1)
/-- Rotating by changing ranges. -/
def rotG : Nat → List It → Nat → Nat → Nat → List It
  | 0, xs, m, i, j => xs
  | f + 1, xs, m, i, j => if i = j then swR i xs (m - i) m 0 else if j < i then rotG f (swR j xs (m - i) m 0) m (i - j) j else rotG f (swR i xs (m - i) (m + j - i) 0) m i (j - i)
def rotI (xs : List It) (a m b : Nat) : List It := rotG (b - a) xs m (m - a) (b - m)
/-- The first place from i on where p ends, by halves. -/
def bsP (p : Nat → Bool) : Nat → Nat → Nat → Nat
  | 0, i, _ => i
  | f + 1, i, j => if i < j then (if p ((i + j) / 2) = true then bsP p f ((i + j) / 2 + 1) j else bsP p f i ((i + j) / 2)) else i
def bubF : Nat → List It → Nat → List It
  | 0, xs, k => xs
  | n + 1, xs, k => bubF n (swI xs k (k + 1)) (k + 1)
def bubB : Nat → List It → Nat → List It
  | 0, xs, k => xs
  | n + 1, xs, k => bubB n (swI xs k (k - 1)) (k - 1)
/-- Merging two neighbours. -/
def symA (xs : List It) (a m b : Nat) : List It := bubF (bsP (fun h => ltI (at_ xs h) (at_ xs a)) (b - m) m b - 1 - a) xs a
def symB (xs : List It) (a m b : Nat) : List It := bubB (m - bsP (fun h => !ltI (at_ xs m) (at_ xs h)) (m - a) a m) xs m
def symS (a m b : Nat) : Nat := if (a + b) / 2 < m then (a + b) / 2 + m - b else a
def symR (a m b : Nat) : Nat := if (a + b) / 2 < m then (a + b) / 2 else m
def symC (xs : List It) (a m b : Nat) : Nat := bsP (fun c => !ltI (at_ xs ((a + b) / 2 + m - 1 - c)) (at_ xs c)) (symR a m b - symS a m b) (symS a m b) (symR a m b)
def symX (xs : List It) (a m b : Nat) : List It := if symC xs a m b < m ∧ m < (a + b) / 2 + m - symC xs a m b then rotI xs (symC xs a m b) m ((a + b) / 2 + m - symC xs a m b) else xs
def symM : Nat → List It → Nat → Nat → Nat → List It
  | 0, xs, a, m, b => xs
  | f + 1, xs, a, m, b =>
    if m - a = 1 then symA xs a m b else if b - m = 1 then symB xs a m b
    else
      let s := symC xs a m b
      let e := (a + b) / 2 + m - s
      let ys := symX xs a m b
      let zs := if a < s ∧ s < (a + b) / 2 then symM f ys a s ((a + b) / 2) else ys
      if (a + b) / 2 < e ∧ e < b then symM f zs ((a + b) / 2) e b else zs
def stB : Nat → List It → Nat → List It
  | 0, xs, a => insS xs a xs.length
  | f + 1, xs, a => if a + 20 ≤ xs.length then stB f (insS xs a (a + 20)) (a + 20) else insS xs a xs.length
def stP : Nat → List It → Nat → Nat → List It
  | 0, xs, z, a => if a + z < xs.length then symM (xs.length - a) xs a (a + z) xs.length else xs
  | f + 1, xs, z, a => if a + 2 * z ≤ xs.length then stP f (symM (2 * z) xs a (a + z) (a + 2 * z)) z (a + 2 * z) else if a + z < xs.length then symM (xs.length - a) xs a (a + z) xs.length else xs
def stM : Nat → Nat → List It → List It
  | 0, z, xs => xs
  | f + 1, z, xs => if z < xs.length then stM f (2 * z) (stP xs.length xs z 0) else xs
def stI (xs : List It) : List It := stM xs.length 20 (stB xs.length xs 0)
def rvN : Nat → List It → Nat → List It
  | 0, xs, i => xs
  | f + 1, xs, i => if i + 1 + i < xs.length then rvN f (swI xs i (xs.length - 1 - i)) (i + 1) else xs
def rvI (xs : List It) : List It := rvN xs.length xs 0
end Go.Proofs.YtdjcclcejmeheaaGreat
end
section
namespace Go.Proofs.YtdjcclcejmeheaaGreat
set_option linter.unusedVariables false
set_option linter.unusedSimpArgs false
open Go.RowKit Pl
theorem flat_one_get {α : Type} (f : α → DV) : ∀ (xs : List α) (i : Nat), (xs.flatMap (fun x => [f x]))[i]? = (xs[i]?).map f
  | [], i => by simp
  | x :: r, 0 => rfl
  | x :: r, i + 1 => by simpa using flat_one_get f r i
theorem rd_of_rep {w : World} {v : Value} {l : List UInt8} (h : (slT bdv 1 l).rep noK w v) : Rd w v l := by
  unfold slT DV.rep at h
  rcases h with ⟨rfl, h, _⟩ | ⟨b, o, c, rfl, h1, h2, h3, h4, h5⟩
  · exact .inl ⟨rfl, List.eq_nil_of_length_eq_zero h⟩
  · refine .inr ⟨b, o, c, rfl, h1, h2, fun i hi => ?_⟩
    obtain ⟨u, k1, k2, k3⟩ := repAt_get h5 (i := i) (X := .v (.int .u8 l[i].toNat)) (by
      have := flat_one_get (fun b : UInt8 => DV.v (.int .u8 b.toNat)) l i
      rw [List.getElem?_eq_getElem hi] at this
      exact this)
    unfold DV.rep at k3; subst k3
    exact k1
def ldv (l : List UInt8) : List DV := [slT bdv 1 l]
theorem rdl_of_rep {w : World} {v : Value} {ls : List (List UInt8)} (h : (slT ldv 1 ls).rep noK w v) : RdL w v ls := by
  unfold slT DV.rep at h
  rcases h with ⟨rfl, h, _⟩ | ⟨b, o, c, rfl, h1, h2, h3, h4, h5⟩
  · exact .inl ⟨rfl, List.eq_nil_of_length_eq_zero h⟩
  · refine .inr ⟨b, o, c, rfl, h1, h2, fun i hi => ?_⟩
    obtain ⟨u, k1, k2, k3⟩ := repAt_get h5 (i := i) (X := slT bdv 1 ls[i]) (by
      have := flat_one_get (fun l : List UInt8 => slT bdv 1 l) ls i
      rw [List.getElem?_eq_getElem hi] at this
      exact this)
    exact ⟨u, k1, rd_of_rep k3⟩
def ofL (l : List UInt8) : H := fun i => l.getD i.val 0
theorem ofL_l {l : List UInt8} (h : l.length = 32) : H.l (ofL l) = l := by
  apply List.ext_getElem?
  intro i
  by_cases hi : i < 32
  · rw [show i = (⟨i, hi⟩ : Fin 32).val from rfl, H.l_get]
    simp [ofL, List.getD, List.getElem?_eq_getElem (show i < l.length by omega)]
  · rw [List.getElem?_eq_none (by rw [H.l_len]; omega), List.getElem?_eq_none (by omega)]
theorem ofL_H (h : H) : ofL (H.l h) = h := H.l_inj (ofL_l (H.l_len h))
theorem hash_rep {K : Nat → Prop} {w : World} {l : List UInt8} (h : l.length = 32) : (DV.ag (hdv (ofL l))).rep K w (hashV l) := by
  unfold DV.rep
  refine ⟨bvs l, rfl, ?_⟩
  unfold hdv
  rw [ofL_l h]
  clear h
  induction l with
  | nil => simp [repL, bvs]
  | cons x r ih =>
    show repL K w (DV.v (.int .u8 x.toNat) :: r.flatMap bdv) (bv x :: bvs r)
    unfold repL
    exact ⟨_, _, rfl, by unfold DV.rep; rfl, ih⟩
theorem pf_tag {P : Program} {f : FuncId} {tag : Int} {ls : List (List UInt8)} {h : List UInt8} (hl : h.length = 32) (hc : ∀ v w, RdL w v ls → Calls P f #[.int .u8 tag, v] w fun e w' => e = .returned (hashV h) ∧ Below w.heap.size w w') : PF P f [.v (.int .u8 tag), slT ldv 1 ls] (.ag (hdv (ofL h))) := fun w us hr => by
  unfold repL at hr
  obtain ⟨u, t, rfl, r1, hr⟩ := hr
  unfold repL at hr
  obtain ⟨v, t', rfl, r2, hr⟩ := hr
  unfold repL at hr; subst hr
  unfold DV.rep at r1; subst r1
  exact (hc v w (rdl_of_rep r2)).mono fun e w' ⟨h1, h2⟩ => ⟨_, h1, h2, fun K _ => hash_rep hl⟩
/-- A tag of lumps. -/
def tagH (tag : Int) (ls : List (List UInt8)) : H := ofL (sumB (textB tag ls))
theorem tag_pf (tag : Int) (ls : List (List UInt8)) (h0 : 0 ≤ tag) (h1 : tag < 256) (hl : textLen ls ≤ 549755813888) : PF Tryz.prog 79 [.v (.int .u8 tag), slT ldv 1 ls] (.ag (hdv (tagH tag ls))) := pf_tag (sumB_length _) fun v w hv => tag_any tag v ls w h0 h1 hv hl
theorem rtag_pf (tag : Int) (ls : List (List UInt8)) (h0 : 0 ≤ tag) (h1 : tag < 256) (hl : textLen ls ≤ 549755813888) : PF Tryz.prog 92 [.v (.int .u8 tag), slT ldv 1 ls] (.ag (hdv (tagH tag ls))) := pf_tag (sumB_length _) fun v w hv => rtag_any tag v ls w h0 h1 hv hl
end Go.Proofs.YtdjcclcejmeheaaGreat
end
section
namespace Go.Proofs.YtdjcclcejmeheaaGreat
set_option linter.unusedVariables false
set_option linter.unusedSimpArgs false
open Go.RowKit Pl
abbrev hks : List LK := List.replicate 32 (.i .u8)
abbrev iks : List LK := List.replicate 64 (.i .u8)
def u8v (l : List UInt8) : List Value := l.map fun b => .int .u8 b.toNat
theorem vals_u8 : ∀ l : List UInt8, vals (l.flatMap bdv) = some (u8v l)
  | [] => rfl
  | x :: r => by
    show vals (DV.v (.int .u8 x.toNat) :: r.flatMap bdv) = _
    simp only [vals, vals_u8 r, Option.map_some]; rfl
theorem wf_byte (b : UInt8) : (Lit.int .u8 b.toNat).wf = true := by
  have := b.toNat_lt
  simp only [Lit.wf, IntKind.min, IntKind.max, IntKind.bits, IntKind.signed, Bool.and_eq_true, decide_eq_true_eq]
  constructor <;> simp <;> omega
theorem lits_u8 : ∀ l : List UInt8, lits (List.replicate l.length (.i .u8)) (u8v l) = some (l.map fun b => .int .u8 b.toNat)
  | [] => rfl
  | x :: r => by
    show lits (LK.i .u8 :: List.replicate r.length (.i .u8)) (Value.int .u8 x.toNat :: u8v r) = _
    simp only [lits, LK.lit, wf_byte, and_self, if_true, lits_u8 r, List.map_cons]
theorem u8v_inj {l m : List UInt8} : u8v l = u8v m ↔ l = m := by
  refine ⟨fun h => ?_, fun h => by rw [h]⟩
  unfold u8v at h
  refine List.map_inj_right (f := fun b : UInt8 => Value.int .u8 b.toNat) (fun x y e => ?_) |>.1 h
  simp only [Value.int.injEq, true_and] at e
  exact UInt8.toNat_inj.1 (by omega)
/-- An item's bytes. -/
def iB (x : It) : List UInt8 := H.l x.ix ++ H.l x.vl
theorem iB_len (x : It) : (iB x).length = 64 := by unfold iB; rw [List.length_append, H.l_len, H.l_len]
theorem it_bytes (x : It) : x.dv = (iB x).flatMap bdv := by unfold It.dv hdv iB; rw [List.flatMap_append]
section
variable {P : Program} {C : Cx} {L : Lo} {Γ : Ga} {d : Nat} {ty : TypeId} {pos : String} {af : Array Edge} {gd : Option (Nat × Bool)}
theorem Pl.OT.equ8 {xt yt : TypeId} {x y : Operand} {cs ds : List DV} (l m : List UInt8) (n : Nat) (hn : Nat.blt d C.n = true) (hx : evd L x = some (.ag cs)) (hy : evd L y = some (.ag ds)) (hc : cs = l.flatMap bdv) (hd : ds = m.flatMap bdv) (ht : eqT P xt = some (List.replicate n (.i .u8))) (hl : l.length = n) (hm : m.length = n) :
    OT P C ⟨some d, .binOp .eql xt x y yt, ty, pos, af, gd⟩ L Γ (upd L d (.f (.v (.bool (decide (l = m)))))) Γ := by
  subst hc; subst hd
  exact .eqag _ hn hx hy (vals_u8 l) (vals_u8 m) ht (by rw [← hl]; exact lits_u8 l) (by rw [← hm]; exact lits_u8 m) (by rw [decide_eq_true_eq, u8v_inj])
theorem Pl.OT.neu8 {xt yt : TypeId} {x y : Operand} {cs ds : List DV} (l m : List UInt8) (n : Nat) (hn : Nat.blt d C.n = true) (hx : evd L x = some (.ag cs)) (hy : evd L y = some (.ag ds)) (hc : cs = l.flatMap bdv) (hd : ds = m.flatMap bdv) (ht : eqT P xt = some (List.replicate n (.i .u8))) (hl : l.length = n) (hm : m.length = n) :
    OT P C ⟨some d, .binOp .neq xt x y yt, ty, pos, af, gd⟩ L Γ (upd L d (.f (.v (.bool (decide (¬ l = m)))))) Γ := by
  subst hc; subst hd
  exact .neag _ hn hx hy (vals_u8 l) (vals_u8 m) ht (by rw [← hl]; exact lits_u8 l) (by rw [← hm]; exact lits_u8 m) (by rw [decide_eq_true_eq, u8v_inj])
theorem Pl.OT.eqh {xt yt : TypeId} {x y : Operand} {a b : H} (hn : Nat.blt d C.n = true) (hx : evd L x = some (.ag (hdv a))) (hy : evd L y = some (.ag (hdv b))) (ht : eqT P xt = some hks) :
    OT P C ⟨some d, .binOp .eql xt x y yt, ty, pos, af, gd⟩ L Γ (upd L d (.f (.v (.bool (decide (H.l a = H.l b)))))) Γ := .equ8 _ _ 32 hn hx hy rfl rfl ht (H.l_len a) (H.l_len b)
theorem Pl.OT.neh {xt yt : TypeId} {x y : Operand} {a b : H} (hn : Nat.blt d C.n = true) (hx : evd L x = some (.ag (hdv a))) (hy : evd L y = some (.ag (hdv b))) (ht : eqT P xt = some hks) :
    OT P C ⟨some d, .binOp .neq xt x y yt, ty, pos, af, gd⟩ L Γ (upd L d (.f (.v (.bool (decide (¬ H.l a = H.l b)))))) Γ := .neu8 _ _ 32 hn hx hy rfl rfl ht (H.l_len a) (H.l_len b)
theorem Pl.OT.eqi {xt yt : TypeId} {x y : Operand} {a b : It} (hn : Nat.blt d C.n = true) (hx : evd L x = some (.ag a.dv)) (hy : evd L y = some (.ag b.dv)) (ht : eqT P xt = some iks) :
    OT P C ⟨some d, .binOp .eql xt x y yt, ty, pos, af, gd⟩ L Γ (upd L d (.f (.v (.bool (decide (iB a = iB b)))))) Γ := .equ8 _ _ 64 hn hx hy (it_bytes a) (it_bytes b) ht (iB_len a) (iB_len b)
end
theorem repL_u8 {K : Nat → Prop} {w : World} : ∀ l : List UInt8, repL K w (l.flatMap bdv) (bvs l)
  | [] => by simp [repL, bvs]
  | x :: r => by
    show repL K w (DV.v (.int .u8 x.toNat) :: r.flatMap bdv) (bv x :: bvs r)
    unfold repL
    exact ⟨_, _, rfl, by unfold DV.rep; rfl, repL_u8 r⟩
theorem po_own {P : Program} {f : FuncId} {u : Value} {l : List UInt8} (hc : ∀ w, Calls P f #[u] w (GivesOwn w l)) : PO P f [.v u] 5 1 l.length (l.flatMap bdv) := fun w us hr => by
  unfold repL at hr
  obtain ⟨v, t, rfl, r1, hr⟩ := hr
  unfold repL at hr; subst hr
  unfold DV.rep at r1; subst r1
  exact (hc w).mono fun e w' ⟨v, h1, h2, h3⟩ => ⟨v, bvs l, h1, h3, h2, bvs_one l, fun K _ => repL_u8 l⟩
theorem num_po (n : Int) (h0 : 0 ≤ n) (h1 : n < 18446744073709551616) : PO Tryz.prog 80 [.v (.int .u64 n)] 5 1 (numB n).length ((numB n).flatMap bdv) := po_own fun w => (num_any n w h0 h1).mono fun e w' ⟨h2, h3⟩ => by
  subst h3
  exact ⟨_, h2, own_lit w w.heap.size (numB n) (Nat.le_refl _) (by simp [numB, maxLen]), bl_alloc (Below.refl _ _) _⟩
theorem rnum_po (n : Int) (h0 : 0 ≤ n) (h1 : n < 18446744073709551616) : PO Tryz.prog 93 [.v (.int .u64 n)] 5 1 (numB n).length ((numB n).flatMap bdv) := po_own fun w => rnum_any n w h0 h1
theorem num_pf (n : Int) (h0 : 0 ≤ n) (h1 : n < 18446744073709551616) : PF Tryz.prog 80 [.v (.int .u64 n)] (slT bdv 1 (numB n)) := (num_po n h0 h1).pf
theorem rnum_pf (n : Int) (h0 : 0 ≤ n) (h1 : n < 18446744073709551616) : PF Tryz.prog 93 [.v (.int .u64 n)] (slT bdv 1 (numB n)) := (rnum_po n h0 h1).pf
def u64w (n : Int) : Int := n % 18446744073709551616
theorem u64w_bd (n : Int) : 0 ≤ u64w n ∧ u64w n < 18446744073709551616 := by unfold u64w; omega
theorem numB_len (n : Int) : (numB n).length = 8 := rfl
def indexH (nm : List UInt8) : H := tagH 105 [nm]
def valueH (ver key : Int) : H := tagH 118 [numB (u64w ver), numB key]
def itemI (nm : List UInt8) (ver key : Int) : It := ⟨indexH nm, valueH ver key⟩
def emptyH : H := tagH 122 []
def leafH (x : It) : H := tagH 108 [H.l x.ix, H.l x.vl]
def nodeH (a b : H) : H := tagH 110 [H.l a, H.l b]
def byteN (h : H) (k : Nat) : Nat := if hk : k < 32 then (h ⟨k, hk⟩).toNat else 0
def bitN (h : H) (k : Nat) : Nat := byteN h (k / 8) / 2 ^ (7 - k % 8) % 2
def bitI (h : H) (i : Int) : Int := if i < 0 then 0 else if i ≥ 256 then 0 else (bitN h i.toNat : Nat)
theorem bitI_nat (h : H) {k : Nat} (hk : k < 256) : bitI h (k : Int) = ((bitN h k : Nat) : Int) := by
  unfold bitI; rw [if_neg (by omega), if_neg (by omega), Int.toNat_natCast]
theorem bitN_lt (h : H) (k : Nat) : bitN h k < 2 := by unfold bitN; omega
theorem byteN_lt (h : H) (k : Nat) : byteN h k < 256 := by unfold byteN; split; exact UInt8.toNat_lt _; omega
theorem hdv_byte (h : H) {k : Nat} (hk : k < 32) : (hdv h)[k]? = some (.v (.int .u8 ((byteN h k : Nat) : Int))) := by
  unfold hdv byteN
  rw [u8_get, show k = (⟨k, hk⟩ : Fin 32).val from rfl, H.l_get, dif_pos hk]; rfl
theorem shr_bit {n j : Nat} (hj : j ≤ 7) : ((n : Nat) : Int).fdiv (2 ^ (min ((j : Nat) : Int).toNat IntKind.u8.bits)) = ((n / 2 ^ j : Nat) : Int) := by
  have : min ((j : Nat) : Int).toNat IntKind.u8.bits = j := by have : IntKind.u8.bits = 8 := rfl; rw [this]; omega
  have e : (2 : Int) ^ j = ((2 ^ j : Nat) : Int) := by rw [Int.natCast_pow]; rfl
  rw [this, e, Int.fdiv_eq_ediv_of_nonneg _ (Int.natCast_nonneg _), Int.natCast_ediv]
theorem and1_i64 (n : Nat) (h : n < 256) : IntKind.i64.wrap (BitVec.ofInt IntKind.i64.bits ((n : Nat) : Int) &&& BitVec.ofInt IntKind.i64.bits 1).toNat = ((n % 2 : Nat) : Int) := by
  have h1 : IntKind.i64.bits = 64 := rfl
  rw [h1]
  have : (BitVec.ofInt 64 ((n : Nat) : Int) &&& BitVec.ofInt 64 1).toNat = n % 2 := by
    rw [BitVec.toNat_and]
    have e1 : (BitVec.ofInt 64 ((n : Nat) : Int)).toNat = n := by rw [BitVec.ofInt_natCast, BitVec.toNat_ofNat]; omega
    have e2 : (BitVec.ofInt 64 1).toNat = 1 := rfl
    rw [e1, e2, Nat.and_one_is_mod]
  rw [this, IntKind.wrap_i64]; omega
theorem and1_u8 (n : Nat) (h : n < 256) : IntKind.u8.wrap (BitVec.ofInt IntKind.u8.bits ((n : Nat) : Int) &&& BitVec.ofInt IntKind.u8.bits 1).toNat = ((n % 2 : Nat) : Int) := by
  have h1 : IntKind.u8.bits = 8 := rfl
  rw [h1]
  have : (BitVec.ofInt 8 ((n : Nat) : Int) &&& BitVec.ofInt 8 1).toNat = n % 2 := by
    rw [BitVec.toNat_and]
    have e1 : (BitVec.ofInt 8 ((n : Nat) : Int)).toNat = n := by rw [BitVec.ofInt_natCast, BitVec.toNat_ofNat]; omega
    have e2 : (BitVec.ofInt 8 1).toNat = 1 := rfl
    rw [e1, e2, Nat.and_one_is_mod]
  rw [this, IntKind.wrap_u8]; omega
def alike (x y : It) : Bool := decide (H.l x.ix = H.l y.ix)
def ddp (p : It) : List It → List It
  | [] => []
  | x :: r => if alike x p = true then ddp x r else x :: ddp x r
def dd : List It → List It
  | [] => []
  | x :: r => x :: ddp x r
def fst_ (p : It → Bool) : List It → Nat
  | [] => 0
  | x :: r => if p x then 0 else fst_ p r + 1
theorem fst_le (p : It → Bool) : ∀ l, fst_ p l ≤ l.length
  | [] => by simp [fst_]
  | x :: r => by unfold fst_; split <;> simp; exact fst_le p r
theorem fst_at {p : It → Bool} : ∀ {l : List It} {k : Nat} (hk : k < l.length), p l[k] = true → (∀ j (hj : j < l.length), j < k → p l[j] = false) → fst_ p l = k
  | x :: r, 0, _, h, _ => by simp only [List.getElem_cons_zero] at h; simp [fst_, h]
  | x :: r, k + 1, hk, h, hn => by
    have h0 : p x = false := hn 0 (by simp) (by omega)
    have := fst_at (l := r) (k := k) (by simpa using hk) (by simpa using h) (fun j hj hjk => hn (j + 1) (by simpa using hj) (by omega))
    simp [fst_, h0, this]
theorem fst_none {p : It → Bool} : ∀ {l : List It}, (∀ j (hj : j < l.length), p l[j] = false) → fst_ p l = l.length
  | [], _ => rfl
  | x :: r, hn => by
    have h0 : p x = false := hn 0 (by simp)
    have := fst_none (l := r) (fun j hj => hn (j + 1) (by simpa using hj))
    simp [fst_, h0, this]
end Go.Proofs.YtdjcclcejmeheaaGreat
end
section
namespace Go.Proofs.YtdjcclcejmeheaaGreat
set_option linter.unusedVariables false
set_option linter.unusedSimpArgs false
open Go.RowKit Pl
theorem it_all (l : List It) : (l.flatMap It.dv).all DV.one = true := flat_one it_one l
theorem it_flat (l : List It) : (l.flatMap It.dv).length = l.length * 64 := flat_length it_len l
theorem Pl.PC.nil2 {P : Program} {f : FuncId} {α : Type} {enc : α → List DV} {sz : Nat} {X : DV} {Xs : List DV} {Y : DV} (h : PC P f (X :: slT enc sz [] :: Xs) Y) : PC P f (X :: .v (.slice none 0 0) :: Xs) Y := fun w K us hK hr => h w K us hK (by
  unfold repL at hr ⊢
  obtain ⟨u, t, rfl, h1, h2⟩ := hr
  refine ⟨u, t, rfl, h1, ?_⟩
  unfold repL at h2 ⊢
  obtain ⟨u2, t2, rfl, h3, h4⟩ := h2
  refine ⟨u2, t2, rfl, ?_, h4⟩
  unfold DV.rep at h3; subst h3
  unfold slT DV.rep; exact .inl ⟨rfl, rfl, rfl⟩)
def bit0 (k : Nat) (x : It) : Bool := bitN x.ix k == 0
def belowH : Nat → Nat → List It → H
  | 0, _, _ => emptyH
  | f + 1, k, l => match l with
    | [] => emptyH
    | [x] => leafH x
    | l => nodeH (belowH f (k + 1) (l.filter (bit0 k))) (belowH f (k + 1) (l.filter (fun x => !bit0 k x)))
/-- Items of which those with a 0 at a place stand ahead of those with a 1. -/
def sided (p : It → Bool) : List It → Prop
  | [] => True
  | x :: r => (p x = true → ∀ y ∈ r, p y = true) ∧ sided p r
/-- Items that can be told apart by the bits from a place on, those with a 0 ahead. -/
def okT : Nat → Nat → List It → Prop
  | 0, _, l => l.length < 2
  | f + 1, k, l => l.length < 2 ∨ (k < 256 ∧ sided (fun x => !bit0 k x) l ∧ okT f (k + 1) (l.filter (bit0 k)) ∧ okT f (k + 1) (l.filter (fun x => !bit0 k x)))
theorem belowH_two {f k : Nat} {l : List It} (h : ¬ l.length < 2) : belowH (f + 1) k l = nodeH (belowH f (k + 1) (l.filter (bit0 k))) (belowH f (k + 1) (l.filter (fun x => !bit0 k x))) := by
  match l, h with
  | [], h => simp at h
  | [x], h => simp at h
  | x :: y :: r, _ => rfl
theorem okT_two {f k : Nat} {l : List It} (ho : okT f k l) (h : ¬ l.length < 2) : ∃ g, f = g + 1 ∧ k < 256 ∧ sided (fun x => !bit0 k x) l ∧ okT g (k + 1) (l.filter (bit0 k)) ∧ okT g (k + 1) (l.filter (fun x => !bit0 k x)) := by
  cases f with
  | zero => exact absurd ho h
  | succ g => exact ⟨g, rfl, ho.resolve_left h⟩
theorem one_of {l : List It} (h : l.length = 1) : ∃ x, l = [x] := by
  match l, h with
  | [x], _ => exact ⟨x, rfl⟩
/-- What Set gives. -/
def setA (l m : List It) : List It := dd (stI (rvI [l, m].flatten))
end Go.Proofs.YtdjcclcejmeheaaGreat
end
section
namespace Go.Proofs.YtdjcclcejmeheaaGreat
set_option linter.unusedVariables false
set_option linter.unusedSimpArgs false
open Go.RowKit Pl
/-- Where an item belongs: the first place that is not ahead of it. -/
def plc (x : It) (out : List It) : Nat := fst_ (fun y => !ltI y x) out
def insR (out : List It) (x : It) : List It := if plc x out < out.length ∧ alike (at_ out (plc x out)) x = true then out.set (plc x out) x else out.take (plc x out) ++ [x] ++ out.drop (plc x out)
def setR (l m : List It) : List It := (l ++ m).foldl insR []
theorem insR_len (out : List It) (x : It) : (insR out x).length ≤ out.length + 1 := by
  unfold insR; split
  · simp
  · simp; have := fst_le (fun y => !ltI y x) out; unfold plc; omega
theorem insR_set {out : List It} {x : It} {k : Nat} (hk : k < out.length) (hp : plc x out = k) (ha : alike out[k] x = true) : insR out x = out.set k x := by
  unfold insR; rw [hp, if_pos ⟨hk, by rw [at_eq hk]; exact ha⟩]
theorem insR_new {out : List It} {x : It} {k : Nat} (hp : plc x out = k) (ha : ∀ hk : k < out.length, ¬ alike out[k] x = true) : insR out x = out.take k ++ [x] ++ out.drop k := by
  unfold insR; rw [hp, if_neg (fun q => ha q.1 (by rw [← at_eq q.1]; exact q.2))]
theorem flat_ix (xs : List It) {i : Nat} (hi : i < xs.length) : ((xs.flatMap It.dv).drop (i * 64)).take 32 = hdv xs[i].ix := by
  have h := flat_at it_len xs hi
  have : ((xs.flatMap It.dv).drop (i * 64)).take 32 = (((xs.flatMap It.dv).drop (i * 64)).take 64).take 32 := by rw [List.take_take]; rfl
  rw [this, h]; rfl
theorem foldl_snoc {l : List It} {k : Nat} (h : k < l.length) : (l.take (k + 1)).foldl insR [] = insR ((l.take k).foldl insR []) l[k] := by rw [take_snoc' h, List.foldl_append]; rfl
theorem plc_at {out : List It} {x : It} {k : Nat} (hk : k < out.length) (h : ltI out[k] x = false) (hj : ∀ j (hj : j < out.length), j < k → ltI out[j] x = true) : plc x out = k := fst_at hk (by simp [h]) (fun j h1 h2 => by simp [hj j h1 h2])
theorem plc_none {out : List It} {x : It} {k : Nat} (hk : ¬ k < out.length) (h0 : k ≤ out.length) (hj : ∀ j (hj : j < out.length), j < k → ltI out[j] x = true) : plc x out = k := by
  have e : k = out.length := by omega
  rw [e]
  exact fst_none (fun j h1 => by simp [hj j h1 (by omega)])
theorem bit0_dec {k : Nat} (hk : k < 256) (x : It) : decide (bitI x.ix (k : Int) = 0) = bit0 k x := by
  unfold bit0
  rw [bitI_nat _ hk]
  by_cases h : bitN x.ix k = 0
  · simp [h]
  · simp [h]
theorem filter_snoc {α : Type} (p : α → Bool) {l : List α} {k : Nat} (h : k < l.length) : (l.take (k + 1)).filter p = if p l[k] = true then (l.take k).filter p ++ [l[k]] else (l.take k).filter p := by
  rw [take_snoc' h, List.filter_append]
  by_cases e : p l[k] = true
  · simp [e]
  · simp [e]
theorem filter_take_le {α : Type} (p : α → Bool) (l : List α) (k : Nat) : ((l.take k).filter p).length ≤ l.length := Nat.le_trans (List.length_filter_le _ _) (by simp; omega)
end Go.Proofs.YtdjcclcejmeheaaGreat
end
section
namespace Go.Proofs.YtdjcclcejmeheaaGreat
set_option linter.unusedVariables false
set_option linter.unusedSimpArgs false
open Go.RowKit Pl
theorem bl_irrefl : ∀ a : List UInt8, Op.bytesLess a a = false
  | [] => rfl
  | x :: a => by unfold Op.bytesLess; simp [bl_irrefl a]
theorem bl_trans : ∀ {a b c : List UInt8}, Op.bytesLess a b = true → Op.bytesLess b c = true → Op.bytesLess a c = true
  | a, b, [], h1, h2 => by cases b <;> simp [Op.bytesLess] at h2
  | [], b, z :: c, _, _ => by simp [Op.bytesLess]
  | x :: a, [], z :: c, h1, _ => by simp [Op.bytesLess] at h1
  | x :: a, y :: b, z :: c, h1, h2 => by
    unfold Op.bytesLess at h1 h2 ⊢
    by_cases e1 : x = y
    · subst e1
      by_cases e2 : x = z
      · subst e2; simp at h1 h2 ⊢; exact bl_trans h1 h2
      · simp [e2] at h2 ⊢; simp at h1; exact h2
    · simp [e1] at h1
      by_cases e2 : y = z
      · subst e2; simp at h2; simp [e1, h1]
      · simp [e2] at h2
        have h3 : x < z := UInt8.lt_trans h1 h2
        have e3 : x ≠ z := fun e => by subst e; exact absurd h3 (UInt8.lt_irrefl _)
        simp [e3, h3]
theorem bl_total : ∀ {a b : List UInt8}, Op.bytesLess a b = false → Op.bytesLess b a = false → a = b
  | [], [], _, _ => rfl
  | [], y :: b, h, _ => by simp [Op.bytesLess] at h
  | x :: a, [], _, h => by simp [Op.bytesLess] at h
  | x :: a, y :: b, h1, h2 => by
    unfold Op.bytesLess at h1 h2
    by_cases e : x = y
    · subst e; simp at h1 h2; rw [bl_total h1 h2]
    · have e' : y ≠ x := fun q => e q.symm
      simp [e] at h1; simp [e'] at h2
      exact absurd (UInt8.le_antisymm h2 h1) e
theorem lt_irrefl (x : It) : ltI x x = false := bl_irrefl _
theorem lt_trans {x y z : It} (h : ltI x y = true) (k : ltI y z = true) : ltI x z = true := bl_trans h k
theorem lt_asymm {x y : It} (h : ltI x y = true) : ltI y x = false := by
  cases e : ltI y x with
  | false => rfl
  | true => have := lt_trans h e; rw [lt_irrefl] at this; cases this
theorem lt_total {x y : It} (h : ltI x y = false) (k : ltI y x = false) : H.l x.ix = H.l y.ix := bl_total h k
theorem le_trans {x y z : It} (h : ltI y x = false) (k : ltI z y = false) : ltI z x = false := by
  cases e : ltI z x with
  | false => rfl
  | true =>
    cases e2 : ltI x y with
    | true => have := lt_trans e e2; rw [k] at this; cases this
    | false =>
      have := lt_total e2 h
      have e3 : ltI z y = true := by unfold ltI at e ⊢; rw [← this]; exact e
      rw [k] at e3; cases e3
theorem lt_ne {x y : It} (h : ltI x y = true) : ¬ H.l x.ix = H.l y.ix := fun e => by unfold ltI at h; rw [e, bl_irrefl] at h; cases h
def cls (k : List UInt8) (xs : List It) : List It := xs.filter (fun x => decide (H.l x.ix = k))
theorem cls_app (k : List UInt8) (xs ys : List It) : cls k (xs ++ ys) = cls k xs ++ cls k ys := List.filter_append ..
theorem cls_cons (k : List UInt8) (x : It) (xs : List It) : cls k (x :: xs) = if H.l x.ix = k then x :: cls k xs else cls k xs := by
  unfold cls; by_cases h : H.l x.ix = k <;> simp [h]
theorem cls_none {k : List UInt8} {xs : List It} (h : ∀ x ∈ xs, ¬ H.l x.ix = k) : cls k xs = [] := by
  unfold cls; rw [List.filter_eq_nil_iff]; intro x hx; simp [h x hx]
theorem mem_cls {k : List UInt8} {xs : List It} {x : It} : x ∈ cls k xs ↔ x ∈ xs ∧ H.l x.ix = k := by unfold cls; simp
def Rea (xs ys : List It) : Prop := ∀ k, cls k ys = cls k xs
theorem Rea.refl (xs : List It) : Rea xs xs := fun _ => rfl
theorem Rea.trans {xs ys zs : List It} (h : Rea xs ys) (k : Rea ys zs) : Rea xs zs := fun q => (k q).trans (h q)
theorem Rea.mem {xs ys : List It} (h : Rea xs ys) {x : It} : x ∈ ys ↔ x ∈ xs := by
  have := h (H.l x.ix)
  constructor
  · intro hx
    have : x ∈ cls (H.l x.ix) ys := mem_cls.2 ⟨hx, rfl⟩
    rw [h] at this; exact (mem_cls.1 this).1
  · intro hx
    have : x ∈ cls (H.l x.ix) xs := mem_cls.2 ⟨hx, rfl⟩
    rw [← h] at this; exact (mem_cls.1 this).1
/-- Two blocks whose items are nowhere alike change places. -/
theorem Rea.swap {u v : List It} (h : ∀ x ∈ u, ∀ y ∈ v, ¬ H.l x.ix = H.l y.ix) : Rea (u ++ v) (v ++ u) := fun k => by
  rw [cls_app, cls_app]
  by_cases hu : ∃ x ∈ u, H.l x.ix = k
  · obtain ⟨x, hx, rfl⟩ := hu
    rw [cls_none (fun y hy e => h x hx y hy e.symm)]; simp
  · rw [cls_none (xs := u) (fun x hx e => hu ⟨x, hx, e⟩)]; simp
def Str (xs : List It) : Prop := xs.Pairwise (fun x y => ltI x y = true)
theorem str_app {xs ys : List It} : Str (xs ++ ys) ↔ Str xs ∧ Str ys ∧ ∀ x ∈ xs, ∀ y ∈ ys, ltI x y = true := List.pairwise_append
theorem Str.filter {xs : List It} (h : Str xs) (p : It → Bool) : Str (xs.filter p) := List.Pairwise.filter p h
theorem at_mid (a : List It) (x : It) (b : List It) : at_ (a ++ x :: b) a.length = x := by unfold at_; simp [List.getD]
end Go.Proofs.YtdjcclcejmeheaaGreat
end
section
namespace Go.Proofs.YtdjcclcejmeheaaGreat
set_option linter.unusedVariables false
set_option linter.unusedSimpArgs false
open Go.RowKit Pl
end Go.Proofs.YtdjcclcejmeheaaGreat
end
section
namespace Go.Proofs.YtdjcclcejmeheaaGreat
set_option linter.unusedVariables false
set_option linter.unusedSimpArgs false
open Go.RowKit Pl
end Go.Proofs.YtdjcclcejmeheaaGreat
end
section
namespace Go.Proofs.YtdjcclcejmeheaaGreat
set_option linter.unusedVariables false
set_option linter.unusedSimpArgs false
open Go.RowKit Pl
theorem alike_iff {x y : It} : alike x y = true ↔ H.l x.ix = H.l y.ix := by unfold alike; simp
theorem ltI_of_key {x y z : It} (h : H.l x.ix = H.l y.ix) : ltI x z = ltI y z := by unfold ltI; rw [h]
/-- A strict order's list is told by its items. -/
theorem str_unique : ∀ {xs ys : List It}, Str xs → Str ys → (∀ k, cls k xs = cls k ys) → xs = ys
  | [], [], _, _, _ => rfl
  | [], y :: ys, _, _, h => by have := h (H.l y.ix); rw [cls_cons, if_pos rfl] at this; simp [cls] at this
  | x :: xs, [], _, _, h => by have := h (H.l x.ix); rw [cls_cons, if_pos rfl] at this; simp [cls] at this
  | x :: xs, y :: ys, hx, hy, h => by
    obtain ⟨h1, h2⟩ := List.pairwise_cons.1 hx
    obtain ⟨h3, h4⟩ := List.pairwise_cons.1 hy
    have mx : x ∈ y :: ys := (mem_cls.1 (show x ∈ cls (H.l x.ix) (y :: ys) by rw [← h]; exact mem_cls.2 ⟨by simp, rfl⟩)).1
    have my : y ∈ x :: xs := (mem_cls.1 (show y ∈ cls (H.l y.ix) (x :: xs) by rw [h]; exact mem_cls.2 ⟨by simp, rfl⟩)).1
    have e : x = y := by
      rcases List.mem_cons.1 mx with e | mx
      · exact e
      · rcases List.mem_cons.1 my with e | my
        · exact e.symm
        · have := lt_trans (h1 y my) (h3 x mx)
          rw [lt_irrefl] at this; cases this
    subst e
    refine congrArg (x :: ·) (str_unique h2 h4 fun k => ?_)
    have := h k
    rw [cls_cons, cls_cons] at this
    split at this
    · exact (List.cons.inj this).2
    · exact this
theorem str_cls {xs : List It} (h : Str xs) (k : List UInt8) : (cls k xs).length ≤ 1 := by
  have hs : Str (cls k xs) := h.filter _
  match hc : cls k xs, hs with
  | [], _ => simp
  | [x], _ => simp
  | x :: y :: r, hs =>
    have hx : x ∈ cls k xs := by rw [hc]; simp
    have hy : y ∈ cls k xs := by rw [hc]; simp
    have := List.rel_of_pairwise_cons hs (show y ∈ y :: r by simp)
    exact absurd ((mem_cls.1 hx).2.trans (mem_cls.1 hy).2.symm) (lt_ne this)
theorem plc_split {out : List It} (x : It) (h : Str out) : ∃ a b, out = a ++ b ∧ plc x out = a.length ∧ (∀ y ∈ a, ltI y x = true) ∧ ∀ y ∈ b, ltI y x = false := by
  induction out with
  | nil => exact ⟨[], [], rfl, rfl, by simp, by simp⟩
  | cons z r ih =>
    obtain ⟨h1, h2⟩ := List.pairwise_cons.1 h
    unfold plc fst_
    by_cases hz : ltI z x = true
    · obtain ⟨a, b, rfl, k1, k2, k3⟩ := ih h2
      refine ⟨z :: a, b, rfl, ?_, ?_, k3⟩
      · rw [if_neg (by simp [hz])]; unfold plc at k1; rw [k1]; rfl
      · intro y hy
        rcases List.mem_cons.1 hy with rfl | hy
        · exact hz
        · exact k2 y hy
    · refine ⟨[], z :: r, rfl, by rw [if_pos (by simpa using hz)]; rfl, by simp, fun y hy => ?_⟩
      rcases List.mem_cons.1 hy with rfl | hy
      · simpa using hz
      · cases q : ltI y x with
        | false => rfl
        | true => exact absurd (lt_trans (h1 y hy) q) hz
theorem insR_spec {out : List It} (x : It) (h : Str out) : Str (insR out x) ∧ ∀ k, cls k (insR out x) = if H.l x.ix = k then [x] else cls k out := by
  obtain ⟨a, b, rfl, hp, ha, hb⟩ := plc_split x h
  obtain ⟨s1, s2, s3⟩ := str_app.1 h
  by_cases hc : plc x (a ++ b) < (a ++ b).length ∧ alike (at_ (a ++ b) (plc x (a ++ b))) x = true
  · have hb0 : b ≠ [] := fun e => by subst e; rw [hp] at hc; simp at hc
    obtain ⟨y, c, rfl⟩ : ∃ y c, b = y :: c := by cases b with | nil => exact absurd rfl hb0 | cons y c => exact ⟨y, c, rfl⟩
    rw [hp, at_mid] at hc
    have e := alike_iff.1 hc.2
    have hi : insR (a ++ y :: c) x = a ++ x :: c := by
      unfold insR
      rw [hp, at_mid, if_pos hc, List.set_append_right _ _ (Nat.le_refl _), Nat.sub_self, List.set_cons_zero]
    rw [hi]
    obtain ⟨s4, s5⟩ := List.pairwise_cons.1 s2
    refine ⟨str_app.2 ⟨s1, List.pairwise_cons.2 ⟨fun z hz => by rw [← ltI_of_key e]; exact s4 z hz, s5⟩, fun z hz t ht => ?_⟩, fun k => ?_⟩
    · rcases List.mem_cons.1 ht with rfl | ht
      · exact ha z hz
      · exact s3 z hz t (by simp [ht])
    · rw [cls_app, cls_cons, cls_app, cls_cons k y, e]
      by_cases hk : H.l x.ix = k
      · rw [if_pos hk, if_pos hk, cls_none (fun z hz q => lt_ne (ha z hz) (q.trans hk.symm)), cls_none (fun z hz q => lt_ne (s4 z hz) ((e.trans hk).trans q.symm))]
        simp
      · rw [if_neg hk, if_neg hk, if_neg hk]
  · have hi : insR (a ++ b) x = a ++ x :: b := by
      unfold insR
      rw [if_neg hc, hp, List.take_left, List.drop_left]; simp
    have hne : ∀ z ∈ b, ltI x z = true := fun z hz => by
      obtain ⟨y, c, rfl⟩ : ∃ y c, b = y :: c := by cases b with | nil => cases hz | cons y c => exact ⟨y, c, rfl⟩
      have hy : ltI x y = true := by
        cases q : ltI x y with
        | true => rfl
        | false =>
          refine absurd ⟨?_, ?_⟩ hc
          · rw [hp]; simp
          · rw [hp, at_mid]; exact alike_iff.2 (lt_total (hb y (by simp)) q)
      rcases List.mem_cons.1 hz with rfl | hz
      · exact hy
      · exact lt_trans hy ((List.pairwise_cons.1 s2).1 z hz)
    rw [hi]
    refine ⟨str_app.2 ⟨s1, List.pairwise_cons.2 ⟨hne, s2⟩, fun z hz t ht => ?_⟩, fun k => ?_⟩
    · rcases List.mem_cons.1 ht with rfl | ht
      · exact ha z hz
      · exact s3 z hz t ht
    · rw [cls_app, cls_cons, cls_app]
      by_cases hk : H.l x.ix = k
      · rw [if_pos hk, if_pos hk, cls_none (fun z hz q => lt_ne (ha z hz) (q.trans hk.symm)), cls_none (fun z hz q => lt_ne (hne z hz) (hk.trans q.symm))]
        simp
      · rw [if_neg hk, if_neg hk]
theorem fold_spec : ∀ (A out : List It), Str out → Str (A.foldl insR out) ∧ ∀ k, cls k (A.foldl insR out) = if cls k A = [] then cls k out else (cls k A).reverse.take 1
  | [], out, h => ⟨h, fun k => by simp [cls]⟩
  | x :: A, out, h => by
    obtain ⟨h1, h2⟩ := insR_spec x h
    obtain ⟨h3, h4⟩ := fold_spec A (insR out x) h1
    refine ⟨h3, fun k => ?_⟩
    show cls k (A.foldl insR (insR out x)) = _
    rw [h4 k, h2 k, cls_cons]
    by_cases hk : H.l x.ix = k
    · rw [if_pos hk, if_pos hk, if_neg (show ¬ x :: cls k A = [] by simp)]
      by_cases hA : cls k A = []
      · rw [if_pos hA, hA]; rfl
      · rw [if_neg hA, List.reverse_cons, List.take_append_of_le_length]
        have : 0 < (cls k A).length := List.length_pos_iff.2 hA
        simp; omega
    · rw [if_neg hk, if_neg hk]
theorem setR_spec (l m : List It) : Str (setR l m) ∧ ∀ k, cls k (setR l m) = (cls k (l ++ m)).reverse.take 1 := by
  obtain ⟨h1, h2⟩ := fold_spec (l ++ m) [] (by simp [Str])
  refine ⟨h1, fun k => ?_⟩
  show cls k ((l ++ m).foldl insR []) = _
  rw [h2 k]
  split
  · rename_i e; rw [e]; simp [cls]
  · rfl
theorem setR_str (l m : List It) : Str (setR l m) := (setR_spec l m).1
/-- A set of a set's items, each there and in whatever order, is that set. -/
theorem setR_of {A : List It} {x : List It} (hx : Str x) (h1 : ∀ y ∈ A, y ∈ x) (h2 : ∀ y ∈ x, y ∈ A) : A.foldl insR [] = x := by
  obtain ⟨k1, k2⟩ := fold_spec A [] (by simp [Str])
  refine str_unique k1 hx fun k => ?_
  rw [k2 k]
  have hl := str_cls hx k
  cases hA : cls k A with
  | nil =>
    rw [if_pos rfl]
    cases hc : cls k x with
    | nil => rfl
    | cons y r =>
      have hy := mem_cls.1 (show y ∈ cls k x by rw [hc]; simp)
      have := mem_cls.2 ⟨h2 y hy.1, hy.2⟩
      rw [hA] at this; cases this
  | cons z r =>
    rw [if_neg (by simp)]
    have hz := mem_cls.1 (show z ∈ cls k A by rw [hA]; simp)
    have hzx : z ∈ cls k x := mem_cls.2 ⟨h1 z hz.1, hz.2⟩
    obtain ⟨u, hu⟩ : ∃ u, cls k x = [u] := one_of (by have := List.length_pos_of_mem hzx; omega)
    have all : ∀ y ∈ cls k A, y = u := fun y hy => by
      have hy' := mem_cls.1 hy
      have : y ∈ cls k x := mem_cls.2 ⟨h1 y hy'.1, hy'.2⟩
      rw [hu] at this; simpa using this
    rw [hu, ← hA]
    have hne : (cls k A).reverse ≠ [] := by rw [hA]; simp
    cases hr : (cls k A).reverse with
    | nil => exact absurd hr hne
    | cons y t =>
      have : y ∈ cls k A := by rw [← List.mem_reverse, hr]; simp
      rw [all y this]; rfl
theorem byte_bits {A B : Nat} (hA : A < 256) (hB : B < 256) : ∀ r, r ≤ 8 → (∀ j, j < r → A / 2 ^ (7 - j) % 2 = B / 2 ^ (7 - j) % 2) → A / 2 ^ (8 - r) = B / 2 ^ (8 - r)
  | 0, _, _ => by rw [Nat.div_eq_of_lt hA, Nat.div_eq_of_lt hB]
  | r + 1, hr, h => by
    have ih := byte_bits hA hB r (by omega) (fun j hj => h j (by omega))
    have hb := h r (by omega)
    have e : 8 - r = (7 - r) + 1 := by omega
    rw [e, Nat.pow_succ, ← Nat.div_div_eq_div_mul, ← Nat.div_div_eq_div_mul] at ih
    rw [show 8 - (r + 1) = 7 - r by omega]
    omega
theorem byte_lt {A B : Nat} (hA : A < 256) (hB : B < 256) {r : Nat} (hr : r < 8) (h : ∀ j, j < r → A / 2 ^ (7 - j) % 2 = B / 2 ^ (7 - j) % 2) (h1 : A / 2 ^ (7 - r) % 2 = 1) (h0 : B / 2 ^ (7 - r) % 2 = 0) : B < A := by
  have ih := byte_bits hA hB r (by omega) h
  have e : 8 - r = (7 - r) + 1 := by omega
  rw [e, Nat.pow_succ, ← Nat.div_div_eq_div_mul, ← Nat.div_div_eq_div_mul] at ih
  rcases Nat.lt_or_ge B A with q | q
  · exact q
  · have := Nat.div_le_div_right (c := 2 ^ (7 - r)) q
    omega
theorem less_at : ∀ {a b : List UInt8} {n : Nat} {x y : UInt8}, a.take n = b.take n → a[n]? = some x → b[n]? = some y → x < y → Op.bytesLess a b = true
  | [], b, n, x, y, _, ha, _, _ => by simp at ha
  | u :: a, [], n, x, y, _, _, hb, _ => by simp at hb
  | u :: a, v :: b, 0, x, y, _, ha, hb, hxy => by
    simp at ha hb; subst ha; subst hb
    unfold Op.bytesLess
    have : u ≠ v := fun e => by subst e; exact absurd hxy (UInt8.lt_irrefl _)
    simp [this, hxy]
  | u :: a, v :: b, n + 1, x, y, h, ha, hb, hxy => by
    simp at h ha hb
    obtain ⟨rfl, h⟩ := h
    unfold Op.bytesLess
    simp [less_at h ha hb hxy]
theorem byteN_get (h : H) {q : Nat} (hq : q < 32) : ∃ x, (H.l h)[q]? = some x ∧ x.toNat = byteN h q := ⟨h ⟨q, hq⟩, H.l_get h ⟨q, hq⟩, by unfold byteN; rw [dif_pos hq]⟩
theorem bytes_eq {a b : H} : ∀ {n : Nat}, n ≤ 32 → (∀ j, j < 8 * n → bitN a j = bitN b j) → (H.l a).take n = (H.l b).take n
  | 0, _, _ => by simp
  | n + 1, hn, h => by
    have ih := bytes_eq (n := n) (by omega) (fun j hj => h j (by omega))
    obtain ⟨x, h1, h2⟩ := byteN_get a (q := n) (by omega)
    obtain ⟨y, h3, h4⟩ := byteN_get b (q := n) (by omega)
    have e : byteN a n = byteN b n := by
      have := byte_bits (byteN_lt a n) (byteN_lt b n) 8 (Nat.le_refl _) (fun j hj => by
        have := h (8 * n + j) (by omega)
        unfold bitN at this
        rwa [show (8 * n + j) / 8 = n by omega, show (8 * n + j) % 8 = j by omega] at this)
      simpa using this
    have exy : x = y := UInt8.toNat_inj.1 (by omega)
    rw [List.take_add_one, List.take_add_one, ih, h1, h3, exy]
theorem bits_less {a b : H} {k : Nat} (hk : k < 256) (h : ∀ j, j < k → bitN a j = bitN b j) (ha : bitN a k = 1) (hb : bitN b k = 0) : Op.bytesLess (H.l b) (H.l a) = true := by
  obtain ⟨x, h1, h2⟩ := byteN_get a (q := k / 8) (by omega)
  obtain ⟨y, h3, h4⟩ := byteN_get b (q := k / 8) (by omega)
  have hlt : byteN b (k / 8) < byteN a (k / 8) := byte_lt (byteN_lt _ _) (byteN_lt _ _) (r := k % 8) (by omega) (fun j hj => by
    have := h (8 * (k / 8) + j) (by omega)
    unfold bitN at this
    rwa [show (8 * (k / 8) + j) / 8 = k / 8 by omega, show (8 * (k / 8) + j) % 8 = j by omega] at this) ha hb
  refine less_at (n := k / 8) (bytes_eq (by omega) (fun j hj => (h j (by omega)).symm)) h3 h1 ?_
  rw [UInt8.lt_iff_toNat_lt]; omega
def agree (k : Nat) (l : List It) : Prop := ∀ x ∈ l, ∀ y ∈ l, ∀ j, j < k → bitN x.ix j = bitN y.ix j
theorem sided_of {k : Nat} (hk : k < 256) : ∀ {l : List It}, Str l → agree k l → sided (fun x => !bit0 k x) l
  | [], _, _ => trivial
  | x :: r, hs, ha => by
    obtain ⟨h1, h2⟩ := List.pairwise_cons.1 hs
    refine ⟨fun hx y hy => ?_, sided_of hk h2 (fun a b c d j hj => ha a (by simp [b]) c (by simp [d]) j hj)⟩
    have bx := bitN_lt x.ix k
    have by_ := bitN_lt y.ix k
    simp only [bit0, Bool.not_eq_true', beq_eq_false_iff_ne] at hx ⊢
    intro h0
    have := bits_less hk (ha x (by simp) y (by simp [hy])) (by omega) h0
    have q := lt_asymm (h1 y hy)
    unfold ltI at q
    rw [this] at q; cases q
theorem okT_of : ∀ (f k : Nat) (l : List It), k + f = 256 → Str l → agree k l → okT f k l
  | 0, k, l, hk, hs, ha => by
    show l.length < 2
    match l, hs with
    | [], _ => simp
    | [x], _ => simp
    | x :: y :: r, hs =>
      have h1 := List.rel_of_pairwise_cons hs (show y ∈ y :: r by simp)
      have := bytes_eq (a := x.ix) (b := y.ix) (n := 32) (Nat.le_refl _) (fun j hj => ha x (by simp) y (by simp) j (by omega))
      rw [List.take_of_length_le (by rw [H.l_len]; omega), List.take_of_length_le (by rw [H.l_len]; omega)] at this
      exact absurd this (lt_ne h1)
  | f + 1, k, l, hk, hs, ha => by
    refine .inr ⟨by omega, sided_of (by omega) hs ha, okT_of f (k + 1) _ (by omega) (hs.filter _) ?_, okT_of f (k + 1) _ (by omega) (hs.filter _) ?_⟩
    · intro x hx y hy j hj
      obtain ⟨x1, x2⟩ := List.mem_filter.1 hx
      obtain ⟨y1, y2⟩ := List.mem_filter.1 hy
      rcases Nat.lt_or_eq_of_le (Nat.le_of_lt_succ hj) with h | rfl
      · exact ha x x1 y y1 j h
      · simp only [bit0, beq_iff_eq] at x2 y2; omega
    · intro x hx y hy j hj
      obtain ⟨x1, x2⟩ := List.mem_filter.1 hx
      obtain ⟨y1, y2⟩ := List.mem_filter.1 hy
      rcases Nat.lt_or_eq_of_le (Nat.le_of_lt_succ hj) with h | rfl
      · exact ha x x1 y y1 j h
      · have b1 := bitN_lt x.ix j
        have b2 := bitN_lt y.ix j
        simp only [bit0, Bool.not_eq_true', beq_eq_false_iff_ne] at x2 y2; omega
theorem okT_str {l : List It} (h : Str l) : okT 256 0 l := okT_of 256 0 l rfl h (fun x _ y _ j hj => absurd hj (Nat.not_lt_zero j))
/-- A tree's root. -/
def rootH (l : List It) : H := belowH 257 0 (setR l [])
theorem setR_len (l m : List It) : (setR l m).length ≤ l.length + m.length := by
  have : ∀ (A out : List It), (A.foldl insR out).length ≤ out.length + A.length := fun A => by
    induction A with
    | nil => intro out; simp
    | cons x A ih => intro out; have h1 := ih (insR out x); have h2 := insR_len out x; simp at h1 ⊢; omega
  have := this (l ++ m) []
  simpa [setR] using this
end Go.Proofs.YtdjcclcejmeheaaGreat
end
section
namespace Go.Proofs.YtdjcclcejmeheaaGreat
set_option linter.unusedVariables false
set_option linter.unusedSimpArgs false
open Go.RowKit Pl
def entD (nm : List UInt8) (ver key : Int) : List DV := [.v (.string ⟨⟨nm⟩⟩), .v (.int .i64 ver), .v (.int .u64 key)]
section
variable {P : Program} {C : Cx} {L : Lo} {Γ : Ga} {d : Nat} {ty : TypeId} {pos : String} {af : Array Edge} {gd : Option (Nat × Bool)}
theorem Pl.OT.neht {xt yt : TypeId} {x y : Operand} {a b : H} (h : H.l a ≠ H.l b) (hn : Nat.blt d C.n = true) (hx : evd L x = some (.ag (hdv a))) (hy : evd L y = some (.ag (hdv b))) (ht : eqT P xt = some hks) :
    OT P C ⟨some d, .binOp .neq xt x y yt, ty, pos, af, gd⟩ L Γ (upd L d (.f (.v (.bool true)))) Γ := by
  have := OT.neh (P := P) (C := C) (Γ := Γ) (ty := ty) (pos := pos) (af := af) (gd := gd) (yt := yt) hn hx hy ht
  rwa [show decide (¬ H.l a = H.l b) = true from decide_eq_true h] at this
theorem Pl.OT.nehf {xt yt : TypeId} {x y : Operand} {a b : H} (h : a = b) (hn : Nat.blt d C.n = true) (hx : evd L x = some (.ag (hdv a))) (hy : evd L y = some (.ag (hdv b))) (ht : eqT P xt = some hks) :
    OT P C ⟨some d, .binOp .neq xt x y yt, ty, pos, af, gd⟩ L Γ (upd L d (.f (.v (.bool false)))) Γ := by
  have := OT.neh (P := P) (C := C) (Γ := Γ) (ty := ty) (pos := pos) (af := af) (gd := gd) (yt := yt) hn hx hy ht
  rwa [show decide (¬ H.l a = H.l b) = false by rw [h]; simp] at this
end
theorem rootH_def (l : List It) : belowH (256 + 1) 0 (setR l []) = rootH l := rfl
theorem setR_self {x : List It} (h : Str x) : setR x [] = x := setR_of h (fun y hy => by simpa using hy) (fun y hy => by simpa using hy)
def h3 (a b : UInt8) : H := fun j => if j.val = 0 then a else if j.val = 2 then b else 0
def w2 (x : UInt16) : UInt16 := x >>> 2
def w7 (x : UInt16) : UInt16 := x >>> 7
def w8 (x : UInt16) : Int := ((x.toNat / 256 : Nat) : Int)
def b2 (x : UInt16) : UInt8 := (w2 x).toUInt8
end Go.Proofs.YtdjcclcejmeheaaGreat
end
section
namespace Go.Proofs.YtdjcclcejmeheaaGreat
set_option linter.unusedVariables false
set_option linter.unusedSimpArgs false
open Go.RowKit Pl
end Go.Proofs.YtdjcclcejmeheaaGreat
end
section
namespace Go.Proofs.YtdjcclcejmeheaaGreat
set_option linter.unusedVariables false
set_option linter.unusedSimpArgs false
open Go.RowKit Pl
def selB (s : Nat) (x : It) : Bool := bitN x.ix 0 == s
def hvs (X : List It) (s j : Nat) : H := if j < s then belowH 256 1 (X.filter (selB j)) else zeroH
end Go.Proofs.YtdjcclcejmeheaaGreat
end

