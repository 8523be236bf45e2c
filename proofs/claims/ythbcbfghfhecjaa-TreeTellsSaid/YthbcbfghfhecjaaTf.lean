/-
  Trees: hashes and items compared, numbers as bytes, bits, lists without doubles, first places: the values.
-/
import Derived.Test.YthbcbfghfhecjaaTe
namespace Go.Proofs.Ythbcbfghfhecjaa
set_option linter.unusedVariables false
set_option linter.unusedSimpArgs false
open Go.RowKit Pl

/-! Bytes compared. -/
abbrev hks : List LK := List.replicate 32 (.i .u8)
abbrev iks : List LK := List.replicate 64 (.i .u8)
def u8v (l : List UInt8) : List Value := l.map fun b => .int .u8 b.toNat
theorem vals_u8 : ∀ l : List UInt8, vals (l.flatMap bdv) = some (u8v l)
  | [] => rfl
  | x :: r => by
    show vals (DV.v (.int .u8 x.toNat) :: r.flatMap bdv) = _
    simp only [vals, vals_u8 r, Option.map_some]; rfl
theorem wf_byte (b : UInt8) : (Lit.int .u8 b.toNat).wf = true := by
  have := b.toNat_lt
  simp only [Lit.wf, IntKind.min, IntKind.max, IntKind.bits, IntKind.signed, Bool.and_eq_true, decide_eq_true_eq]
  constructor <;> simp <;> omega
theorem lits_u8 : ∀ l : List UInt8, lits (List.replicate l.length (.i .u8)) (u8v l) = some (l.map fun b => .int .u8 b.toNat)
  | [] => rfl
  | x :: r => by
    show lits (LK.i .u8 :: List.replicate r.length (.i .u8)) (Value.int .u8 x.toNat :: u8v r) = _
    simp only [lits, LK.lit, wf_byte, and_self, if_true, lits_u8 r, List.map_cons]
theorem u8v_inj {l m : List UInt8} : u8v l = u8v m ↔ l = m := by
  refine ⟨fun h => ?_, fun h => by rw [h]⟩
  unfold u8v at h
  refine List.map_inj_right (f := fun b : UInt8 => Value.int .u8 b.toNat) (fun x y e => ?_) |>.1 h
  simp only [Value.int.injEq, true_and] at e
  exact UInt8.toNat_inj.1 (by omega)
/-- An item's bytes. -/
def iB (x : It) : List UInt8 := H.l x.ix ++ H.l x.vl
theorem iB_len (x : It) : (iB x).length = 64 := by unfold iB; rw [List.length_append, H.l_len, H.l_len]
theorem it_bytes (x : It) : x.dv = (iB x).flatMap bdv := by unfold It.dv hdv iB; rw [List.flatMap_append]
theorem iB_inj {x y : It} (h : iB x = iB y) : x = y := by
  unfold iB at h
  obtain ⟨h1, h2⟩ := List.append_inj h (by rw [H.l_len, H.l_len])
  cases x; cases y
  simp only at h1 h2
  rw [H.l_inj h1, H.l_inj h2]
section
variable {P : Program} {C : Cx} {L : Lo} {Γ : Ga} {d : Nat} {ty : TypeId} {pos : String} {af : Array Edge} {gd : Option (Nat × Bool)}
theorem Pl.OT.equ8 {xt yt : TypeId} {x y : Operand} {cs ds : List DV} (l m : List UInt8) (n : Nat) (hn : Nat.blt d C.n = true) (hx : evd L x = some (.ag cs)) (hy : evd L y = some (.ag ds)) (hc : cs = l.flatMap bdv) (hd : ds = m.flatMap bdv) (ht : eqT P xt = some (List.replicate n (.i .u8))) (hl : l.length = n) (hm : m.length = n) :
    OT P C ⟨some d, .binOp .eql xt x y yt, ty, pos, af, gd⟩ L Γ (upd L d (.f (.v (.bool (decide (l = m)))))) Γ := by
  subst hc; subst hd
  exact .eqag _ hn hx hy (vals_u8 l) (vals_u8 m) ht (by rw [← hl]; exact lits_u8 l) (by rw [← hm]; exact lits_u8 m) (by rw [decide_eq_true_eq, u8v_inj])
theorem Pl.OT.neu8 {xt yt : TypeId} {x y : Operand} {cs ds : List DV} (l m : List UInt8) (n : Nat) (hn : Nat.blt d C.n = true) (hx : evd L x = some (.ag cs)) (hy : evd L y = some (.ag ds)) (hc : cs = l.flatMap bdv) (hd : ds = m.flatMap bdv) (ht : eqT P xt = some (List.replicate n (.i .u8))) (hl : l.length = n) (hm : m.length = n) :
    OT P C ⟨some d, .binOp .neq xt x y yt, ty, pos, af, gd⟩ L Γ (upd L d (.f (.v (.bool (decide (¬ l = m)))))) Γ := by
  subst hc; subst hd
  exact .neag _ hn hx hy (vals_u8 l) (vals_u8 m) ht (by rw [← hl]; exact lits_u8 l) (by rw [← hm]; exact lits_u8 m) (by rw [decide_eq_true_eq, u8v_inj])
theorem Pl.OT.eqh {xt yt : TypeId} {x y : Operand} {a b : H} (hn : Nat.blt d C.n = true) (hx : evd L x = some (.ag (hdv a))) (hy : evd L y = some (.ag (hdv b))) (ht : eqT P xt = some hks) :
    OT P C ⟨some d, .binOp .eql xt x y yt, ty, pos, af, gd⟩ L Γ (upd L d (.f (.v (.bool (decide (H.l a = H.l b)))))) Γ := .equ8 _ _ 32 hn hx hy rfl rfl ht (H.l_len a) (H.l_len b)
theorem Pl.OT.neh {xt yt : TypeId} {x y : Operand} {a b : H} (hn : Nat.blt d C.n = true) (hx : evd L x = some (.ag (hdv a))) (hy : evd L y = some (.ag (hdv b))) (ht : eqT P xt = some hks) :
    OT P C ⟨some d, .binOp .neq xt x y yt, ty, pos, af, gd⟩ L Γ (upd L d (.f (.v (.bool (decide (¬ H.l a = H.l b)))))) Γ := .neu8 _ _ 32 hn hx hy rfl rfl ht (H.l_len a) (H.l_len b)
theorem Pl.OT.eqi {xt yt : TypeId} {x y : Operand} {a b : It} (hn : Nat.blt d C.n = true) (hx : evd L x = some (.ag a.dv)) (hy : evd L y = some (.ag b.dv)) (ht : eqT P xt = some iks) :
    OT P C ⟨some d, .binOp .eql xt x y yt, ty, pos, af, gd⟩ L Γ (upd L d (.f (.v (.bool (decide (iB a = iB b)))))) Γ := .equ8 _ _ 64 hn hx hy (it_bytes a) (it_bytes b) ht (iB_len a) (iB_len b)
theorem Pl.OT.nei {xt yt : TypeId} {x y : Operand} {a b : It} (hn : Nat.blt d C.n = true) (hx : evd L x = some (.ag a.dv)) (hy : evd L y = some (.ag b.dv)) (ht : eqT P xt = some iks) :
    OT P C ⟨some d, .binOp .neq xt x y yt, ty, pos, af, gd⟩ L Γ (upd L d (.f (.v (.bool (decide (¬ iB a = iB b)))))) Γ := .neu8 _ _ 64 hn hx hy (it_bytes a) (it_bytes b) ht (iB_len a) (iB_len b)
end
/-! Numbers as bytes, as contracts of data. -/
theorem repL_u8 {K : Nat → Prop} {w : World} : ∀ l : List UInt8, repL K w (l.flatMap bdv) (bvs l)
  | [] => by simp [repL, bvs]
  | x :: r => by
    show repL K w (DV.v (.int .u8 x.toNat) :: r.flatMap bdv) (bv x :: bvs r)
    unfold repL
    exact ⟨_, _, rfl, by unfold DV.rep; rfl, repL_u8 r⟩
theorem po_own {P : Program} {f : FuncId} {u : Value} {l : List UInt8} (hc : ∀ w, Calls P f #[u] w (GivesOwn w l)) : PO P f [.v u] 5 1 l.length (l.flatMap bdv) := fun w us hr => by
  unfold repL at hr
  obtain ⟨v, t, rfl, r1, hr⟩ := hr
  unfold repL at hr; subst hr
  unfold DV.rep at r1; subst r1
  exact (hc w).mono fun e w' ⟨v, h1, h2, h3⟩ => ⟨v, bvs l, h1, h3, h2, bvs_one l, fun K _ => repL_u8 l⟩
theorem num_po (n : Int) (h0 : 0 ≤ n) (h1 : n < 18446744073709551616) : PO Try.prog 41 [.v (.int .u64 n)] 5 1 (numB n).length ((numB n).flatMap bdv) := po_own fun w => (num_any n w h0 h1).mono fun e w' ⟨h2, h3⟩ => by
  subst h3
  exact ⟨_, h2, own_lit w w.heap.size (numB n) (Nat.le_refl _) (by simp [numB, maxLen]), bl_alloc (Below.refl _ _) _⟩
theorem rnum_po (n : Int) (h0 : 0 ≤ n) (h1 : n < 18446744073709551616) : PO Try.prog 42 [.v (.int .u64 n)] 5 1 (numB n).length ((numB n).flatMap bdv) := po_own fun w => rnum_any n w h0 h1
theorem num_pf (n : Int) (h0 : 0 ≤ n) (h1 : n < 18446744073709551616) : PF Try.prog 41 [.v (.int .u64 n)] (slT bdv 1 (numB n)) := (num_po n h0 h1).pf
theorem rnum_pf (n : Int) (h0 : 0 ≤ n) (h1 : n < 18446744073709551616) : PF Try.prog 42 [.v (.int .u64 n)] (slT bdv 1 (numB n)) := (rnum_po n h0 h1).pf
def u64w (n : Int) : Int := n % 18446744073709551616
theorem u64w_bd (n : Int) : 0 ≤ u64w n ∧ u64w n < 18446744073709551616 := by unfold u64w; omega
theorem numB_len (n : Int) : (numB n).length = 8 := rfl
/-! Entries' hashes. -/
def indexH (nm : List UInt8) : H := tagH 105 [nm]
def valueH (ver key : Int) : H := tagH 118 [numB (u64w ver), numB key]
def itemI (nm : List UInt8) (ver key : Int) : It := ⟨indexH nm, valueH ver key⟩
def emptyH : H := tagH 122 []
def leafH (x : It) : H := tagH 108 [H.l x.ix, H.l x.vl]
def nodeH (a b : H) : H := tagH 110 [H.l a, H.l b]
/-! Bits. -/
def byteN (h : H) (k : Nat) : Nat := if hk : k < 32 then (h ⟨k, hk⟩).toNat else 0
def bitN (h : H) (k : Nat) : Nat := byteN h (k / 8) / 2 ^ (7 - k % 8) % 2
def bitI (h : H) (i : Int) : Int := if i < 0 then 0 else if i ≥ 256 then 0 else (bitN h i.toNat : Nat)
theorem bitI_nat (h : H) {k : Nat} (hk : k < 256) : bitI h (k : Int) = ((bitN h k : Nat) : Int) := by
  unfold bitI; rw [if_neg (by omega), if_neg (by omega), Int.toNat_natCast]
theorem bitN_lt (h : H) (k : Nat) : bitN h k < 2 := by unfold bitN; omega
theorem byteN_lt (h : H) (k : Nat) : byteN h k < 256 := by unfold byteN; split; exact UInt8.toNat_lt _; omega
theorem hdv_byte (h : H) {k : Nat} (hk : k < 32) : (hdv h)[k]? = some (.v (.int .u8 ((byteN h k : Nat) : Int))) := by
  unfold hdv byteN
  rw [u8_get, show k = (⟨k, hk⟩ : Fin 32).val from rfl, H.l_get, dif_pos hk]; rfl
theorem shr_bit {n j : Nat} (hj : j ≤ 7) : ((n : Nat) : Int).fdiv (2 ^ (min ((j : Nat) : Int).toNat IntKind.u8.bits)) = ((n / 2 ^ j : Nat) : Int) := by
  have : min ((j : Nat) : Int).toNat IntKind.u8.bits = j := by have : IntKind.u8.bits = 8 := rfl; rw [this]; omega
  have e : (2 : Int) ^ j = ((2 ^ j : Nat) : Int) := by rw [Int.natCast_pow]; rfl
  rw [this, e, Int.fdiv_eq_ediv_of_nonneg _ (Int.natCast_nonneg _), Int.natCast_ediv]
theorem and1_i64 (n : Nat) (h : n < 256) : IntKind.i64.wrap (BitVec.ofInt IntKind.i64.bits ((n : Nat) : Int) &&& BitVec.ofInt IntKind.i64.bits 1).toNat = ((n % 2 : Nat) : Int) := by
  have h1 : IntKind.i64.bits = 64 := rfl
  rw [h1]
  have : (BitVec.ofInt 64 ((n : Nat) : Int) &&& BitVec.ofInt 64 1).toNat = n % 2 := by
    rw [BitVec.toNat_and]
    have e1 : (BitVec.ofInt 64 ((n : Nat) : Int)).toNat = n := by rw [BitVec.ofInt_natCast, BitVec.toNat_ofNat]; omega
    have e2 : (BitVec.ofInt 64 1).toNat = 1 := rfl
    rw [e1, e2, Nat.and_one_is_mod]
  rw [this, IntKind.wrap_i64]; omega
theorem and1_u8 (n : Nat) (h : n < 256) : IntKind.u8.wrap (BitVec.ofInt IntKind.u8.bits ((n : Nat) : Int) &&& BitVec.ofInt IntKind.u8.bits 1).toNat = ((n % 2 : Nat) : Int) := by
  have h1 : IntKind.u8.bits = 8 := rfl
  rw [h1]
  have : (BitVec.ofInt 8 ((n : Nat) : Int) &&& BitVec.ofInt 8 1).toNat = n % 2 := by
    rw [BitVec.toNat_and]
    have e1 : (BitVec.ofInt 8 ((n : Nat) : Int)).toNat = n := by rw [BitVec.ofInt_natCast, BitVec.toNat_ofNat]; omega
    have e2 : (BitVec.ofInt 8 1).toNat = 1 := rfl
    rw [e1, e2, Nat.and_one_is_mod]
  rw [this, IntKind.wrap_u8]; omega
/-! Neighbours alike: the first of each run stays. -/
def alike (x y : It) : Bool := decide (H.l x.ix = H.l y.ix)
def ddp (p : It) : List It → List It
  | [] => []
  | x :: r => if alike x p = true then ddp x r else x :: ddp x r
def dd : List It → List It
  | [] => []
  | x :: r => x :: ddp x r
theorem ddp_snoc : ∀ (l : List It) (p x : It), ddp p (l ++ [x]) = if alike x (l.getLastD p) = true then ddp p l else ddp p l ++ [x]
  | [], p, x => by
    show ddp p [x] = if alike x p = true then [] else [x]
    unfold ddp; split <;> rfl
  | y :: r, p, x => by
    have e : (y :: r).getLastD p = r.getLastD y := by cases r <;> rfl
    rw [List.cons_append, e]
    unfold ddp
    rw [ddp_snoc r y x]
    by_cases h1 : alike y p = true
    · rw [if_pos h1, if_pos h1]
    · rw [if_neg h1, if_neg h1]
      by_cases h2 : alike x (r.getLastD y) = true
      · rw [if_pos h2, if_pos h2]
      · rw [if_neg h2, if_neg h2]; rfl
theorem last_take {x : It} {r : List It} {j : Nat} (hj : j < r.length) : (r.take j).getLastD x = (x :: r)[j]'(by simp; omega) := by
  cases j with
  | zero => simp [List.getLastD]
  | succ j =>
    rw [List.getLastD_eq_getLast?, List.getLast?_eq_getElem?]
    simp only [List.length_take, Nat.min_eq_left (Nat.le_of_lt hj), Nat.add_sub_cancel, List.getElem_cons_succ]
    rw [List.getElem?_take_of_lt (by omega), List.getElem?_eq_getElem (by omega)]
    rfl
theorem dd_snoc {l : List It} {k : Nat} (h0 : 0 < k) (hk : k < l.length) : dd (l.take (k + 1)) = if alike l[k] (l[k - 1]'(by omega)) = true then dd (l.take k) else dd (l.take k) ++ [l[k]] := by
  cases l with
  | nil => simp at hk
  | cons x r =>
    obtain ⟨j, rfl⟩ : ∃ j, k = j + 1 := ⟨k - 1, by omega⟩
    have hj : j < r.length := by simpa using hk
    have e := last_take (x := x) hj
    rw [List.take_succ_cons, List.take_succ_cons, take_snoc' hj]
    show x :: ddp x (r.take j ++ [r[j]]) = if alike r[j] ((x :: r)[j]'(by simp; omega)) = true then x :: ddp x (r.take j) else (x :: ddp x (r.take j)) ++ [r[j]]
    rw [ddp_snoc, e]
    split <;> rfl
theorem dd_one {l : List It} (h : l.length < 2) : dd l = l := by
  match l, h with
  | [], _ => rfl
  | [x], _ => rfl
  | _ :: _ :: _, h => simp at h; omega
theorem ddp_len : ∀ (l : List It) (p : It), (ddp p l).length ≤ l.length
  | [], _ => by simp [ddp]
  | x :: r, p => by unfold ddp; split <;> simp <;> have := ddp_len r x <;> omega
theorem dd_len (l : List It) : (dd l).length ≤ l.length := by
  cases l with
  | nil => simp [dd]
  | cons x r => have := ddp_len r x; simp [dd]; omega
theorem drop_more {α : Type} {a b : List α} {n : Nat} (h : a.drop (n - 1) = b.drop (n - 1)) : a.drop n = b.drop n := by
  rcases Nat.eq_zero_or_pos n with rfl | hn
  · exact h
  · have := congrArg (List.drop 1) h
    rwa [List.drop_drop, List.drop_drop, Nat.sub_add_cancel hn] at this
theorem get_drop {α : Type} {a b : List α} {n i : Nat} (h : a.drop n = b.drop n) (hi : n ≤ i) (ha : i < a.length) (hb : i < b.length) : a[i] = b[i] := by
  have h1 : (a.drop n)[i - n]? = (b.drop n)[i - n]? := by rw [h]
  rw [List.getElem?_drop, List.getElem?_drop, Nat.add_sub_cancel' hi, List.getElem?_eq_getElem ha, List.getElem?_eq_getElem hb] at h1
  exact Option.some.inj h1
theorem get_same {α : Type} {a : List α} {i j : Nat} (h : i = j) (hi : i < a.length) (hj : j < a.length) : a[i] = a[j] := by subst h; rfl
theorem take_set_snoc {α : Type} {a : List α} {i : Nat} {x : α} (h : i < a.length) : (a.set i x).take (i + 1) = a.take i ++ [x] := by
  rw [List.take_succ_eq_append_getElem (by rw [List.length_set]; exact h), List.take_set_of_le (Nat.le_refl _), List.getElem_set_self]
/-! The first place of a list where something holds. -/
def fst_ (p : It → Bool) : List It → Nat
  | [] => 0
  | x :: r => if p x then 0 else fst_ p r + 1
theorem fst_le (p : It → Bool) : ∀ l, fst_ p l ≤ l.length
  | [] => by simp [fst_]
  | x :: r => by unfold fst_; split <;> simp; exact fst_le p r
theorem fst_app (p : It → Bool) (x : It) (hx : p x = true) : ∀ l, fst_ p (l ++ [x]) = fst_ p l
  | [] => by simp [fst_, hx]
  | y :: r => by simp only [List.cons_append, fst_, fst_app p x hx r]
theorem fst_at {p : It → Bool} : ∀ {l : List It} {k : Nat} (hk : k < l.length), p l[k] = true → (∀ j (hj : j < l.length), j < k → p l[j] = false) → fst_ p l = k
  | x :: r, 0, _, h, _ => by simp only [List.getElem_cons_zero] at h; simp [fst_, h]
  | x :: r, k + 1, hk, h, hn => by
    have h0 : p x = false := hn 0 (by simp) (by omega)
    have := fst_at (l := r) (k := k) (by simpa using hk) (by simpa using h) (fun j hj hjk => hn (j + 1) (by simpa using hj) (by omega))
    simp [fst_, h0, this]
theorem fst_none {p : It → Bool} : ∀ {l : List It}, (∀ j (hj : j < l.length), p l[j] = false) → fst_ p l = l.length
  | [], _ => rfl
  | x :: r, hn => by
    have h0 : p x = false := hn 0 (by simp)
    have := fst_none (l := r) (fun j hj => hn (j + 1) (by simpa using hj))
    simp [fst_, h0, this]
def bitB (at_ : Int) (x : It) : Bool := decide (bitI x.ix at_ = 1)
def idxF (at_ : Int) (l : List It) : Int := if fst_ (bitB at_) l < l.length then fst_ (bitB at_) l else -1
def onesH : H := fun _ => 255
def onesI : It := ⟨onesH, zeroH⟩
def onesN (k : Nat) : H := fun j => if j.val < k then 255 else 0
theorem ones_set {k : Nat} (hk : k < 32) : Pl.splice (hdv (onesN k)) k [.v (.int .u8 255)] = hdv (onesN (k + 1)) := by
  have := flat_set (enc := bdv) (sz := 1) (fun _ => rfl) (H.l (onesN k)) k 255 (by rw [H.l_len]; exact hk)
  rw [Nat.mul_one] at this
  unfold hdv
  rw [show ([DV.v (.int .u8 255)] : List DV) = bdv 255 from rfl, this]
  congr 1
  apply List.ext_getElem?
  intro i
  by_cases hi : i < 32
  · rw [List.getElem?_set, show (H.l (onesN (k + 1)))[i]? = some (onesN (k + 1) ⟨i, hi⟩) from H.l_get _ ⟨i, hi⟩, show (H.l (onesN k))[i]? = some (onesN k ⟨i, hi⟩) from H.l_get _ ⟨i, hi⟩]
    by_cases e : k = i
    · subst e; simp [H.l_len, hk, onesN]
    · rw [if_neg e]; simp only [onesN]; congr 1
      by_cases q : i < k
      · rw [if_pos q, if_pos (by omega)]
      · rw [if_neg q, if_neg (by omega)]
  · rw [List.getElem?_eq_none (by simp [H.l_len]; omega), List.getElem?_eq_none (by rw [H.l_len]; omega)]
theorem bit_ones : ∀ k : Fin 256, bitN onesH k.val = 1 := by decide +kernel
theorem ones_bit {at_ : Int} (h0 : 0 ≤ at_) (h1 : at_ < 256) : bitB at_ onesI = true := by
  obtain ⟨k, rfl⟩ : ∃ k : Nat, at_ = k := ⟨at_.toNat, by omega⟩
  have := bit_ones ⟨k, by omega⟩
  have e : bitI onesI.ix k = 1 := by
    rw [bitI_nat _ (by omega)]
    show ((bitN onesH k : Nat) : Int) = 1
    rw [this]; rfl
  exact decide_eq_true e
end Go.Proofs.Ythbcbfghfhecjaa
