/-
  Trees: entries as data.
-/
import Derived.Test.YthbcbfghfhecjaaTr
namespace Go.Proofs.Ythbcbfghfhecjaa
set_option linter.unusedVariables false
set_option linter.unusedSimpArgs false
open Go.RowKit Pl

def entD (nm : List UInt8) (ver key : Int) : List DV := [.v (.string ⟨⟨nm⟩⟩), .v (.int .i64 ver), .v (.int .u64 key)]
section
variable {P : Program} {C : Cx} {L : Lo} {Γ : Ga} {d : Nat} {ty : TypeId} {pos : String} {af : Array Edge} {gd : Option (Nat × Bool)}
theorem Pl.OT.eqht {xt yt : TypeId} {x y : Operand} {a b : H} (h : a = b) (hn : Nat.blt d C.n = true) (hx : evd L x = some (.ag (hdv a))) (hy : evd L y = some (.ag (hdv b))) (ht : eqT P xt = some hks) :
    OT P C ⟨some d, .binOp .eql xt x y yt, ty, pos, af, gd⟩ L Γ (upd L d (.f (.v (.bool true)))) Γ := by
  have := OT.eqh (P := P) (C := C) (Γ := Γ) (ty := ty) (pos := pos) (af := af) (gd := gd) (yt := yt) hn hx hy ht
  rwa [show decide (H.l a = H.l b) = true by rw [h]; simp] at this
theorem Pl.OT.neht {xt yt : TypeId} {x y : Operand} {a b : H} (h : H.l a ≠ H.l b) (hn : Nat.blt d C.n = true) (hx : evd L x = some (.ag (hdv a))) (hy : evd L y = some (.ag (hdv b))) (ht : eqT P xt = some hks) :
    OT P C ⟨some d, .binOp .neq xt x y yt, ty, pos, af, gd⟩ L Γ (upd L d (.f (.v (.bool true)))) Γ := by
  have := OT.neh (P := P) (C := C) (Γ := Γ) (ty := ty) (pos := pos) (af := af) (gd := gd) (yt := yt) hn hx hy ht
  rwa [show decide (¬ H.l a = H.l b) = true from decide_eq_true h] at this
theorem Pl.OT.nehf {xt yt : TypeId} {x y : Operand} {a b : H} (h : a = b) (hn : Nat.blt d C.n = true) (hx : evd L x = some (.ag (hdv a))) (hy : evd L y = some (.ag (hdv b))) (ht : eqT P xt = some hks) :
    OT P C ⟨some d, .binOp .neq xt x y yt, ty, pos, af, gd⟩ L Γ (upd L d (.f (.v (.bool false)))) Γ := by
  have := OT.neh (P := P) (C := C) (Γ := Γ) (ty := ty) (pos := pos) (af := af) (gd := gd) (yt := yt) hn hx hy ht
  rwa [show decide (¬ H.l a = H.l b) = false by rw [h]; simp] at this
theorem Pl.OT.neif {xt yt : TypeId} {x y : Operand} {a b : It} (h : a = b) (hn : Nat.blt d C.n = true) (hx : evd L x = some (.ag a.dv)) (hy : evd L y = some (.ag b.dv)) (ht : eqT P xt = some iks) :
    OT P C ⟨some d, .binOp .neq xt x y yt, ty, pos, af, gd⟩ L Γ (upd L d (.f (.v (.bool false)))) Γ := by
  have := OT.nei (P := P) (C := C) (Γ := Γ) (ty := ty) (pos := pos) (af := af) (gd := gd) (yt := yt) hn hx hy ht
  rwa [show decide (¬ iB a = iB b) = false by rw [h]; simp] at this
end
theorem rootH_def (l : List It) : belowH (256 + 1) 0 (setR l []) = rootH l := rfl
theorem setR_nil : setR [] [] = [] := rfl
theorem setR_one (x : It) : setR [x] [] = [x] := by
  show insR [] x = [x]
  unfold insR
  rw [if_neg (fun q => by simp at q)]
  rfl
theorem root_nil : rootH [] = emptyH := rfl
theorem root_one (x : It) : rootH [x] = leafH x := by unfold rootH; rw [setR_one]; rfl
theorem setR_self {x : List It} (h : Str x) : setR x [] = x := setR_of h (fun y hy => by simpa using hy) (fun y hy => by simpa using hy)
/-! Items of numbers. -/
def wdv (x : UInt16) : List DV := [.v (.int .u16 x.toNat)]
def h3 (a b : UInt8) : H := fun j => if j.val = 0 then a else if j.val = 2 then b else 0
def w2 (x : UInt16) : UInt16 := x >>> 2
def w7 (x : UInt16) : UInt16 := x >>> 7
def w8 (x : UInt16) : Int := ((x.toNat / 256 : Nat) : Int)
def b2 (x : UInt16) : UInt8 := (w2 x).toUInt8
def b240 (x : UInt16) : UInt8 := b2 x &&& 240
def b7 (x : UInt16) : UInt8 := (w7 x).toUInt8
def seatI0 (x : UInt16) : It := itemI [x.toUInt8] (w8 x) 1
def seatI (x : UInt16) : It := if x.toNat % 3 = 0 then ⟨h3 (b240 x) (b7 x), (seatI0 x).vl⟩ else seatI0 x
theorem map_snoc {l : List UInt16} {k : Nat} (h : k < l.length) : (l.take (k + 1)).map seatI = (l.take k).map seatI ++ [seatI l[k]] := by rw [take_snoc' h, List.map_append]; rfl
theorem u16_u8 (x : UInt16) : IntKind.u8.wrap ((x.toNat : Nat) : Int) = ((x.toUInt8.toNat : Nat) : Int) := by rw [IntKind.wrap_u8, UInt16.toNat_toUInt8]; omega
theorem u16_shr (x : UInt16) (k : Nat) (hk : k ≤ 16) : ((x.toNat : Nat) : Int).fdiv (2 ^ (min ((k : Nat) : Int).toNat IntKind.u16.bits)) = ((x.toNat / 2 ^ k : Nat) : Int) := by
  have : min ((k : Nat) : Int).toNat IntKind.u16.bits = k := by have : IntKind.u16.bits = 16 := rfl; rw [this]; omega
  have e : (2 : Int) ^ k = ((2 ^ k : Nat) : Int) := by rw [Int.natCast_pow]; rfl
  rw [this, e, Int.fdiv_eq_ediv_of_nonneg _ (Int.natCast_nonneg _), Int.natCast_ediv]
theorem u16_s8 (x : UInt16) : ((x.toNat : Nat) : Int).fdiv (2 ^ (min (8 : Int).toNat IntKind.u16.bits)) = w8 x := u16_shr x 8 (by decide)
theorem u16_hi (x : UInt16) : IntKind.i64.wrap (w8 x) = w8 x := by unfold w8; rw [IntKind.wrap_i64]; have := x.toNat_lt; omega
theorem u16_s2 (x : UInt16) : ((x.toNat : Nat) : Int).fdiv (2 ^ (min (2 : Int).toNat IntKind.u16.bits)) = (((w2 x).toNat : Nat) : Int) := by
  have h := u16_shr x 2 (by decide)
  rw [show (w2 x).toNat = x.toNat / 2 ^ 2 by unfold w2; rw [UInt16.toNat_shiftRight, Nat.shiftRight_eq_div_pow]; rfl]
  exact h
theorem u16_s7 (x : UInt16) : ((x.toNat : Nat) : Int).fdiv (2 ^ (min (7 : Int).toNat IntKind.u16.bits)) = (((w7 x).toNat : Nat) : Int) := by
  have h := u16_shr x 7 (by decide)
  rw [show (w7 x).toNat = x.toNat / 2 ^ 7 by unfold w7; rw [UInt16.toNat_shiftRight, Nat.shiftRight_eq_div_pow]; rfl]
  exact h
theorem u8_and (a b : UInt8) : IntKind.u8.wrap (BitVec.ofInt IntKind.u8.bits ((a.toNat : Nat) : Int) &&& BitVec.ofInt IntKind.u8.bits ((b.toNat : Nat) : Int)).toNat = (((a &&& b).toNat : Nat) : Int) := by
  have h1 : IntKind.u8.bits = 8 := rfl
  rw [h1]
  have ha := a.toNat_lt
  have hb := b.toNat_lt
  have : (BitVec.ofInt 8 ((a.toNat : Nat) : Int) &&& BitVec.ofInt 8 ((b.toNat : Nat) : Int)).toNat = (a &&& b).toNat := by
    rw [BitVec.toNat_and, UInt8.toNat_and, BitVec.ofInt_natCast, BitVec.ofInt_natCast, BitVec.toNat_ofNat, BitVec.toNat_ofNat, Nat.mod_eq_of_lt (by simpa using ha), Nat.mod_eq_of_lt (by simpa using hb)]
  have hab := (a &&& b).toNat_lt
  rw [this, IntKind.wrap_u8]; omega
def h40 : H := fun j => if j.val = 0 then 64 else 0
theorem bit40 : bitI h40 1 = 1 := by decide +kernel
theorem bit40' : bitI h40 300 = 0 := by decide +kernel
theorem leaf_ne : H.l (leafH (itemI [97] 1 2)) ≠ H.l emptyH := by decide +kernel
end Go.Proofs.Ythbcbfghfhecjaa
