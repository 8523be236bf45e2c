/-
  The laws' indices and bent proofs: plain words.
-/
import Derived.Test.YtejhgijjegnmnaaZFk
namespace Go.Proofs.Ytejhgijjegnmnaa
set_option linter.unusedVariables false
set_option linter.unusedSimpArgs false
open Go.RowKit Pl
def hB (h : H) (j : Nat) : UInt8 := if hk : j < 32 then h ⟨j, hk⟩ else 0
def xorAt (h : H) (j : Nat) (m : UInt8) : H := setH h j (hB h j ^^^ m)
theorem hB_at (h : H) {k : Nat} (hk : k < 32) : (hdv h)[k]? = some (.v (.int .u8 (((hB h k).toNat : Nat) : Int))) := by
  rw [hdv_byte h hk]; unfold byteN hB; simp only [dif_pos hk]
theorem xor_set (h : H) {k : Nat} (hk : k < 32) (m : UInt8) : Pl.splice (hdv h) k [.v (.int .u8 (((hB h k ^^^ m).toNat : Nat) : Int))] = hdv (xorAt h k m) := splice_set h hk _
theorem u8_xor (a b : UInt8) : IntKind.u8.wrap (BitVec.ofInt IntKind.u8.bits ((a.toNat : Nat) : Int) ^^^ BitVec.ofInt IntKind.u8.bits ((b.toNat : Nat) : Int)).toNat = (((a ^^^ b).toNat : Nat) : Int) := by
  have h1 : IntKind.u8.bits = 8 := rfl
  rw [h1]
  have ha := a.toNat_lt
  have hb := b.toNat_lt
  have : (BitVec.ofInt 8 ((a.toNat : Nat) : Int) ^^^ BitVec.ofInt 8 ((b.toNat : Nat) : Int)).toNat = (a ^^^ b).toNat := by
    rw [BitVec.toNat_xor, UInt8.toNat_xor, BitVec.ofInt_natCast, BitVec.ofInt_natCast, BitVec.toNat_ofNat, BitVec.toNat_ofNat, Nat.mod_eq_of_lt (by simpa using ha), Nat.mod_eq_of_lt (by simpa using hb)]
  rw [this, IntKind.wrap_u8]
  have := (a ^^^ b).toNat_lt
  omega
def mU (k : UInt16) : UInt8 := UInt8.ofNat (2 ^ (k.toNat / 16 % 8))
theorem mU_shl (k : UInt16) : IntKind.u8.wrap (1 * 2 ^ (min ((k.toNat / 16 % 8 : Nat) : Int).toNat IntKind.u8.bits)) = (((mU k).toNat : Nat) : Int) := by
  have : ∀ c : Fin 8, IntKind.u8.wrap (1 * 2 ^ (min ((c.val : Nat) : Int).toNat IntKind.u8.bits)) = (((UInt8.ofNat (2 ^ c.val)).toNat : Nat) : Int) := by decide
  exact this ⟨k.toNat / 16 % 8, by omega⟩
theorem emod_nat {a b : Nat} : ((a : Nat) : Int).tmod ((b : Nat) : Int) = ((a % b : Nat) : Int) := by
  rw [Int.tmod_eq_emod_of_nonneg (Int.natCast_nonneg _)]; exact (Int.natCast_emod _ _).symm
theorem ediv_nat {a b : Nat} : ((a : Nat) : Int).tdiv ((b : Nat) : Int) = ((a / b : Nat) : Int) := by
  rw [Int.tdiv_eq_ediv_of_nonneg (Int.natCast_nonneg _)]; exact (Int.natCast_ediv _ _).symm
def ixA (x : H) (k : UInt16) : H := if k.toNat % 4 = 1 then xorAt x 31 1 else x
def ixB (x : H) (k : UInt16) : H := if k.toNat % 4 = 2 then xorAt (ixA x k) (k.toNat / 64 % 3) (mU k) else ixA x k
/-- The laws' index of a number. -/
def indexV (l : List It) (k : UInt16) (raw : H) : H := if l.length = 0 ∨ k.toNat % 4 = 0 then raw else ixB (l.getD (k.toNat / 4 % l.length) zeroIt).ix k
theorem indexV_raw {l : List It} {k : UInt16} {raw : H} (h : l.length = 0 ∨ k.toNat % 4 = 0) : indexV l k raw = raw := if_pos h
theorem indexV_at {l : List It} {k : UInt16} {raw : H} {x : It} (h0 : ¬ l.length = 0) (h1 : ¬ k.toNat % 4 = 0) (hq : k.toNat / 4 % l.length < l.length) (hx : l[k.toNat / 4 % l.length] = x) : indexV l k raw = ixB x.ix k := by
  unfold indexV
  rw [if_neg (by omega), List.getD_eq_getElem?_getD, List.getElem?_eq_getElem hq, hx]; rfl
/-- A bent proof. -/
def bentV (p : Pf) (w a : UInt8) (h : H) : Pf :=
  if w.toNat % 7 = 0 then ⟨p.path ++ [h], p.en, p.it⟩ else if w.toNat % 7 = 1 then ⟨p.path.set (a.toNat % p.path.length) h, p.en, p.it⟩ else if w.toNat % 7 = 2 then ⟨p.path.take (a.toNat % p.path.length), p.en, p.it⟩ else
  if w.toNat % 7 = 3 then ⟨p.path, ((a.toNat % 5 : Nat) : Int) - 1, p.it⟩ else if w.toNat % 7 = 4 then ⟨p.path, p.en, ⟨h, p.it.vl⟩⟩ else if w.toNat % 7 = 5 then ⟨p.path, p.en, ⟨p.it.ix, h⟩⟩ else ⟨p.path, 0, zeroIt⟩
theorem bent0 {p : Pf} {w a : UInt8} {h : H} (c0 : w.toNat % 7 = 0) : bentV p w a h = ⟨p.path ++ [h], p.en, p.it⟩ := if_pos c0
theorem bent1 {p : Pf} {w a : UInt8} {h : H} (c0 : ¬ w.toNat % 7 = 0) (c1 : w.toNat % 7 = 1) : bentV p w a h = ⟨p.path.set (a.toNat % p.path.length) h, p.en, p.it⟩ := by unfold bentV; rw [if_neg c0, if_pos c1]
theorem bent2 {p : Pf} {w a : UInt8} {h : H} (c0 : ¬ w.toNat % 7 = 0) (c1 : ¬ w.toNat % 7 = 1) (c2 : w.toNat % 7 = 2) : bentV p w a h = ⟨p.path.take (a.toNat % p.path.length), p.en, p.it⟩ := by unfold bentV; rw [if_neg c0, if_neg c1, if_pos c2]
theorem bent3 {p : Pf} {w a : UInt8} {h : H} (c0 : ¬ w.toNat % 7 = 0) (c1 : ¬ w.toNat % 7 = 1) (c2 : ¬ w.toNat % 7 = 2) (c3 : w.toNat % 7 = 3) : bentV p w a h = ⟨p.path, ((a.toNat % 5 : Nat) : Int) - 1, p.it⟩ := by unfold bentV; rw [if_neg c0, if_neg c1, if_neg c2, if_pos c3]
theorem bent4 {p : Pf} {w a : UInt8} {h : H} (c0 : ¬ w.toNat % 7 = 0) (c1 : ¬ w.toNat % 7 = 1) (c2 : ¬ w.toNat % 7 = 2) (c3 : ¬ w.toNat % 7 = 3) (c4 : w.toNat % 7 = 4) : bentV p w a h = ⟨p.path, p.en, ⟨h, p.it.vl⟩⟩ := by unfold bentV; rw [if_neg c0, if_neg c1, if_neg c2, if_neg c3, if_pos c4]
theorem bent5 {p : Pf} {w a : UInt8} {h : H} (c0 : ¬ w.toNat % 7 = 0) (c1 : ¬ w.toNat % 7 = 1) (c2 : ¬ w.toNat % 7 = 2) (c3 : ¬ w.toNat % 7 = 3) (c4 : ¬ w.toNat % 7 = 4) (c5 : w.toNat % 7 = 5) : bentV p w a h = ⟨p.path, p.en, ⟨p.it.ix, h⟩⟩ := by unfold bentV; rw [if_neg c0, if_neg c1, if_neg c2, if_neg c3, if_neg c4, if_pos c5]
theorem bent6 {p : Pf} {w a : UInt8} {h : H} (c0 : ¬ w.toNat % 7 = 0) (c1 : ¬ w.toNat % 7 = 1) (c2 : ¬ w.toNat % 7 = 2) (c3 : ¬ w.toNat % 7 = 3) (c4 : ¬ w.toNat % 7 = 4) (c5 : ¬ w.toNat % 7 = 5) : bentV p w a h = ⟨p.path, 0, zeroIt⟩ := by unfold bentV; rw [if_neg c0, if_neg c1, if_neg c2, if_neg c3, if_neg c4, if_neg c5]
theorem path_set (xs : List H) {k : Nat} (hk : k < xs.length) (h : H) : Pl.splice (xs.flatMap hdv) (k * 32) (hdv h) = (xs.set k h).flatMap hdv := flat_set (enc := hdv) (sz := 32) (fun _ => rfl) xs k h hk
end Go.Proofs.Ytejhgijjegnmnaa

