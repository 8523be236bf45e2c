import Derived.Test.YtdjcclcejmeheaaGreatZGo
/-
  The first word of a value's hash, with natural numbers: for the kernel to compute.
-/
namespace Go.Proofs.YtdjcclcejmeheaaGreat
set_option linter.unusedVariables false
set_option linter.unusedSimpArgs false
open Go.RowKit Pl
set_option maxRecDepth 100000
def nrot (x n : Nat) : Nat := Nat.lor (Nat.mod (Nat.shiftLeft x (64 - n)) 18446744073709551616) (Nat.shiftRight x n)
def nturn (x a b : Nat) : Nat := Nat.xor (Nat.xor x (nrot x a)) (nrot x b)
def nchi (x y z : Nat) : Nat := Nat.xor x (Nat.land (Nat.xor 18446744073709551615 y) z)
structure NS where
  a : Nat
  b : Nat
  c : Nat
  d : Nat
  e : Nat
def nround (s : NS) (k : Nat) : NS :=
  let a := Nat.xor s.a s.e
  let b := s.b
  let c := Nat.xor (Nat.xor s.c k) s.b
  let d := s.d
  let e := Nat.xor s.e s.d
  let t0 := Nat.xor (nchi a b c) (nchi e a b)
  let t1 := Nat.xor (nchi b c d) (nchi a b c)
  let t2 := Nat.xor 18446744073709551615 (nchi c d e)
  let t3 := Nat.xor (nchi d e a) (nchi c d e)
  let t4 := nchi e a b
  ⟨nturn t0 19 28, nturn t1 61 39, nturn t2 1 6, nturn t3 10 17, nturn t4 7 41⟩
def npermN (s : NS) : Nat → NS
  | 0 => s
  | n + 1 => nround (npermN s n) (240 - 15 * n)
def nperm (s : NS) : NS := npermN s 12
def ninj (s : NS) (w : Nat) : NS := ⟨Nat.xor s.a w, s.b, s.c, s.d, s.e⟩
def ns0 : NS := nperm ⟨8800401358850, 0, 0, 0, 0⟩
def ns3 (v : Nat) : NS := nperm (ninj (nperm (ninj (nperm (ninj ns0 2166)) (256 * v))) 2048)
def fastW (v k : Nat) : Nat := (nperm (ninj (nperm (ninj (ns3 v) (256 * k))) 256)).a
def tabR (v r : Nat) : List Nat := (List.range 43).map (fun j => fastW v (1000 * v + (6 * j + r) + 1))
def dis (l m : List Nat) : Bool := l.all fun x => m.all fun y => !(Nat.beq x y)
theorem dis_of {l m : List Nat} (h : dis l m = true) {x y : Nat} (hx : x ∈ l) (hy : y ∈ m) : ¬ x = y := fun e => by
  have h1 := List.all_eq_true.1 (List.all_eq_true.1 h x hx) y hy
  subst e
  rw [Nat.beq_refl] at h1; cases h1
def Wd (n : Nat) : Prop := n < 18446744073709551616
theorem nxor_wd {a b : Nat} (ha : Wd a) (hb : Wd b) : Wd (Nat.xor a b) := Nat.xor_lt_two_pow (n := 64) ha hb
theorem bxor_n {a b : Nat} (ha : Wd a) (hb : Wd b) : bxor ((a : Nat) : Int) ((b : Nat) : Int) = ((Nat.xor a b : Nat) : Int) := u64_xor_nat a b ha hb
theorem max_wd : Wd 18446744073709551615 := by unfold Wd; decide
theorem bnot_n {a : Nat} (ha : Wd a) : bnot ((a : Nat) : Int) = ((Nat.xor 18446744073709551615 a : Nat) : Int) := bxor_n max_wd ha
theorem chi_n {x y z : Nat} (hx : Wd x) (hy : Wd y) (hz : Wd z) : chi ((x : Nat) : Int) ((y : Nat) : Int) ((z : Nat) : Int) = ((nchi x y z : Nat) : Int) ∧ Wd (nchi x y z) := by
  have h1 := nxor_wd max_wd hy
  have h2 : band ((Nat.xor 18446744073709551615 y : Nat) : Int) ((z : Nat) : Int) = ((Nat.land (Nat.xor 18446744073709551615 y) z : Nat) : Int) := u64_and_nat _ _ h1 hz
  have h3 : Wd (Nat.land (Nat.xor 18446744073709551615 y) z) := Nat.and_lt_two_pow (n := 64) _ hz
  unfold chi nchi
  rw [bnot_n hy, h2]
  exact ⟨bxor_n hx h3, nxor_wd hx h3⟩
theorem rotr_n {x n : Nat} (hx : Wd x) (hn : n ≤ 64) : rotr ((x : Nat) : Int) ((n : Nat) : Int) = ((nrot x n : Nat) : Int) ∧ Wd (nrot x n) := by
  have w1 : Wd (Nat.mod (Nat.shiftLeft x (64 - n)) 18446744073709551616) := Nat.mod_lt _ (by decide)
  have w2 : Wd (Nat.shiftRight x n) := by
    show x >>> n < _
    rw [Nat.shiftRight_eq_div_pow]
    exact Nat.lt_of_le_of_lt (Nat.div_le_self _ _) hx
  have e2 : IntKind.u64.wrap (((x : Nat) : Int) * 2 ^ (64 - ((n : Nat) : Int)).toNat) = ((Nat.mod (Nat.shiftLeft x (64 - n)) 18446744073709551616 : Nat) : Int) := by
    rw [show (64 - ((n : Nat) : Int)).toNat = 64 - n by omega, IntKind.wrap_u64]
    show _ = (((x <<< (64 - n)) % 18446744073709551616 : Nat) : Int)
    rw [Nat.shiftLeft_eq, Int.natCast_emod, Int.natCast_mul, Int.natCast_pow]; rfl
  have e3 : ((x : Nat) : Int) / 2 ^ ((n : Nat) : Int).toNat = ((Nat.shiftRight x n : Nat) : Int) := by
    rw [Int.toNat_natCast]
    show _ = ((x >>> n : Nat) : Int)
    rw [Nat.shiftRight_eq_div_pow, Int.natCast_ediv, Int.natCast_pow]; rfl
  unfold rotr nrot
  rw [e2, e3]
  exact ⟨u64_or_nat _ _ w1 w2, Nat.or_lt_two_pow (n := 64) w1 w2⟩
theorem turn_n {x a b : Nat} (hx : Wd x) (ha : a ≤ 64) (hb : b ≤ 64) : turnF ((x : Nat) : Int) ((a : Nat) : Int) ((b : Nat) : Int) = ((nturn x a b : Nat) : Int) ∧ Wd (nturn x a b) := by
  obtain ⟨e1, w1⟩ := rotr_n hx ha
  obtain ⟨e2, w2⟩ := rotr_n hx hb
  unfold turnF nturn
  rw [e1, e2]
  have e3 : bits .xor .u64 ((x : Nat) : Int) ((nrot x a : Nat) : Int) = ((Nat.xor x (nrot x a) : Nat) : Int) := u64_xor_nat _ _ hx w1
  rw [e3]
  exact ⟨u64_xor_nat _ _ (nxor_wd hx w1) w2, nxor_wd (nxor_wd hx w1) w2⟩
def NS.st (s : NS) : St := ⟨(s.a : Nat), (s.b : Nat), (s.c : Nat), (s.d : Nat), (s.e : Nat)⟩
def NS.ok (s : NS) : Prop := Wd s.a ∧ Wd s.b ∧ Wd s.c ∧ Wd s.d ∧ Wd s.e
theorem round_n {s : NS} (h : s.ok) {k : Nat} (hk : Wd k) : roundF s.st ((k : Nat) : Int) = (nround s k).st ∧ (nround s k).ok := by
  obtain ⟨a, b, c, d, e⟩ := s
  obtain ⟨ha, hb, hc, hd, he⟩ := h
  dsimp only at ha hb hc hd he
  have eA := bxor_n ha he
  have wA := nxor_wd ha he
  have eC1 := bxor_n hc hk
  have wC1 := nxor_wd hc hk
  have eC := bxor_n wC1 hb
  have wC := nxor_wd wC1 hb
  have eE := bxor_n he hd
  have wE := nxor_wd he hd
  obtain ⟨x1, y1⟩ := chi_n wA hb wC
  obtain ⟨x2, y2⟩ := chi_n wE wA hb
  obtain ⟨x3, y3⟩ := chi_n hb wC hd
  obtain ⟨x4, y4⟩ := chi_n wC hd wE
  obtain ⟨x5, y5⟩ := chi_n hd wE wA
  obtain ⟨r0, z0⟩ := turn_n (a := 19) (b := 28) (nxor_wd y1 y2) (by decide) (by decide)
  obtain ⟨r1, z1⟩ := turn_n (a := 61) (b := 39) (nxor_wd y3 y1) (by decide) (by decide)
  obtain ⟨r2, z2⟩ := turn_n (a := 1) (b := 6) (nxor_wd max_wd y4) (by decide) (by decide)
  obtain ⟨r3, z3⟩ := turn_n (a := 10) (b := 17) (nxor_wd y5 y4) (by decide) (by decide)
  obtain ⟨r4, z4⟩ := turn_n (a := 7) (b := 41) y2 (by decide) (by decide)
  refine ⟨?_, z0, z1, z2, z3, z4⟩
  show (⟨turnF (bxor (chi (bxor (a : Int) e) b (bxor (bxor (c : Int) k) b)) (chi (bxor (e : Int) d) (bxor (a : Int) e) b)) 19 28, turnF (bxor (chi b (bxor (bxor (c : Int) k) b) d) (chi (bxor (a : Int) e) b (bxor (bxor (c : Int) k) b))) 61 39, turnF (bnot (chi (bxor (bxor (c : Int) k) b) d (bxor (e : Int) d))) 1 6,
    turnF (bxor (chi d (bxor (e : Int) d) (bxor (a : Int) e)) (chi (bxor (bxor (c : Int) k) b) d (bxor (e : Int) d))) 10 17, turnF (chi (bxor (e : Int) d) (bxor (a : Int) e) b) 7 41⟩ : St) = _
  rw [eA, eC1, eC, eE, x1, x2, x3, x4, x5, bxor_n y1 y2, bxor_n y3 y1, bnot_n y4, bxor_n y5 y4]
  exact St.mk.injEq .. ▸ ⟨r0, r1, r2, r3, r4⟩
theorem permN_n {s : NS} (h : s.ok) : ∀ n, n ≤ 12 → permN s.st n = (npermN s n).st ∧ (npermN s n).ok
  | 0, _ => ⟨rfl, h⟩
  | n + 1, hn => by
    obtain ⟨e, w⟩ := permN_n h n (by omega)
    have q := round_n w (k := 240 - 15 * n) (by unfold Wd; omega)
    rw [show (((240 - 15 * n : Nat) : Nat) : Int) = 240 - 15 * ((n : Nat) : Int) by omega] at q
    unfold permN npermN
    rw [e]; exact q
theorem perm_n {s : NS} (h : s.ok) : permF s.st = (nperm s).st ∧ (nperm s).ok := permN_n h 12 (by decide)
theorem zero_wd : Wd 0 := by unfold Wd; decide
theorem st0_n : st0 = ns0.st ∧ ns0.ok := perm_n (s := ⟨8800401358850, 0, 0, 0, 0⟩) ⟨by unfold Wd; decide, zero_wd, zero_wd, zero_wd, zero_wd⟩
theorem absorb1_n {s : NS} (h : s.ok) {c : List UInt8} {w : Nat} (hw : Wd w) (hc : leNum c = ((w : Nat) : Int)) : absorb1 s.st c = (nperm (ninj s w)).st ∧ (nperm (ninj s w)).ok := by
  have q := perm_n (s := ninj s w) ⟨nxor_wd h.1 hw, h.2⟩
  have e := bxor_n h.1 hw
  unfold absorb1
  rw [hc]
  show permF ⟨bxor ((s.a : Nat) : Int) ((w : Nat) : Int), (s.b : Nat), (s.c : Nat), (s.d : Nat), (s.e : Nat)⟩ = _ ∧ _
  rw [e]; exact q
def valT (v k : Nat) : List UInt8 := textB 118 [numB ((v : Nat) : Int), numB ((k : Nat) : Int)]
theorem valT_pad (v k : Nat) : padB (valT v k) = byt 118 :: (numB 8 ++ (numB ((v : Nat) : Int) ++ (numB 8 ++ (numB ((k : Nat) : Int) ++ [1, 0, 0, 0, 0, 0, 0])))) := by
  have hl : (valT v k).length = 33 := by unfold valT textB lumpB; simp [numB_length]
  unfold padB
  rw [hl]
  show (valT v k ++ [1]) ++ [0, 0, 0, 0, 0, 0] = _
  unfold valT textB lumpB
  simp [numB_length]
theorem low7 (n : Nat) (h : n < 72057594037927936) (x : UInt8) (hx : x.toNat = 0) : leNum [x, byt (((n : Nat) : Int) % 256), byt (((n : Nat) : Int) / 256 % 256), byt (((n : Nat) : Int) / 65536 % 256), byt (((n : Nat) : Int) / 16777216 % 256), byt (((n : Nat) : Int) / 4294967296 % 256), byt (((n : Nat) : Int) / 1099511627776 % 256), byt (((n : Nat) : Int) / 281474976710656 % 256)] = ((256 * n : Nat) : Int) := by
  simp only [leNum]
  rw [hx, byt_nat _ (by omega) (by omega), byt_nat _ (by omega) (by omega), byt_nat _ (by omega) (by omega), byt_nat _ (by omega) (by omega), byt_nat _ (by omega) (by omega), byt_nat _ (by omega) (by omega), byt_nat _ (by omega) (by omega)]
  omega
theorem top1 (n : Nat) (h : n < 72057594037927936) (r : List UInt8) : leNum (byt (((n : Nat) : Int) / 72057594037927936 % 256) :: r) = 256 * leNum r := by
  simp only [leNum]
  rw [byt_nat _ (by omega) (by omega), show ((n : Nat) : Int) / 72057594037927936 = 0 by omega]
  omega
theorem absorb_n (v k : Nat) (hv : v < 72057594037927936) (hk : k < 72057594037927936) : (absorb (valT v k)).a = ((fastW v k : Nat) : Int) ∧ Wd (fastW v k) := by
  have w0 : leNum (((padB (valT v k)).drop (8 * 0)).take 8) = ((2166 : Nat) : Int) := by
    rw [valT_pad]; show leNum [byt 118, byt (8 % 256), byt (8 / 256 % 256), byt (8 / 65536 % 256), byt (8 / 16777216 % 256), byt (8 / 4294967296 % 256), byt (8 / 1099511627776 % 256), byt (8 / 281474976710656 % 256)] = _
    decide +kernel
  have w1 : leNum (((padB (valT v k)).drop (8 * 1)).take 8) = ((256 * v : Nat) : Int) := by
    rw [valT_pad]; exact low7 v hv (byt (8 / 72057594037927936 % 256)) (by decide +kernel)
  have w2 : leNum (((padB (valT v k)).drop (8 * 2)).take 8) = ((2048 : Nat) : Int) := by
    rw [valT_pad]
    have q := top1 v hv [byt (8 % 256), byt (8 / 256 % 256), byt (8 / 65536 % 256), byt (8 / 16777216 % 256), byt (8 / 4294967296 % 256), byt (8 / 1099511627776 % 256), byt (8 / 281474976710656 % 256)]
    refine (Eq.trans (by rfl) q).trans ?_
    decide +kernel
  have w3 : leNum (((padB (valT v k)).drop (8 * 3)).take 8) = ((256 * k : Nat) : Int) := by
    rw [valT_pad]; exact low7 k hk (byt (8 / 72057594037927936 % 256)) (by decide +kernel)
  have w4 : leNum (((padB (valT v k)).drop (8 * 4)).take 8) = ((256 : Nat) : Int) := by
    rw [valT_pad]
    have q := top1 k hk [1, 0, 0, 0, 0, 0, 0]
    refine (Eq.trans (by rfl) q).trans ?_
    decide +kernel
  obtain ⟨e0, o0⟩ := st0_n
  obtain ⟨e1, o1⟩ := absorb1_n o0 (by unfold Wd; decide) w0
  obtain ⟨e2, o2⟩ := absorb1_n o1 (by unfold Wd; omega) w1
  obtain ⟨e3, o3⟩ := absorb1_n o2 (by unfold Wd; decide) w2
  obtain ⟨e4, o4⟩ := absorb1_n o3 (by unfold Wd; omega) w3
  obtain ⟨e5, o5⟩ := absorb1_n o4 (by unfold Wd; decide) w4
  have hl : (padB (valT v k)).length / 8 = 5 := by rw [valT_pad]; simp [numB_length]
  unfold absorb
  rw [hl]
  show (absorb1 (absorb1 (absorb1 (absorb1 (absorb1 st0 _) _) _) _) _).a = _ ∧ _
  rw [e0, e1, e2, e3, e4, e5]
  exact ⟨rfl, o5.1⟩
theorem val_word {v k v' k' : Nat} (hv : v < 72057594037927936) (hk : k < 72057594037927936) (hv' : v' < 72057594037927936) (hk' : k' < 72057594037927936) (h : H.l (valueH ((v : Nat) : Int) ((k : Nat) : Int)) = H.l (valueH ((v' : Nat) : Int) ((k' : Nat) : Int))) : fastW v k = fastW v' k' := by
  have key : ∀ (v k : Nat), v < 72057594037927936 → H.l (valueH ((v : Nat) : Int) ((k : Nat) : Int)) = sumB (valT v k) := fun v k hv => by
    unfold valueH tagH valT
    rw [show u64w ((v : Nat) : Int) = ((v : Nat) : Int) by unfold u64w; omega]
    exact ofL_l (sumB_length _)
  rw [key v k hv, key v' k' hv'] at h
  obtain ⟨e1, w1⟩ := absorb_n v k hv hk
  obtain ⟨e2, w2⟩ := absorb_n v' k' hv' hk'
  have t : ∀ l, leNum ((sumB l).take 8) = leNum (numB (absorb l).a) := fun l => rfl
  have q : leNum ((sumB (valT v k)).take 8) = leNum ((sumB (valT v' k')).take 8) := by rw [h]
  unfold Wd at w1 w2
  rw [t, t, e1, e2, leNum_numB _ (by omega) (by omega), leNum_numB _ (by omega) (by omega)] at q
  omega
theorem fast_mem (v b : Nat) (hb : b < 256) : fastW v (1000 * v + b + 1) ∈ tabR v (b % 6) := by
  unfold tabR
  rw [List.mem_map]
  exact ⟨b / 6, List.mem_range.2 (by omega), by rw [show 6 * (b / 6) + b % 6 = b by omega]⟩
end Go.Proofs.YtdjcclcejmeheaaGreat

