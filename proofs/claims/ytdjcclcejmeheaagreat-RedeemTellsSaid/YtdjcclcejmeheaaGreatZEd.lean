import Derived.Test.YtdjcclcejmeheaaGreatZFj
import Derived.Test.YtdjcclcejmeheaaGreatZBm
import Derived.Test.YtdjcclcejmeheaaGreatZHc
import Derived.Test.YtdjcclcejmeheaaGreatZGc
import Derived.Test.YtdjcclcejmeheaaGreatZEc
/-
  Proofs come back from their bytes, and from no shorter or longer ones: plain words.
-/
namespace Go.Proofs.YtdjcclcejmeheaaGreat
set_option linter.unusedVariables false
set_option linter.unusedSimpArgs false
open Go.RowKit Pl
theorem stK_app (path : List H) (t : List UInt8) : ∀ k, k ≤ path.length → stK (path.flatMap H.l ++ t, 0) k = ((path.drop k).flatMap H.l ++ t, 0) ∧ hsK (path.flatMap H.l ++ t, 0) k = path.take k
  | 0, _ => ⟨rfl, rfl⟩
  | k + 1, h => by
    obtain ⟨h1, h2⟩ := stK_app path t k (by omega)
    have hk : k < path.length := by omega
    rw [stK, hsK, h1, h2, List.drop_eq_getElem_cons hk, List.flatMap_cons, List.append_assoc, rdH_app, rdS_app _ _ (H.l_len _), take_snoc' hk]
    exact ⟨rfl, rfl⟩
theorem stK_path (path : List H) (t : List UInt8) : stK (path.flatMap H.l ++ t, 0) path.length = (t, 0) ∧ hsK (path.flatMap H.l ++ t, 0) path.length = path := by
  obtain ⟨h1, h2⟩ := stK_app path t path.length (Nat.le_refl _)
  rw [h1, h2, List.drop_length, List.take_length]
  exact ⟨rfl, rfl⟩
/-- A proof's bytes and more behind them. -/
theorem read_put (p : Pf) (t : List UInt8) (hl : p.path.length ≤ 256) (h0 : 0 ≤ p.en) (h2 : p.en ≤ 2) : readP (putB p ++ t) = if t = [] then (p, 0) else (zeroP, 20) := by
  have e : putB p ++ t = numB (p.path.length : Int) ++ (p.path.flatMap H.l ++ (numB (u64w p.en) ++ (H.l p.it.ix ++ (H.l p.it.vl ++ t)))) := by
    rw [← putB_app]; unfold putK; rw [List.take_length]; simp only [List.append_assoc]
  have hu : u64w p.en = p.en := by unfold u64w; omega
  rw [hu] at e
  have e1 : rdS (putB p ++ t, 0) 8 = (p.path.flatMap H.l ++ (numB p.en ++ (H.l p.it.ix ++ (H.l p.it.vl ++ t))), 0) := by rw [e]; exact rdS_app _ _ (numB_len _)
  have e2 : rdN (putB p ++ t, 0) = (p.path.length : Int) := by rw [e, rdN_app _ _ (numB_len _), leNum_numB _ (by omega) (by omega)]
  rw [readP_ok (by rw [e1]) (by rw [e2]; omega), e1, e2, Int.toNat_natCast]
  obtain ⟨k1, k2⟩ := stK_path p.path (numB p.en ++ (H.l p.it.ix ++ (H.l p.it.vl ++ t)))
  have en : rdN (numB p.en ++ (H.l p.it.ix ++ (H.l p.it.vl ++ t)), 0) = p.en := by rw [rdN_app _ _ (numB_len _), leNum_numB _ (by omega) (by omega)]
  have tl : tlS (p.path.flatMap H.l ++ (numB p.en ++ (H.l p.it.ix ++ (H.l p.it.vl ++ t))), 0) p.path.length = (t, 0) := by
    unfold tlS; rw [k1, rdS_app _ _ (numB_len _), rdS_app _ _ (H.l_len _), rdS_app _ _ (H.l_len _)]
  by_cases ht : t = []
  · rw [if_pos ht, readE_ok (by rw [tl]) (by rw [k1, en]; omega) (by rw [tl, ht]; simp), k1, k2, en, rdS_app _ _ (numB_len _), rdH_app, rdS_app _ _ (H.l_len _), rdH_app]
  · rw [if_neg ht, readE_form (by rw [tl]) (.inr (by rw [tl]; exact List.length_pos_iff.2 ht))]
end Go.Proofs.YtdjcclcejmeheaaGreat
/-
  The laws' indices and bent proofs: plain words.
-/
namespace Go.Proofs.YtdjcclcejmeheaaGreat
set_option linter.unusedVariables false
set_option linter.unusedSimpArgs false
open Go.RowKit Pl
def hB (h : H) (j : Nat) : UInt8 := if hk : j < 32 then h ⟨j, hk⟩ else 0
theorem u8_xor (a b : UInt8) : IntKind.u8.wrap (BitVec.ofInt IntKind.u8.bits ((a.toNat : Nat) : Int) ^^^ BitVec.ofInt IntKind.u8.bits ((b.toNat : Nat) : Int)).toNat = (((a ^^^ b).toNat : Nat) : Int) := by
  have h1 : IntKind.u8.bits = 8 := rfl
  rw [h1]
  have ha := a.toNat_lt
  have hb := b.toNat_lt
  have : (BitVec.ofInt 8 ((a.toNat : Nat) : Int) ^^^ BitVec.ofInt 8 ((b.toNat : Nat) : Int)).toNat = (a ^^^ b).toNat := by
    rw [BitVec.toNat_xor, UInt8.toNat_xor, BitVec.ofInt_natCast, BitVec.ofInt_natCast, BitVec.toNat_ofNat, BitVec.toNat_ofNat, Nat.mod_eq_of_lt (by simpa using ha), Nat.mod_eq_of_lt (by simpa using hb)]
  rw [this, IntKind.wrap_u8]
  have := (a ^^^ b).toNat_lt
  omega
theorem emod_nat {a b : Nat} : ((a : Nat) : Int).tmod ((b : Nat) : Int) = ((a % b : Nat) : Int) := by
  rw [Int.tmod_eq_emod_of_nonneg (Int.natCast_nonneg _)]; exact (Int.natCast_emod _ _).symm
end Go.Proofs.YtdjcclcejmeheaaGreat
/-
  What is known of the least trees' proofs.
-/
namespace Go.Proofs.YtdjcclcejmeheaaGreat
set_option linter.unusedVariables false
set_option linter.unusedSimpArgs false
open Go.RowKit Pl
end Go.Proofs.YtdjcclcejmeheaaGreat
/-
  Proofs that come in; what the laws of proofs use besides.
-/
namespace Go.Proofs.YtdjcclcejmeheaaGreat
set_option linter.unusedVariables false
set_option linter.unusedSimpArgs false
set_option maxRecDepth 20000
open Go.RowKit Pl
end Go.Proofs.YtdjcclcejmeheaaGreat
/-
  What a set's own items' proofs prove.
-/
namespace Go.Proofs.YtdjcclcejmeheaaGreat
set_option linter.unusedVariables false
set_option linter.unusedSimpArgs false
open Go.RowKit Pl
theorem check_mine {X : List It} (hs : Str X) {x : It} (hx : x ∈ X) : checkV (rootH X) x.ix (mkP x.ix X) = (x.vl, true, true) := by
  obtain ⟨h1, h2, h3, h4, _⟩ := mkP_all (ix := x.ix) hs
  have e := check_made x.ix X
  rw [setR_self hs, if_pos (thereB_iff.2 ⟨x, hx, rfl⟩), h4 x hx rfl] at e
  exact e
end Go.Proofs.YtdjcclcejmeheaaGreat
/-
  Aggregates compared, in general; heads compared; what comes in as a head; what is known of a head; bent heads: the plain values.
-/
namespace Go.Proofs.YtdjcclcejmeheaaGreat
set_option linter.unusedVariables false
set_option linter.unusedSimpArgs false
open Go.RowKit Pl
set_option maxRecDepth 100000
section
variable {P : Program} {C : Cx} {L : Lo} {Γ : Ga} {d : Nat} {ty : TypeId} {pos : String} {af : Array Edge} {gd : Option (Nat × Bool)}
end
def hdFit (h : Hd) : Prop := (-9223372036854775808 ≤ h.ep ∧ h.ep < 9223372036854775808) ∧ (-9223372036854775808 ≤ h.tk ∧ h.tk < 9223372036854775808) ∧ (-9223372036854775808 ≤ h.ct ∧ h.ct < 9223372036854775808) ∧ h.ok
theorem right_fit {h : Hd} (r : rightH h = true) (ho : h.ok) : hdFit h := by
  unfold rightH at r; simp only [decide_eq_true_eq] at r
  exact ⟨by omega, by omega, by omega, ho⟩
theorem fit_sign {h : Hd} (x : Int) (f : hdFit h) : hdFit (signH x h) := ⟨f.1, f.2.1, f.2.2.1, signH_ok x h⟩
theorem check_own' {x : Int} (hx : u64I x) {h : Hd} (r : rightH h = true) : checkH (pubF x) (signH x h) = true := by
  have r' : rightH (signH x h) = true := r
  rw [checkH_yes r']
  have q := check_own (x % 2305843009213693950) (msgB h) (Int.emod_nonneg _ (by decide)) (Int.emod_lt_of_pos _ (by decide))
  rw [pub_mod] at q
  exact q
end Go.Proofs.YtdjcclcejmeheaaGreat
/-
  HeadTells: what is known of a head, the seat's heads: the plain values.
-/
namespace Go.Proofs.YtdjcclcejmeheaaGreat
set_option linter.unusedVariables false
set_option linter.unusedSimpArgs false
open Go.RowKit Pl
set_option maxRecDepth 100000
def h0 : Hd := ⟨1, 3, 2, zeroH, zeroH, 0, 0⟩
theorem fpf (a n v : Nat) (hn : n < 2 ^ 64) (h : Ferm.fast 2305843009213693951 64 a n 1 % 2305843009213693951 = v) : fpow a n 2305843009213693951 = v := by
  rw [fpow_fast a n 2305843009213693951 2305843009213693951 rfl hn, h]
theorem kk : signK 5 (msgB h0) = 2256388873466879314 := by decide +kernel
theorem kr : sigR 5 (msgB h0) = 2252218261899658469 := by
  unfold sigR; rw [kk]
  exact fpf 7 2256388873466879314 2252218261899658469 (by decide) (by decide +kernel)
theorem kp5 : pubF 5 = 16807 := by decide +kernel
theorem ke5 : chalF 2252218261899658469 16807 (msgB h0) = 1462272069247183120 := by decide +kernel
theorem ks : sigS 5 (msgB h0) = 344377182848019114 := by
  unfold sigS sigE; rw [kk, kr, kp5, ke5]; decide +kernel
theorem right_sign (x : Int) (h : Hd) : rightH (signH x h) = rightH h := rfl
theorem badN_no {kn : List Kn} {hs : List Hd} {b : List En} {tk : Int} (h : badN kn hs b tk = false) : (addR kn ((hs.length + 1 : Nat) : Int) b).2 = true ∧ 1 ≤ b.length ∧ b.length ≤ 8 ∧ 0 ≤ tk ∧ tk ≤ 1152921504606846976 ∧ (0 < hs.length → (hs.getLastD zeroHd).tk ≤ tk) := by
  unfold badN at h
  simp only [Bool.or_eq_false_iff, Bool.not_eq_false', decide_eq_false_iff_not, Bool.and_eq_false_iff] at h
  obtain ⟨h1, h2, h3, h4, h5, h6⟩ := h
  exact ⟨h1, by omega, by omega, by omega, by omega, fun hp => h6.elim (fun q => absurd q (by omega)) (fun q => by omega)⟩
theorem headN_right {kn : List Kn} {hs : List Hd} {b : List En} {tk : Int} (h : badN kn hs b tk = false) (hl : hs.length ≤ 1000000) : rightH (headN kn hs b tk) = true := by
  obtain ⟨_, h2, h3, h4, h5, _⟩ := badN_no h
  unfold rightH headN
  simp only [decide_eq_true_eq]
  omega
theorem epsR_right (x : Int) (l : List UInt8) (hl : l.length ≤ 1000) : ∀ h ∈ (epsR x l).hs, rightH h = true ∧ h.ok := by
  have : ∀ (k : Nat), k ≤ l.length → ∀ h ∈ (epsR x (l.take k)).hs, rightH h = true ∧ h.ok := fun k => by
    induction k with
    | zero => intro _ h hh; cases hh
    | succ k ih =>
      intro hk h hh
      have hok := epsR_ok x (l.take k)
      have h1 := hok.hs
      rw [List.length_take, Nat.min_eq_left (by omega)] at h1
      rw [epsR_snoc x (by omega : k < l.length)] at hh
      unfold epS at hh
      split at hh
      · exact ih (by omega) h hh
      · rename_i hb
        rcases List.mem_append.1 hh with hh | hh
        · exact ih (by omega) h hh
        · rw [List.mem_singleton] at hh; subst hh
          have hb' := Bool.eq_false_iff.2 hb
          have hr := headN_right hb' (by omega)
          exact ⟨by rw [right_sign]; exact hr, signH_ok _ _⟩
  have := this l.length (Nat.le_refl _)
  rwa [List.take_length] at this
def udv (n : Int) : List DV := [.v (.int .u64 n)]
end Go.Proofs.YtdjcclcejmeheaaGreat
/-
  The directory's plain law: a batch's order does not matter.
-/
namespace Go.Proofs.YtdjcclcejmeheaaGreat
set_option linter.unusedVariables false
set_option linter.unusedSimpArgs false
open Go.RowKit Pl
theorem if_iff {α : Type} {p q : Prop} [Decidable p] [Decidable q] {a b c d : α} (h : p ↔ q) (h1 : a = c) (h2 : b = d) : (if p then a else b) = if q then c else d := by
  subst h1; subst h2
  by_cases hp : p
  · rw [if_pos hp, if_pos (h.1 hp)]
  · rw [if_neg hp, if_neg (fun x => hp (h.2 x))]
def okOne (l : List Kn) (e : En) : Prop := rightE e.nm e.ver e.key = true ∧ e.ver = i64w ((latR l e.nm).1.ver + 1)
def okAll (l : List Kn) (b : List En) : Prop := (∀ e ∈ b, okOne l e) ∧ b.Pairwise (fun x y => ¬ x.nm = y.nm)
open Classical in
theorem addGo_if {l : List Kn} {ep : Int} : ∀ (r done : List En) (out : List Kn), addGo l ep done r out = if (∀ e ∈ r, okOne l e) ∧ r.Pairwise (fun x y => ¬ x.nm = y.nm) ∧ (∀ d ∈ done, ∀ e ∈ r, ¬ d.nm = e.nm) then (r.foldl (fun o e => insK e ep o) out, true) else (l, false)
  | [], done, out => by simp [addGo]
  | e :: r, done, out => by
    unfold addGo
    by_cases h : rightE e.nm e.ver e.key = true ∧ e.ver = i64w ((latR l e.nm).1.ver + 1) ∧ (∀ d ∈ done, ¬ d.nm = e.nm)
    · rw [if_pos h, addGo_if r (done ++ [e])]
      refine if_iff ⟨fun ⟨q1, q2, q3⟩ => ⟨?_, ?_, ?_⟩, fun ⟨q1, q2, q3⟩ => ⟨fun x hx => q1 x (List.mem_cons_of_mem _ hx), (List.pairwise_cons.1 q2).2, ?_⟩⟩ rfl rfl
      · intro x hx
        rcases List.mem_cons.1 hx with rfl | hx
        · exact ⟨h.1, h.2.1⟩
        · exact q1 x hx
      · exact List.pairwise_cons.2 ⟨fun x hx => q3 e (by simp) x hx, q2⟩
      · intro d hd x hx
        rcases List.mem_cons.1 hx with rfl | hx
        · exact h.2.2 d hd
        · exact q3 d (List.mem_append_left _ hd) x hx
      · intro d hd x hx
        rcases List.mem_append.1 hd with hd | hd
        · exact q3 d hd x (List.mem_cons_of_mem _ hx)
        · rw [List.mem_singleton] at hd; subst hd; exact (List.pairwise_cons.1 q2).1 x hx
    · rw [if_neg h, if_neg]
      rintro ⟨q1, q2, q3⟩
      exact h ⟨(q1 e (by simp)).1, (q1 e (by simp)).2, fun d hd => q3 d hd e (by simp)⟩
open Classical in
theorem addR_if {l : List Kn} {ep : Int} {b : List En} : addR l ep b = if ¬ (ep < 1 ∨ (∃ k ∈ l, ep ≤ k.ep)) ∧ okAll l b then (b.foldl (fun o e => insK e ep o) l, true) else (l, false) := by
  unfold addR
  by_cases h : ep < 1 ∨ ∃ k ∈ l, ep ≤ k.ep
  · rw [if_pos h, if_neg (fun q => q.1 h)]
  · rw [if_neg h, addGo_if]
    refine if_iff ⟨fun q => ⟨h, q.1, q.2.1⟩, fun q => ⟨q.2.1, q.2.2, fun d hd => by cases hd⟩⟩ rfl rfl
theorem ltK_irrefl {k : Kn} (h : ltK k k) : False := ltN_irrefl h
theorem srtK_unique : ∀ {a b : List Kn}, SrtK a → SrtK b → (∀ k, k ∈ a ↔ k ∈ b) → a = b
  | [], [], _, _, _ => rfl
  | [], y :: t, _, _, h => by have := (h y).2 (by simp); cases this
  | x :: s, [], _, _, h => by have := (h x).1 (by simp); cases this
  | x :: s, y :: t, ha, hb, h => by
    unfold SrtK at ha hb
    rw [List.pairwise_cons] at ha hb
    have e : x = y := by
      rcases List.mem_cons.1 ((h x).1 (by simp)) with q | q
      · exact q
      · rcases List.mem_cons.1 ((h y).2 (by simp)) with r | r
        · exact r.symm
        · exact (ltK_irrefl (ltN_trans (ha.1 y r) (hb.1 x q))).elim
    subst e
    have := srtK_unique (a := s) (b := t) ha.2 hb.2 (fun k => by
      refine ⟨fun q => ?_, fun q => ?_⟩
      · rcases List.mem_cons.1 ((h k).1 (List.mem_cons_of_mem _ q)) with r | r
        · subst r; exact (ltK_irrefl (ha.1 k q)).elim
        · exact r
      · rcases List.mem_cons.1 ((h k).2 (List.mem_cons_of_mem _ q)) with r | r
        · subst r; exact (ltK_irrefl (hb.1 k q)).elim
        · exact r)
    rw [this]
theorem mem_ins {e : En} {ep : Int} {l : List Kn} {x : Kn} : x ∈ insK e ep l ↔ x = ⟨e.nm, e.ver, e.key, ep⟩ ∨ x ∈ l := by
  refine ⟨mem_insK, fun h => ?_⟩
  rcases h with rfl | h
  · exact (mem_insK' (e := e) (ep := ep) (l := l)).1
  · exact (mem_insK' (e := e) (ep := ep) (l := l)).2 x h
theorem mem_fold {ep : Int} : ∀ {b : List En} {l : List Kn} {x : Kn}, x ∈ b.foldl (fun o e => insK e ep o) l ↔ (∃ e ∈ b, x = ⟨e.nm, e.ver, e.key, ep⟩) ∨ x ∈ l
  | [], l, x => by simp
  | e :: r, l, x => by
    rw [List.foldl_cons, mem_fold, mem_ins]
    simp only [List.mem_cons, exists_eq_or_imp]
    refine ⟨fun h => ?_, fun h => ?_⟩
    · rcases h with h | h | h
      · exact .inl (.inr h)
      · exact .inl (.inl h)
      · exact .inr h
    · rcases h with (h | h) | h
      · exact .inr (.inl h)
      · exact .inl h
      · exact .inr (.inr h)
theorem okAll_perm {l : List Kn} {a b : List En} (h : a.Perm b) : okAll l a ↔ okAll l b := by
  unfold okAll
  rw [h.pairwise_iff (fun {x y} q r => q r.symm)]
  exact ⟨fun ⟨p, q⟩ => ⟨fun e he => p e (h.mem_iff.2 he), q⟩, fun ⟨p, q⟩ => ⟨fun e he => p e (h.mem_iff.1 he), q⟩⟩
theorem addR_perm {l : List Kn} (hl : chainK none l) {ep : Int} {a b : List En} (h : a.Perm b) : addR l ep a = addR l ep b := by
  have ca := chain_srt (addR_chain hl ep a)
  have cb := chain_srt (addR_chain hl ep b)
  rw [addR_if] at ca cb
  rw [addR_if, addR_if]
  by_cases q : ¬ (ep < 1 ∨ (∃ k ∈ l, ep ≤ k.ep)) ∧ okAll l a
  · have q' : ¬ (ep < 1 ∨ (∃ k ∈ l, ep ≤ k.ep)) ∧ okAll l b := ⟨q.1, (okAll_perm h).1 q.2⟩
    rw [if_pos q] at ca
    rw [if_pos q'] at cb
    rw [if_pos q, if_pos q']
    exact congrArg (fun x => (x, true)) (srtK_unique ca cb (fun k => by
      rw [mem_fold, mem_fold]
      refine or_congr ⟨fun ⟨e, he, r⟩ => ⟨e, h.mem_iff.1 he, r⟩, fun ⟨e, he, r⟩ => ⟨e, h.mem_iff.2 he, r⟩⟩ Iff.rfl))
  · have q' : ¬ (¬ (ep < 1 ∨ (∃ k ∈ l, ep ≤ k.ep)) ∧ okAll l b) := fun r => q ⟨r.1, (okAll_perm h).2 r.2⟩
    rw [if_neg q, if_neg q']
end Go.Proofs.YtdjcclcejmeheaaGreat

