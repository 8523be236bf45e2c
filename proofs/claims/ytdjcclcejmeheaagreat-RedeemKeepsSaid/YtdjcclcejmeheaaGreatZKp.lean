import Derived.Test.YtdjcclcejmeheaaGreatZGz
import Derived.Test.YtdjcclcejmeheaaGreatZGx
import Derived.Test.YtdjcclcejmeheaaGreatZKi
import Derived.Test.YtdjcclcejmeheaaGreatZEv
/-
  Which heads keep the seat's promises: the head of an entry's epoch does, an earlier one doesn't.
-/
namespace Go.Proofs.YtdjcclcejmeheaaGreat
set_option linter.unusedVariables false
set_option linter.unusedSimpArgs false
open Go.RowKit Pl
def seatKn (q : Kn) : Prop := ∃ b : UInt8, q.nm = nameL ((b.toNat : Nat) : Int) ∧ q.key = keyE b q.ver
structure EpsSeat (s : Eps) (n : Nat) : Prop where
  kn : ∀ q ∈ s.kn, seatKn q
  tk : ∀ h ∈ s.hs, h.tk ≤ 3 * (n : Int)
theorem seat_epB {kn : List Kn} {b : UInt8} {n : Nat} : ∀ e ∈ epB kn b n, ∃ c : UInt8, e.nm = nameL ((c.toNat : Nat) : Int) ∧ e.key = keyE c e.ver := fun e he => by
  unfold epB at he
  obtain ⟨j, _, rfl⟩ := List.mem_map.1 he
  exact ⟨_, rfl, rfl⟩
theorem epS_seat (x : Int) {s : Eps} {n : Nat} (o : EpsOk s n) (h : EpsSeat s n) (b : UInt8) : EpsSeat (epS x s b) (n + 1) := by
  have ht : epT b ≤ 3 := by unfold epT; omega
  have ot := o.tk
  unfold epS
  split
  · exact ⟨h.kn, fun g hg => by have := h.tk g hg; omega⟩
  · refine ⟨fun q hq => ?_, fun g hg => ?_⟩
    · have hq' : q ∈ knN s.kn s.hs (epB s.kn b (epN b)) := hq
      unfold knN at hq'
      rw [addR_if] at hq'
      split at hq'
      · rcases mem_fold.1 hq' with ⟨e, he, rfl⟩ | h'
        · obtain ⟨c, h1, h2⟩ := seat_epB e he
          exact ⟨c, h1, h2⟩
        · exact h.kn q h'
      · exact h.kn q hq'
    · rcases List.mem_append.1 hg with hg | hg
      · have := h.tk g hg; omega
      · rw [List.mem_singleton] at hg; subst hg
        show s.tk + (epT b : Int) ≤ _; omega
theorem eps_seat (l : List UInt8) : EpsSeat (epsR 5 l) l.length := by
  have : ∀ (k : Nat), k ≤ l.length → EpsSeat (epsR 5 (l.take k)) k := fun k => by
    induction k with
    | zero => intro _; exact ⟨fun q hq => (by cases hq), fun h hh => (by cases hh)⟩
    | succ k ih =>
      intro h
      have o := epsR_ok 5 (l.take k)
      rw [List.length_take, Nat.min_eq_left (by omega)] at o
      rw [epsR_snoc 5 (by omega : k < l.length)]
      exact epS_seat 5 o (ih (by omega)) _
  have := this l.length (Nat.le_refl _)
  rwa [List.take_length] at this
/-- What an epoch shows stays as it is. -/
theorem its_take {x : Int} {ps : List Pub} (g : epsGood x ps) (hl : ps.length ≤ 1000) (i : Nat) : ∀ j, i ≤ j → j ≤ ps.length → itsK (i : Int) (knPs (ps.take j)) = itsK (i : Int) (knPs (ps.take i)) := fun j => by
  induction j with
  | zero => intro h _; obtain rfl : i = 0 := by omega
            rfl
  | succ j ih =>
    intro h hj
    by_cases e : i = j + 1
    · subst e; rfl
    · have st := step_in g hl (i := j) (by omega)
      have sl := st.len
      rw [st.kK, knN_good st.bad, itsK_insFold (by omega), ih (by omega) (by omega)]
theorem eps_root (l : List UInt8) (hl : l.length ≤ 1000) {k : Nat} (hk : k < (epsR 5 l).hs.length) : (epsR 5 l).hs[k].root = rootH (setR (itsK (epsR 5 l).hs[k].ep (epsR 5 l).kn) []) := by
  have w := epsR_well 5 l hl
  have o := epsR_ok 5 l
  have ol := o.hs
  have op := o.ps
  have st := step_in w.good (by omega) (i := k) (by omega)
  have e : (epsR 5 l).hs = (epsR 5 l).ps.map Pub.hd := w.hs
  have ez : (epsR 5 l).hs[k] = (epsR 5 l).ps[k].hd := by simp only [e, List.getElem_map]
  have hep := st.ep
  have hrt := st.rt
  have sl := st.len
  have hs := its_take w.good (by omega) (k + 1) (epsR 5 l).ps.length (by omega) (Nat.le_refl _)
  rw [List.take_length, ← w.kn] at hs
  rw [sl] at hep hrt
  rw [ez, hep, hs]
  exact hrt
/-- Of one name: later ones have the greater version and the greater epoch. -/
theorem chain_pw : ∀ {D : List Kn} {p : Option Kn}, chainK p D → D.Pairwise (fun a b => a.nm = b.nm → a.ver < b.ver ∧ a.ep < b.ep)
  | [], _, _ => List.Pairwise.nil
  | k :: r, p, h => by
    have hk := rightE_ver (stepB_good h.1).1
    refine List.pairwise_cons.2 ⟨fun q hq hn => ⟨?_, chain_up hk h.2 q hq hn.symm⟩, chain_pw h.2⟩
    rcases (chain_lt hk h.2).1 q hq with t | ⟨_, t⟩
    · rw [hn] at t
      have := bl_asym t
      rw [t] at this; cases this
    · exact t
theorem same_ver {D : List Kn} (h : chainK none D) {p q : Kn} (hp : p ∈ D) (hq : q ∈ D) (hn : p.nm = q.nm) (he : p.ep < q.ep) : p.ver < q.ver := by
  obtain ⟨i, hi, rfl⟩ := List.getElem_of_mem hp
  obtain ⟨j, hj, rfl⟩ := List.getElem_of_mem hq
  have w := List.pairwise_iff_getElem.1 (chain_pw h)
  rcases Nat.lt_trichotomy i j with q | q | q
  · exact (w i j hi hj q hn).1
  · subst q; omega
  · have := (w j i hj hi q hn.symm).2; omega
theorem lastL_sub {n : Int} {p : Kn} : ∀ {D : List Kn}, p ∈ lastL n D → p ∈ D ∧ p.ep ≤ n
  | [], h => by cases h
  | k :: r, h => by
    rw [lastL_cons] at h
    split at h
    · rename_i c
      rcases List.mem_cons.1 h with rfl | h
      · exact ⟨by simp, c.1⟩
      · obtain ⟨a, b⟩ := lastL_sub h; exact ⟨List.mem_cons_of_mem _ a, b⟩
    · obtain ⟨a, b⟩ := lastL_sub h; exact ⟨List.mem_cons_of_mem _ a, b⟩
theorem its_mine {D : List Kn} (hc : chainK none D) (hi : idxInj D) {i : Nat} (h : i < D.length) : itemI D[i].nm D[i].ver D[i].key ∈ setR (itsK D[i].ep D) [] := by
  rw [(setR_perm hc hi).mem_iff]
  refine List.mem_map.2 ⟨D[i], lastL_mem (i := i) ?_, rfl⟩
  rw [lastL_yes h (Int.le_refl _) (fun h' q => by
    have w := (List.pairwise_iff_getElem.1 (chain_pw hc) i (i + 1) h h' (by omega) q.1.symm).2
    omega)]
  exact List.mem_cons_self ..
theorem nameL_mod (k : Int) : nameL k = nameL (k % 6) := by
  unfold nameL; rw [Int.emod_emod]
theorem nameL_res (b c : UInt8) (h : nameL ((b.toNat : Nat) : Int) = nameL ((c.toNat : Nat) : Int)) : b.toNat % 6 = c.toNat % 6 := by
  have key : ∀ i j : Fin 6, nameL ((i.val : Nat) : Int) = nameL ((j.val : Nat) : Int) → i = j := by decide +kernel
  rw [nameL_mod, nameL_mod ((c.toNat : Nat) : Int)] at h
  have q := key ⟨b.toNat % 6, by omega⟩ ⟨c.toNat % 6, by omega⟩ (by
    show nameL (((b.toNat % 6 : Nat) : Nat) : Int) = nameL (((c.toNat % 6 : Nat) : Nat) : Int)
    rw [Int.natCast_emod, Int.natCast_emod]; exact h)
  exact congrArg Fin.val q
theorem keyE_at (b : UInt8) (v : Nat) (h : v ≤ 1000) : keyE b ((v : Nat) : Int) = ((1000 * v + b.toNat + 1 : Nat) : Int) := by
  have hb := b.toNat_lt
  unfold keyE
  simp only [IntKind.wrap_u64]
  omega
theorem val_ne (b c : UInt8) (v w : Nat) (h0 : 1 ≤ v) (h1 : v < w) (h2 : w ≤ 6) (hm : b.toNat % 6 = c.toNat % 6) : ¬ H.l (valueH ((v : Nat) : Int) (keyE b ((v : Nat) : Int))) = H.l (valueH ((w : Nat) : Int) (keyE c ((w : Nat) : Int))) := fun h => by
  have hb := b.toNat_lt
  have hc := c.toNat_lt
  rw [keyE_at b v (by omega), keyE_at c w (by omega)] at h
  have q := val_word (by omega) (by omega) (by omega) (by omega) h
  have t := tab_ne (c.toNat % 6) v w (by omega) h0 h1 h2
  have m1 := fast_mem v b.toNat (by omega)
  rw [hm] at m1
  exact dis_of t m1 (fast_mem w c.toNat (by omega)) q
theorem its_other {D : List Kn} (hc : chainK none D) (hi : idxInj D) (hs : ∀ q ∈ D, seatKn q) {q : Kn} (hq : q ∈ D) {n : Int} (hn : n < q.ep) (hv : q.ver ≤ 6) {x : It} (hx : x ∈ setR (itsK n D) []) (hix : x.ix = indexH q.nm) : ¬ H.l x.vl = H.l (valueH q.ver q.key) := by
  rw [(setR_perm hc hi).mem_iff] at hx
  obtain ⟨p, hp, rfl⟩ := List.mem_map.1 hx
  obtain ⟨p1, p2⟩ := lastL_sub hp
  have hnm : p.nm = q.nm := hi p p1 q hq (congrArg H.l (show indexH p.nm = indexH q.nm from hix))
  have hlt := same_ver hc p1 hq hnm (by omega)
  have hpv := chain_ver hc p p1
  obtain ⟨b, b1, b2⟩ := hs p p1
  obtain ⟨c, c1, c2⟩ := hs q hq
  obtain ⟨v, hv'⟩ : ∃ v : Nat, p.ver = v := ⟨p.ver.toNat, by omega⟩
  obtain ⟨w, hw'⟩ : ∃ w : Nat, q.ver = w := ⟨q.ver.toNat, by omega⟩
  have e := val_ne b c v w (by omega) (by omega) (by omega) (nameL_res b c (by rw [← b1, ← c1, hnm]))
  show ¬ H.l (valueH p.ver p.key) = H.l (valueH q.ver q.key)
  rw [b2, c2, hv', hw']; exact e
theorem eps_inj (l : List UInt8) : idxInj (epsR 5 l).kn := fun a ha b hb h => by
  obtain ⟨c, c1, _⟩ := (eps_seat l).kn a ha
  obtain ⟨d, d1, _⟩ := (eps_seat l).kn b hb
  exact six_inj _ (c1 ▸ nameL_six _) _ (d1 ▸ nameL_six _) h
/-- RedeemKeeps. -/
theorem keeps (l : List UInt8) (hl : l.length ≤ 6) {i k : Nat} (hi : i < (epsR 5 l).kn.length) (hk : k < (epsR 5 l).hs.length) {q : Kn} (hq : q = (epsR 5 l).kn[i]) {h : Hd} (hh : h = (epsR 5 l).hs[k]) :
    (((k + 1 : Nat) : Int) = q.ep → redeemF (pubF 5) (paperP ⟨q.nm, q.ver, q.key⟩ h.tk) (putH h) (putB (paperX (epsR 5 l).kn h ⟨q.nm, q.ver, q.key⟩)) = 0) ∧ (((k + 1 : Nat) : Int) < q.ep → redeemF (pubF 5) (paperP ⟨q.nm, q.ver, q.key⟩ h.tk) (putH h) (putB (paperX (epsR 5 l).kn h ⟨q.nm, q.ver, q.key⟩)) = 37) := by
  have si := eps_in l (by omega)
  have o := eps_heads l (by omega)
  have se := eps_seat l
  have hmem : h ∈ (epsR 5 l).hs := by rw [hh]; exact List.getElem_mem _
  have qmem : q ∈ (epsR 5 l).kn := by rw [hq]; exact List.getElem_mem _
  have hr := o.right h hmem
  have hr' := of_decide_eq_true hr
  have htk := se.tk h hmem
  have hep : h.ep = ((k + 1 : Nat) : Int) := by rw [hh]; exact o.ep k hk
  have hrt : h.root = rootH (setR (itsK h.ep (epsR 5 l).kn) []) := by rw [hh]; exact eps_root l (by omega) hk
  have qr := eps_right l (by omega) q qmem
  have hii := eps_inj l
  have hqe := si.ep q qmem
  have hqv : q.ver ≤ q.ep := chain_verep si.chain (fun q h => by cases h) q qmem
  have hsl := si.hsl
  refine ⟨fun e => ?_, fun e => ?_⟩
  · refine redeem_mine qr (by omega) (by omega) hr (o.ok h hmem) (o.chk h hmem) hrt (by omega) ?_
    have z := its_mine si.chain hii hi
    rw [← hq] at z
    rw [hep, e]; exact z
  · refine redeem_other qr (by omega) (by omega) hr (o.ok h hmem) (o.chk h hmem) hrt (by omega) (fun v hv => ?_)
    have hs : Str (setR (itsK h.ep (epsR 5 l).kn) []) := setR_str _ _
    obtain ⟨v', hv'⟩ := check_anyX hs (indexH q.nm)
    rw [hrt] at hv
    have e3 : thereB (indexH q.nm) (setR (itsK h.ep (epsR 5 l).kn) []) = true := by
      have z := hv'.symm.trans hv
      injection z with _ z
      injection z
    obtain ⟨x, hx, hxi⟩ := thereB_iff.1 e3
    have z := check_mine hs hx
    rw [hxi] at z
    have ev : x.vl = v := by
      have z2 := z.symm.trans hv
      injection z2
    rw [← ev]
    exact its_other si.chain hii se.kn qmem (n := h.ep) (by omega) (by omega) hx hxi
end Go.Proofs.YtdjcclcejmeheaaGreat
/-
  RedeemKeeps.
-/
namespace Go.Proofs.YtdjcclcejmeheaaGreat
set_option linter.unusedVariables false
set_option linter.unusedSimpArgs false
open Go.RowKit Pl
set_option maxRecDepth 100000
set_option maxHeartbeats 3200000
theorem redeemKeeps_pf (l : List UInt8) : PF Tryz.prog 4 [slT bdv 1 (l)] (.v (.bool true)) := by
 refine PF.enter (fn := Tryz.f4) Tryz.func4 rfl Tryz.ntmps4 rfl (fun w0 => .w ?_)
 refine .t 1 1 rfl rfl (.cf (rknown_pf) rfl) ?_
 refine .q 5 1 rfl rfl (fun h2 => ?_) (fun h2 => ?_)
 ·skip
  skip
  exact .z 1 1 rfl (TE.retf rfl rfl rfl (okv rfl))
 ·skip
  have hl : ¬ 6 < l.length := by have q := of_decide_eq_false h2; (try dsimp only at q); omega
  obtain ⟨s, hsE⟩ : ∃ s, s = epsR 5 l := ⟨_, rfl⟩
  have si : EpsIn s l.length := by rw [hsE]; exact eps_in l (by omega)
  have sr : ∀ q ∈ s.kn, rightE q.nm q.ver q.key = true := by rw [hsE]; exact eps_right l (by omega)
  have skn : knIn s.kn := by rw [hsE]; exact (epsR_ok 5 l).knI
  have hpos : 0 < s.hs.length → 0 < s.kn.length := by rw [hsE]; exact eps_pos l (by omega)
  have cE := epochs_pc 5 ⟨by decide, by decide⟩ l (by omega)
  rw [← hsE] at cE
  have hsl := si.hsl
  have hkl := si.knl
  have hkeep : ∀ i k (hi : i < s.kn.length) (hk : k < s.hs.length) (q : Kn), q = s.kn[i] → ∀ h : Hd, h = s.hs[k] → (((k + 1 : Nat) : Int) = q.ep → redeemF (pubF 5) (paperP (⟨q.nm, q.ver, q.key⟩ : En) h.tk) (putH h) (putB (paperX s.kn h (⟨q.nm, q.ver, q.key⟩ : En))) = 0) ∧ (((k + 1 : Nat) : Int) < q.ep → redeemF (pubF 5) (paperP (⟨q.nm, q.ver, q.key⟩ : En) h.tk) (putH h) (putB (paperX s.kn h (⟨q.nm, q.ver, q.key⟩ : En))) = 37) := by rw [hsE]; exact fun i k hi hk q hq h hh => keeps l (by omega) hi hk hq hh
  refine .t 1 1 rfl rfl (.cc (cE) rfl) ?_
  refine .t 7 1 rfl rfl (.cf (rpub_pf 5 ⟨by decide, by decide⟩) rfl) ?_
  refine .g 2 1 rfl ?_
  refine TE.setv 7 (.int .i64 ((0 : Nat) : Int)) rfl (congrArg _ (by first | rfl | (dsimp only; first | done | rfl | omega))) ?_
  refine .lo (T := Nat) 0 1 rfl (fun i => i ≤ s.kn.length) (fun i => s.kn.length - i) [0] [] (fun i => [(4, .d (slT Kn.dv 4 (s.kn))), (5, .d (slT Hd.dv 69 (s.hs))), (6, .f (.v (.int .u64 (pubF 5)))), (7, .d (.v (.int .i64 ((i : Nat) : Int))))]) (fun i => []) (0) rfl rfl (Nat.zero_le _) rfl rfl rfl (fun i hI => ?_)
  refine .q 4 1 rfl rfl (fun h3 => ?_) (fun h3 => ?_)
  ·skip
   have hi : i < s.kn.length := by have q := of_decide_eq_true h3; (try dsimp only at q); omega
   refine .g 1 1 rfl ?_
   refine TE.setv 8 (.int .i64 ((0 : Nat) : Int)) rfl (congrArg _ (by first | rfl | (dsimp only; first | done | rfl | omega))) ?_
   refine .lo (T := Nat) 0 1 rfl (fun k => k ≤ s.hs.length) (fun k => s.hs.length - k) [0] [] (fun k => [(4, .d (slT Kn.dv 4 (s.kn))), (5, .d (slT Hd.dv 69 (s.hs))), (6, .f (.v (.int .u64 (pubF 5)))), (7, .d (.v (.int .i64 ((i : Nat) : Int)))), (8, .d (.v (.int .i64 ((k : Nat) : Int))))]) (fun k => []) (0) rfl rfl (Nat.zero_le _) rfl rfl rfl (fun k hI => ?_)
   refine .q 4 1 rfl rfl (fun h4 => ?_) (fun h4 => ?_)
   ·skip
    have hk : k < s.hs.length := by have q := of_decide_eq_true h4; (try dsimp only at q); omega
    obtain ⟨q, hq⟩ : ∃ q, q = s.kn[i] := ⟨_, rfl⟩
    obtain ⟨h, hh⟩ : ∃ h, h = s.hs[k] := ⟨_, rfl⟩
    have qr := sr q (by rw [hq]; exact List.getElem_mem _)
    have hkp := hkeep i k hi hk q hq h hh
    have hho : h.ok := by rw [hh]; exact si.ok _ (List.getElem_mem _)
    have cP : PC Tryz.prog 11 [slT Kn.dv 4 (s.kn), slT Hd.dv 69 (s.hs), .ag (En.dv (⟨q.nm, q.ver, q.key⟩ : En)), .v (.int .i64 ((k : Nat) : Int)), .v (.int .i64 h.tk)] (.tp [slT bdv 1 (paperP (⟨q.nm, q.ver, q.key⟩ : En) h.tk), slT bdv 1 (putH h), slT bdv 1 (putB (paperX s.kn h (⟨q.nm, q.ver, q.key⟩ : En)))]) := by have z := papers_pc s.kn s.hs (⟨q.nm, q.ver, q.key⟩ : En) k h.tk (by omega) skn (by omega) (by omega) si.ok (Nat.le_trans (rightE_u qr).1 (by decide)) (by omega); simp only [Nat.mod_eq_of_lt hk] at z; rw [← hh] at z; exact z
    have cR := redeem_pf (pubF 5) ⟨(pubF_bd 5).1, Int.lt_trans (pubF_bd 5).2 (by decide)⟩ (paperP (⟨q.nm, q.ver, q.key⟩ : En) h.tk) (putH h) (putB (paperX s.kn h (⟨q.nm, q.ver, q.key⟩ : En))) (Nat.le_trans (paperP_len _ _) (by decide)) (by rw [putH_len]; decide) (Nat.le_trans (paperX_len _ _ _).2 (by decide))
    obtain ⟨r, hr⟩ : ∃ r, r = redeemF (pubF 5) (paperP (⟨q.nm, q.ver, q.key⟩ : En) h.tk) (putH h) (putB (paperX s.kn h (⟨q.nm, q.ver, q.key⟩ : En))) := ⟨_, rfl⟩
    rw [← hr] at cR hkp
    refine .d 0 1 rfl ?_
    refine .v 4 1 [] rfl rfl (fun _ _ => .idx (q) rfl rfl rfl rfl et27 (fun _ => rfl) (Int.natCast_nonneg _) (hq ▸ get_nat hi)) ?_
    refine .v 1 1 [] rfl rfl (fun _ _ => .lm (En.dv (⟨q.nm, q.ver, q.key⟩ : En)) rfl) ?_
    refine .v 3 1 [] rfl rfl (fun _ _ => .idx (h) rfl rfl rfl rfl et28 (fun _ => rfl) (Int.natCast_nonneg _) (hh ▸ get_nat hk)) ?_
    refine .v 2 1 [] rfl rfl (fun _ _ => .cc (cP) rfl) ?_
    refine .y 7 1 rfl (by kernel_rfl) ?_
    refine .t 4 1 rfl rfl (.cf (cR) rfl) ?_
    by_cases r1 : ((k + 1 : Nat) : Int) = q.ep
    ·skip
     have r0 := hkp.1 r1
     refine .t 2 1 rfl rfl (.bv (.int .i64 ((k + 1 : Nat) : Int)) rfl (congrArg _ (by rw [IntKind.wrap_i64]; omega))) ?_
     refine .t 2 1 rfl rfl (.idx (q) rfl rfl rfl rfl et27 (fun _ => rfl) (Int.natCast_nonneg _) (hq ▸ get_nat hi)) ?_
     refine .t 2 1 rfl rfl (.bv (.bool true) rfl (congrArg Value.bool (decide_eq_true (by omega)))) ?_
     refine .t 2 1 rfl rfl (.bv (.bool false) rfl (congrArg Value.bool (by simp [r0]))) ?_
     refine .t 3 1 rfl rfl (.bv (.int .i64 ((k + 1 : Nat) : Int)) rfl (congrArg _ (by rw [IntKind.wrap_i64]; omega))) ?_
     refine .t 2 1 rfl rfl (.idx (q) rfl rfl rfl rfl et27 (fun _ => rfl) (Int.natCast_nonneg _) (hq ▸ get_nat hi)) ?_
     refine .t 2 1 rfl rfl (.bv (.bool false) rfl (congrArg Value.bool (decide_eq_false (by omega)))) ?_
     refine .t 7 1 rfl rfl (.bv (.int .i64 ((k + 1 : Nat) : Int)) rfl (congrArg _ (by rw [IntKind.wrap_i64]; omega))) ?_
     refine .g 1 1 rfl ?_
     refine TE.setv 8 (.int .i64 ((k + 1 : Nat) : Int)) rfl (congrArg _ (by first | rfl | (dsimp only; first | done | rfl | omega))) ?_
     exact .rd 0 1 id (fun _ _ e => e) rfl (k + 1) (by omega) (by omega) rfl rfl rfl
    ·skip
     by_cases r2 : ((k + 1 : Nat) : Int) < q.ep
     ·skip
      have r7 := hkp.2 r2
      refine .t 2 1 rfl rfl (.bv (.int .i64 ((k + 1 : Nat) : Int)) rfl (congrArg _ (by rw [IntKind.wrap_i64]; omega))) ?_
      refine .t 2 1 rfl rfl (.idx (q) rfl rfl rfl rfl et27 (fun _ => rfl) (Int.natCast_nonneg _) (hq ▸ get_nat hi)) ?_
      refine .t 2 1 rfl rfl (.bv (.bool false) rfl (congrArg Value.bool (decide_eq_false (by omega)))) ?_
      refine .t 6 1 rfl rfl (.bv (.int .i64 ((k + 1 : Nat) : Int)) rfl (congrArg _ (by rw [IntKind.wrap_i64]; omega))) ?_
      refine .t 2 1 rfl rfl (.idx (q) rfl rfl rfl rfl et27 (fun _ => rfl) (Int.natCast_nonneg _) (hq ▸ get_nat hi)) ?_
      refine .t 2 1 rfl rfl (.bv (.bool true) rfl (congrArg Value.bool (decide_eq_true (by omega)))) ?_
      refine .t 2 1 rfl rfl (.bv (.bool false) rfl (congrArg Value.bool (by simp [r7]))) ?_
      refine .t 4 1 rfl rfl (.bv (.int .i64 ((k + 1 : Nat) : Int)) rfl (congrArg _ (by rw [IntKind.wrap_i64]; omega))) ?_
      refine .g 1 1 rfl ?_
      refine TE.setv 8 (.int .i64 ((k + 1 : Nat) : Int)) rfl (congrArg _ (by first | rfl | (dsimp only; first | done | rfl | omega))) ?_
      exact .rd 0 1 id (fun _ _ e => e) rfl (k + 1) (by omega) (by omega) rfl rfl rfl
     ·skip
      refine .t 2 1 rfl rfl (.bv (.int .i64 ((k + 1 : Nat) : Int)) rfl (congrArg _ (by rw [IntKind.wrap_i64]; omega))) ?_
      refine .t 2 1 rfl rfl (.idx (q) rfl rfl rfl rfl et27 (fun _ => rfl) (Int.natCast_nonneg _) (hq ▸ get_nat hi)) ?_
      refine .t 2 1 rfl rfl (.bv (.bool false) rfl (congrArg Value.bool (decide_eq_false (by omega)))) ?_
      refine .t 6 1 rfl rfl (.bv (.int .i64 ((k + 1 : Nat) : Int)) rfl (congrArg _ (by rw [IntKind.wrap_i64]; omega))) ?_
      refine .t 2 1 rfl rfl (.idx (q) rfl rfl rfl rfl et27 (fun _ => rfl) (Int.natCast_nonneg _) (hq ▸ get_nat hi)) ?_
      refine .t 2 1 rfl rfl (.bv (.bool false) rfl (congrArg Value.bool (decide_eq_false (by omega)))) ?_
      refine .t 7 1 rfl rfl (.bv (.int .i64 ((k + 1 : Nat) : Int)) rfl (congrArg _ (by rw [IntKind.wrap_i64]; omega))) ?_
      refine .g 1 1 rfl ?_
      refine TE.setv 8 (.int .i64 ((k + 1 : Nat) : Int)) rfl (congrArg _ (by first | rfl | (dsimp only; first | done | rfl | omega))) ?_
      exact .rd 0 1 id (fun _ _ e => e) rfl (k + 1) (by omega) (by omega) rfl rfl rfl
   ·skip
    skip
    refine .t 1 1 rfl rfl (.bv (.int .i64 ((i + 1 : Nat) : Int)) rfl (congrArg _ (by rw [IntKind.wrap_i64]; omega))) ?_
    refine .g 1 1 rfl ?_
    refine TE.setv 7 (.int .i64 ((i + 1 : Nat) : Int)) rfl (congrArg _ (by first | rfl | (dsimp only; first | done | rfl | omega))) ?_
    exact .rd 0 1 id (fun _ _ e => e) rfl (i + 1) (by omega) (by omega) rfl rfl rfl
  ·skip
   skip
   exact .z 1 1 rfl (TE.retf rfl rfl rfl (okv rfl))
end Go.Proofs.YtdjcclcejmeheaaGreat

