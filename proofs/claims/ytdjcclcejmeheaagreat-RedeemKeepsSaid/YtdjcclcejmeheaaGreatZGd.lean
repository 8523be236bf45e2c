import Derived.Test.YtdjcclcejmeheaaGreatZBk
import Derived.Test.YtdjcclcejmeheaaGreatZJa
import Derived.Test.YtdjcclcejmeheaaGreatZJi
import Derived.Test.YtdjcclcejmeheaaGreatZEv
import Derived.Test.YtdjcclcejmeheaaGreatZBm
import Derived.Test.YtdjcclcejmeheaaGreatZGb
import Derived.Test.YtdjcclcejmeheaaGreatZGc
import Derived.Test.YtdjcclcejmeheaaGreatZEc
/-
  What keeps a promise, of both sides.
-/
namespace Go.Proofs.YtdjcclcejmeheaaGreat
set_option linter.unusedVariables false
set_option linter.unusedSimpArgs false
open Go.RowKit Pl
set_option maxRecDepth 100000
set_option maxHeartbeats 3200000
theorem redeem_pf (y : Int) (hy : u64I y) (a b c : List UInt8) (ha : a.length ≤ 1099511627776) (hb : b.length ≤ 1099511627776) (hc : c.length ≤ 1099511627776) : PF Tryz.prog 9 [.v (.int .u64 y), slT bdv 1 (a), slT bdv 1 (b), slT bdv 1 (c)] (.v (.int .i64 (redeemF y a b c))) := by
 obtain ⟨p, qp⟩ : ∃ z, z = (readQ intI a).1 := ⟨_, rfl⟩
 obtain ⟨ea, qea⟩ : ∃ z, z = (readQ intI a).2 := ⟨_, rfl⟩
 have gp : PC Tryz.prog 25 [slT bdv 1 (a)] (.tp [.ag p.dv, .v (.int .i64 ea)]) := by rw [qp, qea]; exact pread_pc a ha
 obtain ⟨h, qh⟩ : ∃ z, z = (readH intI b).1 := ⟨_, rfl⟩
 obtain ⟨eb, qeb⟩ : ∃ z, z = (readH intI b).2 := ⟨_, rfl⟩
 have gh : PC Tryz.prog 26 [slT bdv 1 (b)] (.tp [.ag h.dv, .v (.int .i64 eb)]) := by rw [qh, qeb]; exact hread_pc b hb
 obtain ⟨x, qx⟩ : ∃ z, z = (readP c).1 := ⟨_, rfl⟩
 obtain ⟨ec, qec⟩ : ∃ z, z = (readP c).2 := ⟨_, rfl⟩
 have gx : PC Tryz.prog 27 [slT bdv 1 (c)] (.tp [.ag x.dv, .v (.int .i64 ec)]) := by rw [qx, qec]; exact read_pc c hc
 have hpo : p.ok := qp ▸ readQ_isok intI a
 have hho : h.ok := qh ▸ readH_zero intI b
 rw [show redeemF y a b c = redeemG y p ea h eb x ec by rw [qp, qea, qh, qeb, qx, qec]; rfl]
 clear qp qea qh qeb qx qec
 obtain ⟨k1, hk1⟩ : ∃ k, checkQ y p = k := ⟨_, rfl⟩
 obtain ⟨k2, hk2⟩ : ∃ k, checkH y h = k := ⟨_, rfl⟩
 have cQ : PF Tryz.prog 28 [.v (.int .u64 y), .ag p.dv] (.v (.bool k1)) := hk1 ▸ pck_pf y p hy hpo
 have cH : PF Tryz.prog 29 [.v (.int .u64 y), .ag h.dv] (.v (.bool k2)) := hk2 ▸ chk_pf y h hy hho
 obtain ⟨v, here, okk, hv⟩ : ∃ v here okk, checkV h.root (indexH p.e.nm) x = (v, here, okk) := ⟨_, _, _, rfl⟩
 have cV : PC Tryz.prog 30 [.ag (hdv h.root), .ag (hdv (indexH p.e.nm)), .ag x.dv] (.tp [.ag (hdv v), .v (.bool here), .v (.bool okk)]) := by have q := check_pc h.root (indexH p.e.nm) x; rw [hv] at q; exact q
 refine PF.enter (fn := Tryz.f9) Tryz.func9 rfl Tryz.ntmps9 rfl (fun w0 => .w ?_)
 refine .t 2 1 rfl rfl (.cc (gp) rfl) ?_
 refine .g 6 1 rfl ?_
 refine TE.obj 1 (.box 73 (p.dv)) rfl rfl ?_
 refine .t 1 2 rfl rfl (.cc (gh) rfl) ?_
 refine .g 6 2 rfl ?_
 refine TE.obj 2 (.box 45 (h.dv)) rfl rfl ?_
 refine .t 1 3 rfl rfl (.cc (gx) rfl) ?_
 refine .g 6 3 rfl ?_
 refine TE.obj 3 (.box 81 (x.dv)) rfl rfl ?_
 by_cases c1 : ea = 0
 ·skip
  by_cases c2 : eb = 0
  ·skip
   by_cases c3 : ec = 0
   ·skip
    refine .t 1 4 rfl rfl (.bv (.bool false) rfl (congrArg Value.bool (by simp [c1]))) ?_
    refine .t 2 4 rfl rfl (.bv (.bool false) rfl (congrArg Value.bool (by simp [c2]))) ?_
    refine .t 3 4 rfl rfl (.bv (.bool false) rfl (congrArg Value.bool (by simp [c3]))) ?_
    cases k1 with
    | true =>
     cases k2 with
     | true =>
      have hu0 := rightE_u (rightQ_parts (checkQ_right hk1)).1
      refine .t 4 4 rfl rfl (.lp (p.dv) rfl) ?_
      refine .t 0 4 rfl rfl (.cf (cQ) rfl) ?_
      refine .t 3 4 rfl rfl (.lp (h.dv) rfl) ?_
      refine .t 0 4 rfl rfl (.cf (cH) rfl) ?_
      refine .q 10 4 rfl rfl (fun h8 => ?_) (fun h8 => ?_)
      ·skip
       have q8 : p.dl < h.tk := of_decide_eq_true h8
       rw [redeemG_late c1 c2 c3 hk1 hk2 q8]
       exact .z 1 4 rfl (TE.retf rfl rfl rfl (okv rfl))
      ·skip
       have q8 : ¬ p.dl < h.tk := of_decide_eq_false h8
       refine .d 0 4 rfl ?_
       refine .v 1 4 [2] rfl rfl (fun _ _ => .lp (hdv h.root) rfl) ?_
       refine .v 3 4 [] rfl rfl (fun _ _ => .cf (index_pf p.e.nm (by omega)) rfl) ?_
       refine .v 0 4 [3] rfl rfl (fun _ _ => .lp (x.dv) rfl) ?_
       refine .v 0 4 [] rfl rfl (fun _ _ => .cc (cV) rfl) ?_
       refine .y 8 4 rfl (by kernel_rfl) ?_
       refine TE.obj 4 (.box 41 (hdv v)) rfl rfl ?_
       cases okk with
       | true =>
        cases here with
        | true =>
         by_cases hve : v = (valueH p.e.ver p.e.key)
         ·skip
          refine .d 0 5 rfl ?_
          refine .v 7 5 [4] rfl rfl (fun _ _ => .lp (hdv v) rfl) ?_
          refine .v 6 5 [] rfl rfl (fun _ _ => .cf (value_pf p.e.ver p.e.key hu0.2.1 hu0.2.2) rfl) ?_
          refine .v 0 5 [] rfl rfl (fun _ _ => .nehf (a := v) (b := (valueH p.e.ver p.e.key)) (hve) rfl rfl rfl qh41) ?_
          refine .y 1 5 rfl (by kernel_rfl) ?_
          rw [redeemG_ok c1 c2 c3 hk1 hk2 q8 hv (congrArg H.l hve)]
          exact .z 2 5 rfl (TE.retf rfl rfl rfl (okv rfl))
         ·skip
          have hne : ¬ H.l v = H.l (valueH p.e.ver p.e.key) := fun q => hve (H.l_inj q)
          have hpr : true = false ∨ true = false ∨ ¬ H.l v = H.l (valueH p.e.ver p.e.key) := .inr (.inr hne)
          refine .d 0 5 rfl ?_
          refine .v 7 5 [4] rfl rfl (fun _ _ => .lp (hdv v) rfl) ?_
          refine .v 6 5 [] rfl rfl (fun _ _ => .cf (value_pf p.e.ver p.e.key hu0.2.1 hu0.2.2) rfl) ?_
          refine .v 0 5 [] rfl rfl (fun _ _ => .neht (a := v) (b := (valueH p.e.ver p.e.key)) (hne) rfl rfl rfl qh41) ?_
          refine .y 1 5 rfl (by kernel_rfl) ?_
          rw [redeemG_proof c1 c2 c3 hk1 hk2 q8 hv hpr]
          exact .z 2 5 rfl (TE.retf rfl rfl rfl (okv rfl))
        | false =>
         have hpr : true = false ∨ false = false ∨ ¬ H.l v = H.l (valueH p.e.ver p.e.key) := .inr (.inl rfl)
         refine .d 0 5 rfl ?_
         refine .y 17 5 rfl (by kernel_rfl) ?_
         rw [redeemG_proof c1 c2 c3 hk1 hk2 q8 hv hpr]
         exact .z 2 5 rfl (TE.retf rfl rfl rfl (okv rfl))
       | false =>
        have hpr : false = false ∨ here = false ∨ ¬ H.l v = H.l (valueH p.e.ver p.e.key) := .inl rfl
        refine .d 0 5 rfl ?_
        refine .y 17 5 rfl (by kernel_rfl) ?_
        rw [redeemG_proof c1 c2 c3 hk1 hk2 q8 hv hpr]
        exact .z 2 5 rfl (TE.retf rfl rfl rfl (okv rfl))
     | false =>
      have hsg : checkQ y p = false ∨ checkH y h = false := .inr hk2
      refine .t 4 4 rfl rfl (.lp (p.dv) rfl) ?_
      refine .t 0 5 rfl rfl (.cf (cQ) rfl) ?_
      refine .t 3 5 rfl rfl (.lp (h.dv) rfl) ?_
      refine .t 0 5 rfl rfl (.cf (cH) rfl) ?_
      rw [redeemG_sig c1 c2 c3 hsg]
      exact .z 5 5 rfl (TE.retf rfl rfl rfl (okv rfl))
    | false =>
     have hsg : checkQ y p = false ∨ checkH y h = false := .inl hk1
     refine .t 4 4 rfl rfl (.lp (p.dv) rfl) ?_
     refine .t 0 5 rfl rfl (.cf (cQ) rfl) ?_
     rw [redeemG_sig c1 c2 c3 hsg]
     exact .z 10 5 rfl (TE.retf rfl rfl rfl (okv rfl))
   ·skip
    have hbad : ¬ ea = 0 ∨ ¬ eb = 0 ∨ ¬ ec = 0 := .inr (.inr c3)
    refine .t 1 5 rfl rfl (.bv (.bool false) rfl (congrArg Value.bool (by simp [c1]))) ?_
    refine .t 2 5 rfl rfl (.bv (.bool false) rfl (congrArg Value.bool (by simp [c2]))) ?_
    refine .t 3 5 rfl rfl (.bv (.bool true) rfl (congrArg Value.bool (by simp [c3]))) ?_
    rw [redeemG_bytes hbad]
    exact .z 4 5 rfl (TE.retf rfl rfl rfl (okv rfl))
  ·skip
   have hbad : ¬ ea = 0 ∨ ¬ eb = 0 ∨ ¬ ec = 0 := .inr (.inl c2)
   refine .t 1 5 rfl rfl (.bv (.bool false) rfl (congrArg Value.bool (by simp [c1]))) ?_
   refine .t 2 5 rfl rfl (.bv (.bool true) rfl (congrArg Value.bool (by simp [c2]))) ?_
   rw [redeemG_bytes hbad]
   exact .z 8 5 rfl (TE.retf rfl rfl rfl (okv rfl))
 ·skip
  have hbad : ¬ ea = 0 ∨ ¬ eb = 0 ∨ ¬ ec = 0 := .inl c1
  refine .t 1 5 rfl rfl (.bv (.bool true) rfl (congrArg Value.bool (by simp [c1]))) ?_
  rw [redeemG_bytes hbad]
  exact .z 11 5 rfl (TE.retf rfl rfl rfl (okv rfl))
end Go.Proofs.YtdjcclcejmeheaaGreat
/-
  Two proofs that say unlike things: the two texts that they tell, in plain words.
-/
namespace Go.Proofs.YtdjcclcejmeheaaGreat
set_option linter.unusedVariables false
set_option linter.unusedSimpArgs false
open Go.RowKit Pl
end Go.Proofs.YtdjcclcejmeheaaGreat
/-
  The proof of an index proves what the tree says of it: plain words.
-/
namespace Go.Proofs.YtdjcclcejmeheaaGreat
set_option linter.unusedVariables false
set_option linter.unusedSimpArgs false
open Go.RowKit Pl
/-- A way is climbed from its end. -/
def upH (ix : H) : Nat → List H → H → H
  | _, [], e => e
  | k, o :: r, e => sumH (stepT ix o (upH ix (k + 1) r e) k)
theorem txH_up {ix : H} {p : Pf} : ∀ m, m ≤ p.path.length → txH ix p m = upH ix (p.path.length - m) (p.path.drop (p.path.length - m)) (sumH (endT p))
  | 0, _ => by rw [Nat.sub_zero, List.drop_length]; rfl
  | m + 1, h => by
    have hj : p.path.length - 1 - m < p.path.length := by omega
    have e : p.path.length - (m + 1) = p.path.length - 1 - m := by omega
    rw [txH_step hj, txH_up m (by omega), e, List.drop_eq_getElem_cons hj, upH, show p.path.length - 1 - m + 1 = p.path.length - m by omega]
theorem txH_all (ix : H) (p : Pf) : txH ix p p.path.length = upH ix 0 p.path (sumH (endT p)) := by
  have := txH_up (ix := ix) (p := p) p.path.length (Nat.le_refl _)
  rwa [Nat.sub_self, List.drop_zero] at this
def endH : List It → H
  | [] => emptyH
  | x :: _ => leafH x
theorem mkG_up {ix : H} : ∀ (f k : Nat) (l : List It), okT f k l → upH ix k (mkG ix f k l).1 (endH (mkG ix f k l).2) = belowH (f + 1) k l
  | 0, k, l, h => by
    have h2 : l.length < 2 := h
    match l, h2 with
    | [], _ => rfl
    | [x], _ => rfl
  | f + 1, k, l, h => by
    by_cases h2 : l.length < 2
    · rw [mkG_end h2]
      match l, h2 with
      | [], _ => rfl
      | [x], _ => rfl
    · obtain ⟨g, eg, hk, hs, o1, o2⟩ := okT_two h h2
      obtain rfl : g = f := by omega
      rw [belowH_two h2]
      by_cases hb : bitI ix (k : Int) = 1
      · rw [mkG_one h2 hb]
        simp only [upH]
        rw [mkG_up g (k + 1) _ o2]
        unfold stepT
        rw [if_pos hb]; rfl
      · rw [mkG_zero h2 hb]
        simp only [upH]
        rw [mkG_up g (k + 1) _ o1]
        unfold stepT
        rw [if_neg hb]; rfl
/-- What a way's end holds: no more than one item, of those there, along the index; and the index's own, if it is there. -/
theorem mkG_mem {ix : H} : ∀ (f k : Nat) (l : List It), okT f k l → k + f ≤ 256 → (mkG ix f k l).2.length < 2 ∧ (mkG ix f k l).1.length ≤ f ∧ (∀ x ∈ (mkG ix f k l).2, x ∈ l ∧ ∀ j, k ≤ j → j < k + (mkG ix f k l).1.length → bitN x.ix j = bitN ix j) ∧ (∀ x ∈ l, x.ix = ix → x ∈ (mkG ix f k l).2)
  | 0, k, l, h, _ => ⟨h, Nat.le_refl _, fun x hx => ⟨hx, fun j h1 h2 => absurd (show j < k from h2) (by omega)⟩, fun x hx _ => hx⟩
  | f + 1, k, l, h, hk => by
    by_cases h2 : l.length < 2
    · rw [mkG_end h2]
      exact ⟨h2, Nat.zero_le _, fun x hx => ⟨hx, fun j h1 h2 => absurd (show j < k from h2) (by omega)⟩, fun x hx _ => hx⟩
    · obtain ⟨g, eg, hk', hs, o1, o2⟩ := okT_two h h2
      obtain rfl : g = f := by omega
      have hbn := bitI_nat ix hk'
      have hlt := bitN_lt ix k
      by_cases hb : bitI ix (k : Int) = 1
      · rw [mkG_one h2 hb]
        obtain ⟨q1, q2, q3, q4⟩ := mkG_mem (ix := ix) g (k + 1) _ o2 (by omega)
        refine ⟨q1, by simp only [List.length_cons]; omega, fun x hx => ?_, fun x hx he => q4 x (List.mem_filter.2 ⟨hx, ?_⟩) he⟩
        · obtain ⟨m1, m2⟩ := q3 x hx
          obtain ⟨m3, m4⟩ := List.mem_filter.1 m1
          refine ⟨m3, fun j h1 h2 => ?_⟩
          rcases Nat.lt_or_ge k j with h | h
          · exact m2 j h (by simp only [List.length_cons] at h2; omega)
          · obtain rfl : j = k := by omega
            have := bitN_lt x.ix j
            simp only [bit0, Bool.not_eq_true', beq_eq_false_iff_ne] at m4
            omega
        · subst he
          simp only [bit0, Bool.not_eq_true', beq_eq_false_iff_ne]; omega
      · rw [mkG_zero h2 hb]
        obtain ⟨q1, q2, q3, q4⟩ := mkG_mem (ix := ix) g (k + 1) _ o1 (by omega)
        refine ⟨q1, by simp only [List.length_cons]; omega, fun x hx => ?_, fun x hx he => q4 x (List.mem_filter.2 ⟨hx, ?_⟩) he⟩
        · obtain ⟨m1, m2⟩ := q3 x hx
          obtain ⟨m3, m4⟩ := List.mem_filter.1 m1
          refine ⟨m3, fun j h1 h2 => ?_⟩
          rcases Nat.lt_or_ge k j with h | h
          · exact m2 j h (by simp only [List.length_cons] at h2; omega)
          · obtain rfl : j = k := by omega
            simp only [bit0, beq_iff_eq] at m4
            omega
        · subst he
          simp only [bit0, beq_iff_eq]; omega
theorem sameB_of {ix jx : H} {n : Nat} (hn : n ≤ 256) (h : ∀ j, j < n → bitN jx j = bitN ix j) : sameB ix jx n = true := by
  unfold sameB
  rw [List.all_eq_true]
  intro j hj
  have hj := List.mem_range.1 hj
  rw [bitI_nat _ (by omega), bitI_nat _ (by omega), h j hj]
  simp
/-- What the proof of an index is. -/
theorem mkP_all {ix : H} {l : List It} (hs : Str l) : rightF ix (mkP ix l) = true ∧ txH ix (mkP ix l) (mkP ix l).path.length = belowH 257 0 l ∧ ((mkP ix l).en = 0 ↔ ∃ x ∈ l, x.ix = ix) ∧ (∀ x ∈ l, x.ix = ix → (mkP ix l).it = x) ∧ (mkP ix l).path.length ≤ 256 ∧ 0 ≤ (mkP ix l).en ∧ (mkP ix l).en ≤ 2 := by
  have hup := mkG_up (ix := ix) 256 0 l (okT_str hs)
  obtain ⟨q1, q2, q3, q4⟩ := mkG_mem (ix := ix) 256 0 l (okT_str hs) (Nat.le_refl _)
  have e1 : (mkG ix 256 0 l).1 = (mkG ix 256 0 l).1 := rfl
  generalize hp : (mkG ix 256 0 l).1 = path at *
  generalize hm : (mkG ix 256 0 l).2 = m at *
  match m, q1 with
  | [], _ =>
    rw [mkP_nil hp.symm hm.symm]
    refine ⟨?_, ?_, ?_, fun x hx he => absurd (q4 x hx he) (by simp), q2, by simp, by simp⟩
    · rw [rightF_nobody (by simp only; omega) rfl]; simp
    · rw [txH_all]; exact hup
    · exact ⟨fun h => by simp at h, fun ⟨x, hx, he⟩ => absurd (q4 x hx he) (by simp)⟩
  | [x], _ =>
    obtain ⟨hx, hbit⟩ := q3 x (by simp)
    by_cases he : H.l x.ix = H.l ix
    · rw [mkP_here hp.symm hm.symm he]
      refine ⟨?_, ?_, ?_, fun y hy e => (List.mem_singleton.1 (q4 y hy e)).symm, q2, by simp, by simp⟩
      · rw [rightF_here (by simp only; omega) rfl]; simpa using he
      · rw [txH_all]; exact hup
      · exact ⟨fun _ => ⟨x, hx, H.l_inj he⟩, fun _ => rfl⟩
    · rw [mkP_other hp.symm hm.symm he]
      refine ⟨?_, ?_, ?_, fun y hy e => (List.mem_singleton.1 (q4 y hy e)).symm, q2, by simp, by simp⟩
      · rw [rightF_other (by simp only; omega) rfl, sameB_of (by simp only; omega) (fun j hj => hbit j (Nat.zero_le _) (by simpa using hj))]
        simpa using he
      · rw [txH_all]; exact hup
      · refine ⟨fun h => by simp at h, fun ⟨y, hy, e⟩ => ?_⟩
        have := q4 y hy e
        simp only [List.mem_singleton] at this
        subst this; subst e
        exact absurd rfl he
/-- Whether an index is among items. -/
def thereB (ix : H) (l : List It) : Bool := l.any fun x => decide (H.l x.ix = H.l ix)
theorem thereB_iff {ix : H} {l : List It} : thereB ix l = true ↔ ∃ x ∈ l, x.ix = ix := by
  unfold thereB
  rw [List.any_eq_true]
  exact ⟨fun ⟨x, h, e⟩ => ⟨x, h, H.l_inj (of_decide_eq_true e)⟩, fun ⟨x, h, e⟩ => ⟨x, h, by rw [e]; simp⟩⟩
theorem there_set (ix : H) (l : List It) : (∃ x ∈ setR l [], x.ix = ix) ↔ ∃ x ∈ l, x.ix = ix := by
  have h := (setR_spec l []).2 (H.l ix)
  rw [List.append_nil] at h
  have key : ∀ m : List It, (∃ x ∈ m, x.ix = ix) ↔ cls (H.l ix) m ≠ [] := fun m => by
    constructor
    · rintro ⟨x, hx, rfl⟩ e
      have : x ∈ cls (H.l x.ix) m := List.mem_filter.2 ⟨hx, by simp⟩
      rw [e] at this; cases this
    · intro e
      cases hc : cls (H.l ix) m with
      | nil => exact absurd hc e
      | cons x r =>
        have : x ∈ cls (H.l ix) m := by rw [hc]; simp
        obtain ⟨h1, h2⟩ := List.mem_filter.1 this
        exact ⟨x, h1, H.l_inj (by simpa using h2)⟩
  rw [key, key, h]
  cases hc : cls (H.l ix) l with
  | nil => simp
  | cons x r =>
    simp only [List.reverse_cons, ne_eq, List.take_eq_nil_iff]
    simp
theorem check_made (ix : H) (l : List It) : checkV (rootH l) ix (mkP ix (setR l [])) = (if thereB ix l = true then ((mkP ix (setR l [])).it.vl, true, true) else (zeroH, false, true)) := by
  obtain ⟨h1, h2, h3, h4, _⟩ := mkP_all (ix := ix) (setR_str l [])
  have hr : H.l (txH ix (mkP ix (setR l [])) (mkP ix (setR l [])).path.length) = H.l (rootH l) := by rw [h2]; rfl
  by_cases e : thereB ix l = true
  · rw [if_pos e, checkV_here h1 hr (h3.2 ((there_set ix l).2 (thereB_iff.1 e)))]
  · rw [if_neg e, checkV_no h1 hr (fun h0 => e (thereB_iff.2 ((there_set ix l).1 (h3.1 h0))))]
theorem rightF_made (ix : H) (l : List It) : rightF ix (mkP ix (setR l [])) = true := (mkP_all (setR_str l [])).1
theorem mkP_short (ix : H) (l : List It) : (mkP ix (setR l [])).path.length ≤ 256 := (mkP_all (setR_str l [])).2.2.2.2.1
end Go.Proofs.YtdjcclcejmeheaaGreat
/-
  Proofs come back from their bytes, and from no shorter or longer ones: plain words.
-/
namespace Go.Proofs.YtdjcclcejmeheaaGreat
set_option linter.unusedVariables false
set_option linter.unusedSimpArgs false
open Go.RowKit Pl
theorem stK_app (path : List H) (t : List UInt8) : ∀ k, k ≤ path.length → stK (path.flatMap H.l ++ t, 0) k = ((path.drop k).flatMap H.l ++ t, 0) ∧ hsK (path.flatMap H.l ++ t, 0) k = path.take k
  | 0, _ => ⟨rfl, rfl⟩
  | k + 1, h => by
    obtain ⟨h1, h2⟩ := stK_app path t k (by omega)
    have hk : k < path.length := by omega
    rw [stK, hsK, h1, h2, List.drop_eq_getElem_cons hk, List.flatMap_cons, List.append_assoc, rdH_app, rdS_app _ _ (H.l_len _), take_snoc' hk]
    exact ⟨rfl, rfl⟩
theorem stK_path (path : List H) (t : List UInt8) : stK (path.flatMap H.l ++ t, 0) path.length = (t, 0) ∧ hsK (path.flatMap H.l ++ t, 0) path.length = path := by
  obtain ⟨h1, h2⟩ := stK_app path t path.length (Nat.le_refl _)
  rw [h1, h2, List.drop_length, List.take_length]
  exact ⟨rfl, rfl⟩
/-- A proof's bytes and more behind them. -/
theorem read_put (p : Pf) (t : List UInt8) (hl : p.path.length ≤ 256) (h0 : 0 ≤ p.en) (h2 : p.en ≤ 2) : readP (putB p ++ t) = if t = [] then (p, 0) else (zeroP, 20) := by
  have e : putB p ++ t = numB (p.path.length : Int) ++ (p.path.flatMap H.l ++ (numB (u64w p.en) ++ (H.l p.it.ix ++ (H.l p.it.vl ++ t)))) := by
    rw [← putB_app]; unfold putK; rw [List.take_length]; simp only [List.append_assoc]
  have hu : u64w p.en = p.en := by unfold u64w; omega
  rw [hu] at e
  have e1 : rdS (putB p ++ t, 0) 8 = (p.path.flatMap H.l ++ (numB p.en ++ (H.l p.it.ix ++ (H.l p.it.vl ++ t))), 0) := by rw [e]; exact rdS_app _ _ (numB_len _)
  have e2 : rdN (putB p ++ t, 0) = (p.path.length : Int) := by rw [e, rdN_app _ _ (numB_len _), leNum_numB _ (by omega) (by omega)]
  rw [readP_ok (by rw [e1]) (by rw [e2]; omega), e1, e2, Int.toNat_natCast]
  obtain ⟨k1, k2⟩ := stK_path p.path (numB p.en ++ (H.l p.it.ix ++ (H.l p.it.vl ++ t)))
  have en : rdN (numB p.en ++ (H.l p.it.ix ++ (H.l p.it.vl ++ t)), 0) = p.en := by rw [rdN_app _ _ (numB_len _), leNum_numB _ (by omega) (by omega)]
  have tl : tlS (p.path.flatMap H.l ++ (numB p.en ++ (H.l p.it.ix ++ (H.l p.it.vl ++ t))), 0) p.path.length = (t, 0) := by
    unfold tlS; rw [k1, rdS_app _ _ (numB_len _), rdS_app _ _ (H.l_len _), rdS_app _ _ (H.l_len _)]
  by_cases ht : t = []
  · rw [if_pos ht, readE_ok (by rw [tl]) (by rw [k1, en]; omega) (by rw [tl, ht]; simp), k1, k2, en, rdS_app _ _ (numB_len _), rdH_app, rdS_app _ _ (H.l_len _), rdH_app]
  · rw [if_neg ht, readE_form (by rw [tl]) (.inr (by rw [tl]; exact List.length_pos_iff.2 ht))]
end Go.Proofs.YtdjcclcejmeheaaGreat
/-
  The laws' indices and bent proofs: plain words.
-/
namespace Go.Proofs.YtdjcclcejmeheaaGreat
set_option linter.unusedVariables false
set_option linter.unusedSimpArgs false
open Go.RowKit Pl
def hB (h : H) (j : Nat) : UInt8 := if hk : j < 32 then h ⟨j, hk⟩ else 0
end Go.Proofs.YtdjcclcejmeheaaGreat
/-
  What is known of the least trees' proofs.
-/
namespace Go.Proofs.YtdjcclcejmeheaaGreat
set_option linter.unusedVariables false
set_option linter.unusedSimpArgs false
open Go.RowKit Pl
end Go.Proofs.YtdjcclcejmeheaaGreat
/-
  Proofs that come in; what the laws of proofs use besides.
-/
namespace Go.Proofs.YtdjcclcejmeheaaGreat
set_option linter.unusedVariables false
set_option linter.unusedSimpArgs false
set_option maxRecDepth 20000
open Go.RowKit Pl
theorem check_made' (ix : H) (l : List It) : ∃ v, checkV (rootH l) ix (mkP ix (setR l [])) = (v, thereB ix l, true) ∧ (thereB ix l = false → v = zeroH) := by
  rw [check_made]
  cases thereB ix l with
  | true => exact ⟨_, rfl, fun h => by cases h⟩
  | false => exact ⟨_, rfl, fun _ => rfl⟩
end Go.Proofs.YtdjcclcejmeheaaGreat
/-
  What a set's own items' proofs prove.
-/
namespace Go.Proofs.YtdjcclcejmeheaaGreat
set_option linter.unusedVariables false
set_option linter.unusedSimpArgs false
open Go.RowKit Pl
theorem check_mine {X : List It} (hs : Str X) {x : It} (hx : x ∈ X) : checkV (rootH X) x.ix (mkP x.ix X) = (x.vl, true, true) := by
  obtain ⟨h1, h2, h3, h4, _⟩ := mkP_all (ix := x.ix) hs
  have e := check_made x.ix X
  rw [setR_self hs, if_pos (thereB_iff.2 ⟨x, hx, rfl⟩), h4 x hx rfl] at e
  exact e
theorem check_anyX {X : List It} (hs : Str X) (ix : H) : ∃ v, checkV (rootH X) ix (mkP ix X) = (v, thereB ix X, true) := by
  obtain ⟨v, h, _⟩ := check_made' ix X
  rw [setR_self hs] at h
  exact ⟨v, h⟩
end Go.Proofs.YtdjcclcejmeheaaGreat
/-
  Aggregates compared, in general; heads compared; what comes in as a head; what is known of a head; bent heads: the plain values.
-/
namespace Go.Proofs.YtdjcclcejmeheaaGreat
set_option linter.unusedVariables false
set_option linter.unusedSimpArgs false
open Go.RowKit Pl
set_option maxRecDepth 100000
section
variable {P : Program} {C : Cx} {L : Lo} {Γ : Ga} {d : Nat} {ty : TypeId} {pos : String} {af : Array Edge} {gd : Option (Nat × Bool)}
end
def hdFit (h : Hd) : Prop := (-9223372036854775808 ≤ h.ep ∧ h.ep < 9223372036854775808) ∧ (-9223372036854775808 ≤ h.tk ∧ h.tk < 9223372036854775808) ∧ (-9223372036854775808 ≤ h.ct ∧ h.ct < 9223372036854775808) ∧ h.ok
theorem right_fit {h : Hd} (r : rightH h = true) (ho : h.ok) : hdFit h := by
  unfold rightH at r; simp only [decide_eq_true_eq] at r
  exact ⟨by omega, by omega, by omega, ho⟩
theorem fit_sign {h : Hd} (x : Int) (f : hdFit h) : hdFit (signH x h) := ⟨f.1, f.2.1, f.2.2.1, signH_ok x h⟩
theorem check_own' {x : Int} (hx : u64I x) {h : Hd} (r : rightH h = true) : checkH (pubF x) (signH x h) = true := by
  have r' : rightH (signH x h) = true := r
  rw [checkH_yes r']
  have q := check_own (x % 2305843009213693950) (msgB h) (Int.emod_nonneg _ (by decide)) (Int.emod_lt_of_pos _ (by decide))
  rw [pub_mod] at q
  exact q
end Go.Proofs.YtdjcclcejmeheaaGreat

