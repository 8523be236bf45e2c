/-
  What stories are like.
-/
import Derived.Test.YtkkgjmfnlabbdaaDv
namespace Go.Proofs.Ytkkgjmfnlabbdaa
set_option linter.unusedVariables false
set_option linter.unusedSimpArgs false
open Go.RowKit Pl

def cntN (seen : List UInt8) (nm : List UInt8) : Nat := (seen.filter (fun b => decide (nameL b.toNat = nm))).length
theorem cntN_snoc (seen : List UInt8) (b : UInt8) (nm : List UInt8) : cntN (seen ++ [b]) nm = cntN seen nm + if nameL b.toNat = nm then 1 else 0 := by
  unfold cntN
  rw [List.filter_append, List.length_append]
  by_cases h : nameL b.toNat = nm <;> simp [h]
theorem cntN_le (seen : List UInt8) (nm : List UInt8) : cntN seen nm ≤ seen.length := List.length_filter_le _ _
theorem latR_le {l : List Kn} {nm : List UInt8} {k : Kn} (hk : k ∈ l) (hn : k.nm = nm) : k.ver ≤ (latR l nm).1.ver := by
  obtain ⟨j, hj, rfl⟩ := List.getElem_of_mem hk
  obtain ⟨i, hi, e, _, hm⟩ := latR_some hj hn
  rw [e]; exact hm j hj hn
theorem latR_in {l : List Kn} {nm : List UInt8} {k : Kn} (hk : k ∈ l) (hn : k.nm = nm) : (latR l nm).1 ∈ l ∧ (latR l nm).1.nm = nm := by
  obtain ⟨j, hj, rfl⟩ := List.getElem_of_mem hk
  obtain ⟨i, hi, e, h, hm⟩ := latR_some hj hn
  rw [e]; exact ⟨List.getElem_mem hi, h⟩
theorem latR_no {l : List Kn} {nm : List UInt8} (h : ∀ k ∈ l, k.nm ≠ nm) : latR l nm = (zeroK, false) := latR_none fun j hj => h _ (List.getElem_mem hj)
theorem keyF_pos (nm : List UInt8) (v : Int) (alt : Bool) : 1 ≤ keyF nm v alt := pub_pos _
theorem keyF_lt (nm : List UInt8) (v : Int) (alt : Bool) : keyF nm v alt < 2305843009213693951 := (pubF_bd _).2
theorem rightE_of {n : List UInt8} {v k : Int} (h1 : 1 ≤ n.length) (h2 : n.length ≤ 32) (h3 : 1 ≤ v) (h4 : v ≤ 1073741824) (h5 : 1 ≤ k) (h6 : k < 2305843009213693951) : rightE n v k = true := by
  unfold rightE; simp [h1, h2, h3, h4, h5, h6]
theorem rightU_of {u : Up} (h1 : 1 ≤ u.nm.length) (h2 : u.nm.length ≤ 32) (h3 : 1 ≤ u.ver) (h4 : u.ver ≤ 1073741824) (h5 : 1 ≤ u.key) (h6 : u.key < 2305843009213693951) (h7 : u.cls = 0 ∨ u.cls = 1) : rightU u = true := by
  unfold rightU; rw [rightE_of h1 h2 h3 h4 h5 h6]; rcases h7 with h | h <;> simp [h]
/-- A directory of a story. -/
structure KI (seen : List UInt8) (kn : List Kn) : Prop where
  len : kn.length = seen.length
  srt : Srt kn
  mem : ∀ k ∈ kn, 1 ≤ k.ver ∧ k.ver ≤ seen.length ∧ k.key = keyF k.nm k.ver false ∧ k.ep ≤ seen.length ∧ 1 ≤ k.nm.length ∧ k.nm.length ≤ 32
  cnt : ∀ nm, (latR kn nm).1.ver = cntN seen nm
  key : ∀ nm, (latR kn nm).1.key = if cntN seen nm = 0 then 0 else keyF nm (cntN seen nm) false
theorem drop_not {e : En} : ∀ {l : List Kn}, Srt l → ∀ k ∈ l.dropWhile (lessK · e), ¬ ltN k.nm k.ver e.nm e.ver
  | [], _, k, hk => by cases hk
  | x :: t, hs, k, hk => by
    unfold Srt at hs
    rw [List.pairwise_cons] at hs
    rw [List.dropWhile_cons] at hk
    split at hk
    · exact drop_not hs.2 k hk
    · rename_i hx
      have hx' : ¬ ltN x.nm x.ver e.nm e.ver := fun q => hx (by unfold lessK; rcases q with q | ⟨q, r⟩ <;> simp [q]; exact .inr r)
      rcases List.mem_cons.1 hk with rfl | hk
      · exact hx'
      · exact fun q => hx' (ltN_trans (hs.1 k hk) q)
theorem while_lt {e : En} {l : List Kn} {k : Kn} (h : k ∈ l.takeWhile (lessK · e)) : ltN k.nm k.ver e.nm e.ver := by
  have : ∀ {l : List Kn}, k ∈ l.takeWhile (lessK · e) → lessK k e = true := by
    intro l
    induction l with
    | nil => intro h; cases h
    | cons x t ih =>
      intro h
      rw [List.takeWhile_cons] at h
      split at h
      · rcases List.mem_cons.1 h with rfl | h
        · assumption
        · exact ih h
      · cases h
  have := this h
  unfold lessK at this
  simp only [Bool.or_eq_true, Bool.and_eq_true, decide_eq_true_eq] at this
  exact this
theorem mem_insK' {e : En} {ep : Int} {l : List Kn} : (⟨e.nm, e.ver, e.key, ep⟩ : Kn) ∈ insK e ep l ∧ ∀ x ∈ l, x ∈ insK e ep l := by
  unfold insK
  refine ⟨by simp, fun x hx => ?_⟩
  rw [← List.takeWhile_append_dropWhile (p := (lessK · e)) (l := l)] at hx
  rw [List.mem_append] at hx ⊢
  exact hx.elim .inl (fun h => .inr (List.mem_cons_of_mem _ h))
theorem ltN_tri {a b : List UInt8} {u v : Int} (h : ¬ ltN a u b v) (hne : ¬ (a = b ∧ u = v)) : ltN b v a u := by
  rcases bl_tri a b with q | q | q
  · exact absurd (.inl q) h
  · subst q
    have : ¬ u < v := fun q => h (.inr ⟨rfl, q⟩)
    exact .inr ⟨rfl, by have : u ≠ v := fun q => hne ⟨rfl, q⟩; omega⟩
  · exact .inl q
theorem srt_insK {e : En} {ep : Int} {l : List Kn} (hs : Srt l) (hn : ∀ k ∈ l, ¬ (k.nm = e.nm ∧ k.ver = e.ver)) : Srt (insK e ep l) := by
  have hs' := hs
  unfold Srt at hs
  rw [← List.takeWhile_append_dropWhile (p := (lessK · e)) (l := l), List.pairwise_append] at hs
  obtain ⟨h1, h2, h3⟩ := hs
  have hd : ∀ k ∈ l.dropWhile (lessK · e), ltN e.nm e.ver k.nm k.ver := fun k hk => ltN_tri (drop_not hs' k hk) (hn k ((List.dropWhile_suffix _).subset hk))
  unfold Srt insK
  rw [List.pairwise_append, List.pairwise_cons]
  refine ⟨h1, ⟨fun k hk => hd k hk, h2⟩, fun a ha b hb => ?_⟩
  rcases List.mem_cons.1 hb with rfl | hb
  · exact while_lt ha
  · exact h3 a ha b hb
theorem KI.step {seen : List UInt8} {kn : List Kn} (h : KI seen kn) (hm : seen.length ≤ 1000) (b : UInt8) : KI (seen ++ [b]) (addR kn ((seen.length + 1 : Nat) : Int) [storyE kn b]).1 := by
  have hv : i64w ((latR kn (nameL b.toNat)).1.ver + 1) = ((cntN seen (nameL b.toNat) + 1 : Nat) : Int) := by
    have := cntN_le seen (nameL b.toNat)
    rw [h.cnt, i64w_small (by omega) (by omega)]; omega
  have hE : storyE kn b = ⟨nameL b.toNat, ((cntN seen (nameL b.toNat) + 1 : Nat) : Int), keyF (nameL b.toNat) ((cntN seen (nameL b.toNat) + 1 : Nat) : Int) false⟩ := by unfold storyE; rw [hv]
  have hl := nameL_len (b.toNat : Int)
  have hle := cntN_le seen (nameL b.toNat)
  have hadd : addR kn ((seen.length + 1 : Nat) : Int) [storyE kn b] = (insK (storyE kn b) ((seen.length + 1 : Nat) : Int) kn, true) := by
    unfold addR
    rw [if_neg (fun q => q.elim (fun q => by omega) (fun ⟨k, hk, q⟩ => by have := (h.mem k hk).2.2.2.1; omega))]
    unfold addGo
    rw [if_pos ⟨by rw [hE]; exact rightE_of hl.1 hl.2 (by simp only []; omega) (by simp only []; omega) (keyF_pos _ _ _) (keyF_lt _ _ _), rfl, by simp⟩]
    rfl
  rw [hadd, hE]
  generalize he : (⟨nameL b.toNat, ((cntN seen (nameL b.toNat) + 1 : Nat) : Int), keyF (nameL b.toNat) ((cntN seen (nameL b.toNat) + 1 : Nat) : Int) false⟩ : En) = e
  have en : e.nm = nameL b.toNat := by rw [← he]
  have ev : e.ver = ((cntN seen (nameL b.toNat) + 1 : Nat) : Int) := by rw [← he]
  have ek : e.key = keyF (nameL b.toNat) ((cntN seen (nameL b.toNat) + 1 : Nat) : Int) false := by rw [← he]
  clear he
  have hold : ∀ k ∈ kn, k.nm = e.nm → k.ver < e.ver := fun k hk q => by
    have := latR_le hk (q.trans en); rw [h.cnt] at this; rw [ev]; omega
  have hin := fun (x : Kn) (hx : x ∈ insK e ((seen.length + 1 : Nat) : Int) kn) => mem_insK hx
  have hcnt : ∀ nm, (latR (insK e ((seen.length + 1 : Nat) : Int) kn) nm).1.ver = cntN (seen ++ [b]) nm := by
    intro nm
    rw [cntN_snoc]
    by_cases hn : nameL b.toNat = nm
    · rw [if_pos hn]
      have hn' : e.nm = nm := en.trans hn
      have h1 := latR_le (mem_insK' (e := e) (ep := ((seen.length + 1 : Nat) : Int)) (l := kn)).1 hn'
      obtain ⟨h2, h3⟩ := latR_in (mem_insK' (e := e) (ep := ((seen.length + 1 : Nat) : Int)) (l := kn)).1 hn'
      rcases hin _ h2 with q | q
      · rw [q]; show e.ver = _; rw [ev, hn]
      · have := hold _ q (h3.trans hn'.symm)
        simp only at h1; omega
    · rw [if_neg hn]
      show _ = ((cntN seen nm : Nat) : Int)
      rw [← h.cnt]
      have hne : e.nm ≠ nm := fun q => hn (en.symm.trans q)
      by_cases hx : ∃ k ∈ kn, k.nm = nm
      · obtain ⟨k, hk, hkn⟩ := hx
        obtain ⟨a1, a2⟩ := latR_in hk hkn
        obtain ⟨b1, b2⟩ := latR_in (mem_insK'.2 k hk : k ∈ insK e ((seen.length + 1 : Nat) : Int) kn) hkn
        rcases hin _ b1 with q | q
        · exact absurd (by rw [q] at b2; exact b2) hne
        · have c1 := latR_le q b2
          have c2 := latR_le (mem_insK'.2 _ a1 : _ ∈ insK e ((seen.length + 1 : Nat) : Int) kn) a2
          omega
      · have q1 := latR_no (l := kn) (nm := nm) (fun k hk q => hx ⟨k, hk, q⟩)
        have q2 := latR_no (l := insK e ((seen.length + 1 : Nat) : Int) kn) (nm := nm) (fun k hk q => by
          rcases hin k hk with r | r
          · subst r; exact hne q
          · exact hx ⟨k, r, q⟩)
        rw [q1, q2]
  have hmem : ∀ k ∈ insK e ((seen.length + 1 : Nat) : Int) kn, 1 ≤ k.ver ∧ k.ver ≤ (seen ++ [b]).length ∧ k.key = keyF k.nm k.ver false ∧ k.ep ≤ (seen ++ [b]).length ∧ 1 ≤ k.nm.length ∧ k.nm.length ≤ 32 := by
    intro k hk
    simp only [List.length_append, List.length_cons, List.length_nil]
    rcases hin k hk with q | q
    · subst q
      refine ⟨?_, ?_, ?_, ?_, ?_, ?_⟩
      · show 1 ≤ e.ver; rw [ev]; omega
      · show e.ver ≤ _; rw [ev]; omega
      · show e.key = keyF e.nm e.ver false; rw [ek, en, ev]
      · show ((seen.length + 1 : Nat) : Int) ≤ _; omega
      · show 1 ≤ e.nm.length; rw [en]; exact hl.1
      · show e.nm.length ≤ 32; rw [en]; exact hl.2
    · have := h.mem k q
      exact ⟨this.1, by omega, this.2.2.1, by omega, this.2.2.2.2⟩
  refine ⟨by rw [insK_len, h.len]; simp, srt_insK h.srt (fun k hk q => by have := hold k hk q.1; omega), hmem, hcnt, fun nm => ?_⟩
  have hc := hcnt nm
  by_cases hx : ∃ k ∈ insK e ((seen.length + 1 : Nat) : Int) kn, k.nm = nm
  · obtain ⟨k, hk, hkn⟩ := hx
    obtain ⟨a1, a2⟩ := latR_in hk hkn
    have := hmem _ a1
    rw [if_neg (by omega), this.2.2.1, a2, hc]
  · have q := latR_no (l := insK e ((seen.length + 1 : Nat) : Int) kn) (nm := nm) (fun k hk q => hx ⟨k, hk, q⟩)
    rw [q] at hc ⊢
    rw [if_pos (by simp only [zeroK] at hc; omega)]
    rfl
theorem KI.go : ∀ (l seen : List UInt8) (kn : List Kn), KI seen kn → seen.length + l.length ≤ 1000 → KI (seen ++ l) (storyK seen.length kn l)
  | [], seen, kn, h, _ => by simpa [storyK] using h
  | b :: r, seen, kn, h, hm => by
    have := KI.go r (seen ++ [b]) _ (h.step (by simp at hm; omega) b) (by simp at hm ⊢; omega)
    simpa [storyK] using this
theorem KI.nil : KI [] [] := ⟨rfl, List.Pairwise.nil, by simp, fun nm => rfl, fun nm => rfl⟩
theorem KI.of (l : List UInt8) (h : l.length ≤ 1000) : KI l (storyK 0 [] l) := by simpa using KI.go l [] [] KI.nil (by simpa using h)
/-- Those that wait, of a story. -/
structure WI (sl seen : List UInt8) (kn : List Kn) (w : List Pe) : Prop where
  len : w.length = seen.length
  nx : ∀ nm, (nextR kn w nm).1 = ((cntN sl nm + cntN seen nm : Nat) : Int)
  ky : ∀ nm, (nextR kn w nm).2 = if cntN sl nm + cntN seen nm = 0 then 0 else keyF nm ((cntN sl nm + cntN seen nm : Nat) : Int) false
  mem : ∀ p ∈ w, (cntN sl p.u.nm : Int) < p.u.ver ∧ p.u.ver ≤ ((cntN sl p.u.nm + cntN seen p.u.nm : Nat) : Int) ∧ p.u.key = keyF p.u.nm p.u.ver false ∧ 1 ≤ p.u.nm.length ∧ p.u.nm.length ≤ 32
theorem nextR_snoc (kn : List Kn) (w : List Pe) (p : Pe) (nm : List UInt8) : nextR kn (w ++ [p]) nm = nextStep nm (nextR kn w nm) p := by unfold nextR; rw [List.foldl_append]; rfl
theorem WI.step {sl seen : List UInt8} {kn : List Kn} {w : List Pe} (h : WI sl seen kn w) (hm : sl.length + seen.length ≤ 1000) (i : Nat) (b : UInt8) : WI sl (seen ++ [b]) kn (w ++ [storyP kn i w b]) := by
  have h1 := cntN_le sl (nameL b.toNat)
  have h2 := cntN_le seen (nameL b.toNat)
  have hl := nameL_len (b.toNat : Int)
  have hv : i64w ((nextR kn w (nameL b.toNat)).1 + 1) = ((cntN sl (nameL b.toNat) + cntN seen (nameL b.toNat) + 1 : Nat) : Int) := by
    rw [h.nx, i64w_small (by omega) (by omega)]; omega
  have pn : (storyP kn i w b).u.nm = nameL b.toNat := by unfold storyP; exact seatU_nm _ _ _ _
  have pv : (storyP kn i w b).u.ver = ((cntN sl (nameL b.toNat) + cntN seen (nameL b.toNat) + 1 : Nat) : Int) := by unfold storyP; rw [← hv]; exact seatU_ver _ _ _ _
  have pk : (storyP kn i w b).u.key = keyF (nameL b.toNat) ((cntN sl (nameL b.toNat) + cntN seen (nameL b.toNat) + 1 : Nat) : Int) false := by unfold storyP; rw [← hv]; exact seatU_key _ _ _ _
  generalize storyP kn i w b = p at *
  refine ⟨by simp [h.len], fun nm => ?_, fun nm => ?_, fun q hq => ?_⟩
  · rw [nextR_snoc, cntN_snoc]
    unfold nextStep
    by_cases hn : nameL b.toNat = nm
    · rw [if_pos ⟨pn.trans hn, by rw [h.nx, pv, hn]; omega⟩, if_pos hn, pv, hn]; simp only []; omega
    · rw [if_neg (fun q => hn (pn.symm.trans q.1)), if_neg hn, h.nx]; simp
  · rw [nextR_snoc, cntN_snoc]
    unfold nextStep
    by_cases hn : nameL b.toNat = nm
    · rw [if_pos ⟨pn.trans hn, by rw [h.nx, pv, hn]; omega⟩, if_pos hn, pk, hn]; simp [Nat.add_assoc]
    · rw [if_neg (fun q => hn (pn.symm.trans q.1)), if_neg hn, h.ky]; simp
  · rw [cntN_snoc]
    rcases List.mem_append.1 hq with hq | hq
    · obtain ⟨m1, m2, m3⟩ := h.mem q hq
      exact ⟨m1, by omega, m3⟩
    · rw [List.mem_singleton.1 hq, pn, pv, pk]
      refine ⟨by omega, ?_, rfl, hl⟩
      rw [if_pos rfl]; omega
theorem WI.go (sl : List UInt8) (kn : List Kn) : ∀ (l seen : List UInt8) (w : List Pe), WI sl seen kn w → sl.length + seen.length + l.length ≤ 1000 → WI sl (seen ++ l) kn (storyW kn seen.length w l)
  | [], seen, w, h, _ => by simpa [storyW] using h
  | b :: r, seen, w, h, hm => by
    have := WI.go sl kn r (seen ++ [b]) _ (h.step (by simp at hm; omega) seen.length b) (by simp at hm ⊢; omega)
    simpa [storyW] using this
theorem WI.of (l w : List UInt8) (h : l.length + w.length ≤ 1000) : WI l w (storyK 0 [] l) (storyW (storyK 0 [] l) 0 [] w) := by
  have k := KI.of l (by omega)
  have := WI.go l (storyK 0 [] l) w [] [] ⟨rfl, fun nm => by have := k.cnt nm; simpa [nextR, cntN] using this, fun nm => by have := k.key nm; simpa [nextR, cntN] using this, by simp⟩ (by simpa using h)
  simpa using this

/-! What is decided of a story's requests. -/
section
variable {l w : List UInt8} {kn : List Kn} {ww : List Pe}
theorem find_no (k : KI l kn) {nm : List UInt8} {v : Int} (h : (cntN l nm : Int) < v) : findR kn nm v = (zeroK, false) := findR_none fun j hj q => by
  have := latR_le (List.getElem_mem hj) q.1; rw [k.cnt] at this; omega
theorem wait_no (k : WI l w kn ww) {u : Up} (h : ((cntN l u.nm + cntN w u.nm : Nat) : Int) < u.ver) : waitsR ww u = none := waitsR_none fun j hj q => by
  have := (k.mem _ (List.getElem_mem hj)).2.1; rw [q.1, q.2] at this; omega
theorem find_at (k : KI l kn) {x : Kn} (hx : x ∈ kn) : findR kn x.nm x.ver = ((findR kn x.nm x.ver).1, true) ∧ (findR kn x.nm x.ver).1.key = x.key := by
  unfold findR
  cases h : kn.find? (fun k => decide (k.nm = x.nm ∧ k.ver = x.ver)) with
  | none => rw [List.find?_eq_none] at h; have := h x hx; simp at this
  | some y =>
    have h1 := List.find?_some h
    have h2 := List.mem_of_find?_eq_some h
    simp only [decide_eq_true_eq] at h1
    refine ⟨rfl, ?_⟩
    show y.key = x.key
    rw [(k.mem y h2).2.2.1, (k.mem x hx).2.2.1, h1.1, h1.2]
theorem wait_at (k : WI l w kn ww) {p : Pe} (hp : p ∈ ww) {u : Up} (h1 : p.u.nm = u.nm) (h2 : p.u.ver = u.ver) : ∃ q, waitsR ww u = some q ∧ q.u.key = p.u.key := by
  unfold waitsR
  cases h : ww.find? (fun p => decide (p.u.nm = u.nm ∧ p.u.ver = u.ver)) with
  | none => rw [List.find?_eq_none] at h; have := h p hp; simp [h1, h2] at this
  | some y =>
    have e1 := List.find?_some h
    have e2 := List.mem_of_find?_eq_some h
    simp only [decide_eq_true_eq] at e1
    refine ⟨y, rfl, ?_⟩
    rw [(k.mem y e2).2.2.1, (k.mem p hp).2.2.1, e1.1, e1.2, h1, h2]
theorem dec_right {u : Up} (h : rightU u = false) : decideR kn ww u = (0, 23) := by unfold decideR decideG; rw [if_neg (by rw [h]; simp)]
theorem dec_done (k : KI l kn) {x : Kn} (hx : x ∈ kn) {u : Up} (hr : rightU u = true) (h1 : u.nm = x.nm) (h2 : u.ver = x.ver) : decideR kn ww u = same x.key u.key 2 := by
  obtain ⟨a, b⟩ := find_at k hx
  unfold decideR decideG
  rw [if_pos hr, h1, h2, if_pos (by rw [a]), b]
theorem dec_wait (k : KI l kn) (kw : WI l w kn ww) {p : Pe} (hp : p ∈ ww) {u : Up} (hr : rightU u = true) (h1 : u.nm = p.u.nm) (h2 : u.ver = p.u.ver) : decideR kn ww u = same p.u.key u.key 1 := by
  obtain ⟨q, a, b⟩ := wait_at kw hp h1.symm h2.symm
  have hf := find_no k (nm := u.nm) (v := u.ver) (by rw [h1, h2]; exact (kw.mem p hp).1)
  unfold decideR decideG
  rw [if_pos hr, hf, if_neg (by simp), a]
  simp only []
  rw [b]
theorem dec_late (k : KI l kn) (kw : WI l w kn ww) (hm : l.length + w.length ≤ 1000) {u : Up} (hr : rightU u = true) (h : ((cntN l u.nm + cntN w u.nm : Nat) : Int) + 1 < u.ver) : decideR kn ww u = (0, 27) := by
  have h1 := cntN_le l u.nm
  have h2 := cntN_le w u.nm
  unfold decideR decideG
  rw [if_pos hr, find_no k (by omega), if_neg (by simp), wait_no kw (by omega)]
  simp only []
  rw [if_neg (by rw [kw.nx, i64w_small (by omega) (by omega)]; omega)]
theorem dec_next (k : KI l kn) (kw : WI l w kn ww) (hm : l.length + w.length ≤ 1000) (b : UInt8) {v : Int} (hv : v = ((cntN l (nameL b.toNat) + cntN w (nameL b.toNat) + 1 : Nat) : Int)) (c : Int) (hc0 : 0 ≤ c) : decideR kn ww (seatU (nameL b.toNat) v c 0) = (0, 0) := by
  have h1 := cntN_le l (nameL b.toNat)
  have h2 := cntN_le w (nameL b.toNat)
  have hl := nameL_len (b.toNat : Int)
  have hU : seatU (nameL b.toNat) v c 0 = signU (secF (nameL b.toNat) (max (v - 1) 1) false) ⟨nameL b.toNat, v, keyF (nameL b.toNat) v false, c % 2, 0, 0⟩ := by unfold seatU seatBy; simp
  have un := seatU_nm (nameL b.toNat) v c 0
  have uv := seatU_ver (nameL b.toNat) v c 0
  have uk : (seatU (nameL b.toNat) v c 0).key = keyF (nameL b.toNat) v false := by rw [seatU_key]; simp
  have hr : rightU (seatU (nameL b.toNat) v c 0) = true := rightU_of (by rw [un]; exact hl.1) (by rw [un]; exact hl.2) (by rw [uv, hv]; omega) (by rw [uv, hv]; omega) (by rw [uk]; exact keyF_pos _ _ _) (by rw [uk]; exact keyF_lt _ _ _) (by rw [hU]; show c % 2 = 0 ∨ c % 2 = 1; omega)
  unfold decideR decideG
  rw [if_pos hr, un, uv, find_no k (by omega), if_neg (by simp), wait_no kw (by rw [un, uv]; omega)]
  simp only []
  rw [if_pos (by rw [kw.nx, i64w_small (by omega) (by omega), hv]; omega)]
  have hk : (if v = 1 then (seatU (nameL b.toNat) v c 0).key else (nextR kn ww (nameL b.toNat)).2) = pubF (secF (nameL b.toNat) (max (v - 1) 1) false) := by
    by_cases e : v = 1
    · rw [if_pos e, uk, e]; rfl
    · rw [if_neg e, kw.ky, if_neg (by omega), hv]
      unfold keyF
      congr 2
      omega
  rw [hk, hU, check_signU, if_pos rfl]
end
end Go.Proofs.Ytkkgjmfnlabbdaa
