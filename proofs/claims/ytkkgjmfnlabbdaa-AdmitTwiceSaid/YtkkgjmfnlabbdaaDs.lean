/-
  Few numbers' requests, the reference's batches, stories: the values, and what the walked functions give.
-/
import Derived.Test.YtkkgjmfnlabbdaaDy
import Derived.Test.YtkkgjmfnlabbdaaUpS
import Derived.Test.YtkkgjmfnlabbdaaPp
namespace Go.Proofs.Ytkkgjmfnlabbdaa
set_option linter.unusedVariables false
set_option linter.unusedSimpArgs false
open Go.RowKit Pl

def keyF (nm : List UInt8) (v : Int) (alt : Bool) : Int := pubF (secF nm v alt)
theorem keyF_bd (nm : List UInt8) (v : Int) (alt : Bool) : isU64 (keyF nm v alt) := by
  obtain ⟨h0, h1⟩ := pubF_bd (secF nm v alt)
  exact ⟨h0, by unfold keyF; omega⟩
/-- A request of few numbers. -/
def seatBy (nm : List UInt8) (v how : Int) : Int :=
  if how % 8 = 5 then u64 (secF nm (max (v - 1) 1) (decide (how % 8 = 6) && decide (v = 1)) + 3) else secF nm (max (v - 1) 1) (decide (how % 8 = 6) && decide (v = 1))
def seatU (nm : List UInt8) (v cls how : Int) : Up :=
  if how % 8 = 7 then { signU (seatBy nm v how) ⟨nm, v, keyF nm v (decide (how % 8 = 6)), cls % 2, 0, 0⟩ with cls := 5 } else signU (seatBy nm v how) ⟨nm, v, keyF nm v (decide (how % 8 = 6)), cls % 2, 0, 0⟩
theorem seatBy_bd (nm : List UInt8) (v how : Int) : isU64 (seatBy nm v how) := by
  unfold seatBy; split
  · exact u64_bd _
  · exact secF_bd _ _ _
theorem preU_ok (nm : List UInt8) (v cls how : Int) (hn : nm.length ≤ 1048576) (h0 : 1 ≤ v) (h1 : v ≤ 1073741824) (c0 : 0 ≤ cls) : (Up.mk nm v (keyF nm v (decide (how % 8 = 6))) (cls % 2) 0 0).ok := by
  refine ⟨hn, ?_, keyF_bd _ _ _, ?_, ?_, ?_⟩ <;> simp only [isI64, isU64] <;> omega
theorem seatU_ok (nm : List UInt8) (v cls how : Int) (hn : nm.length ≤ 1048576) (h0 : 1 ≤ v) (h1 : v ≤ 1073741824) (c0 : 0 ≤ cls) : (seatU nm v cls how).ok := by
  have k := signU_ok (seatBy nm v how) _ (preU_ok nm v cls how hn h0 h1 c0)
  unfold seatU
  split
  · exact ⟨k.nm, k.ver, k.key, (by simp only [isI64]; omega), k.r, k.s⟩
  · exact k
theorem seatU_nm (nm : List UInt8) (v cls how : Int) : (seatU nm v cls how).nm = nm := by unfold seatU; split <;> rfl
theorem seatU_ver (nm : List UInt8) (v cls how : Int) : (seatU nm v cls how).ver = v := by unfold seatU; split <;> rfl
theorem seatU_key (nm : List UInt8) (v cls how : Int) : (seatU nm v cls how).key = keyF nm v (decide (how % 8 = 6)) := by unfold seatU; split <;> rfl

/-! What the functions walked before give. -/
theorem name_pf (k : Int) (k0 : 0 ≤ k) (k1 : k < 256) : PF Try.prog 10 [.v (.int .u8 k)] (.v (strV (nameL k))) := pf_plain rfl rfl fun w => name_any k w k0 k1
theorem secret_pf (nm : List UInt8) (v : Int) (alt : Bool) (hn : nm.length ≤ 1048576) : PF Try.prog 19 [.v (strV nm), .v (.int .i64 v), .v (.bool alt)] (.v (.int .u64 (secF nm v alt))) :=
  pf_plain rfl rfl fun w => (secret_any nm v alt w hn).mono fun e w' ⟨h1, h2⟩ => ⟨h1, h2 ▸ Below.refl _ _⟩
theorem public_pf (x : Int) (hx : isU64 x) : PF Try.prog 30 [.v (.int .u64 x)] (.v (.int .u64 (pubF x))) :=
  pf_plain rfl rfl fun w => (rpublic_any x w hx.1 hx.2).mono fun e w' ⟨h1, h2⟩ => ⟨h1, h2.below _⟩
theorem rmay_pf (e : En) : PF Try.prog 31 [.ag e.dv] (.v (.bool (rightE e.nm e.ver e.key))) := pf_plain rfl rfl fun w => rmay_any e.nm e.ver e.key w
theorem rsign_pf (x : Int) (u : Up) (hx : isU64 x) (hu : u.ok) : PF Try.prog 20 [.v (.int .u64 x), .ag u.dv] (.ag (signU x u).dv) := pf_plain rfl rfl fun w => rsignU_any x u w hx.1 hx.2 hu

theorem kn_len (k : Kn) : k.dv.length = 4 := rfl
theorem en_len (k : En) : k.dv.length = 3 := rfl
theorem pe_len (k : Pe) : k.dv.length = 9 := rfl
/-! The reference's batches. -/
def lessK (k : Kn) (e : En) : Bool := Op.bytesLess k.nm e.nm || (decide (k.nm = e.nm) && decide (k.ver < e.ver))
def insK (e : En) (ep : Int) (l : List Kn) : List Kn := l.takeWhile (lessK · e) ++ ⟨e.nm, e.ver, e.key, ep⟩ :: l.dropWhile (lessK · e)
theorem insK_len (e : En) (ep : Int) (l : List Kn) : (insK e ep l).length = l.length + 1 := by
  unfold insK
  have := congrArg List.length (List.takeWhile_append_dropWhile (p := (lessK · e)) (l := l))
  simp only [List.length_append, List.length_cons] at this ⊢
  omega
def addGo (kn : List Kn) (ep : Int) : List En → List En → List Kn → List Kn × Bool
  | _, [], out => (out, true)
  | done, e :: r, out =>
    if rightE e.nm e.ver e.key = true ∧ e.ver = i64w ((latR kn e.nm).1.ver + 1) ∧ (∀ d ∈ done, ¬ d.nm = e.nm) then addGo kn ep (done ++ [e]) r (insK e ep out) else (kn, false)
open Classical in
def addR (kn : List Kn) (ep : Int) (b : List En) : List Kn × Bool := if ep < 1 ∨ (∃ k ∈ kn, ep ≤ k.ep) then (kn, false) else addGo kn ep [] b kn
theorem addGo_len (kn : List Kn) (ep : Int) : ∀ (r done : List En) (out : List Kn), kn.length ≤ out.length → (addGo kn ep done r out).1.length ≤ out.length + r.length
  | [], _, out, h => by simp [addGo]
  | e :: r, done, out, h => by
    unfold addGo; split
    · have := addGo_len kn ep r (done ++ [e]) (insK e ep out) (by rw [insK_len]; omega)
      rw [insK_len] at this; simp only [List.length_cons]; omega
    · simp only [List.length_cons]; omega
theorem addR_len (kn : List Kn) (ep : Int) (b : List En) : (addR kn ep b).1.length ≤ kn.length + b.length := by
  unfold addR; split
  · show kn.length ≤ _; omega
  · exact addGo_len kn ep b [] kn (Nat.le_refl _)
theorem addGo_step {kn : List Kn} {ep : Int} {b : List En} {out : List Kn} {k : Nat} (h : k < b.length) (h1 : rightE b[k].nm b[k].ver b[k].key = true) (h2 : b[k].ver = i64w ((latR kn b[k].nm).1.ver + 1)) (h3 : ∀ j (hj : j < b.length), j < k → ¬ b[j].nm = b[k].nm) :
    addGo kn ep (b.take k) (b.drop k) out = addGo kn ep (b.take (k + 1)) (b.drop (k + 1)) (insK b[k] ep out) := by
  rw [← List.getElem_cons_drop h, addGo, if_pos ⟨h1, h2, fun d hd => by
    obtain ⟨j, hj, rfl⟩ := List.getElem_of_mem hd
    rw [List.getElem_take]
    exact h3 j (by simp at hj; omega) (by simp at hj; omega)⟩, take_snoc' h]
theorem addGo_stop {kn : List Kn} {ep : Int} {b : List En} {out : List Kn} {k : Nat} (h : k < b.length) (hn : ¬ (rightE b[k].nm b[k].ver b[k].key = true ∧ b[k].ver = i64w ((latR kn b[k].nm).1.ver + 1) ∧ (∀ d ∈ b.take k, ¬ d.nm = b[k].nm))) :
    addGo kn ep (b.take k) (b.drop k) out = (kn, false) := by
  rw [← List.getElem_cons_drop h, addGo, if_neg hn]
theorem mem_take_of {α : Type} {b : List α} {j k : Nat} (hj : j < b.length) (h : j < k) : b[j] ∈ b.take k := by
  have hl : j < (b.take k).length := by simp; omega
  have := List.getElem_mem hl
  rwa [List.getElem_take] at this
theorem while_at {α : Type} {p : α → Bool} {l : List α} {k : Nat} (h : k ≤ l.length) (ha : ∀ j (hj : j < l.length), j < k → p l[j] = true) (hn : ∀ hk : k < l.length, p l[k] = false) : l.takeWhile p = l.take k ∧ l.dropWhile p = l.drop k := by
  induction l generalizing k with
  | nil => simp
  | cons x t ih =>
    cases k with
    | zero => have := hn (by simp); simp at this; simp [this]
    | succ k =>
      have hx : p x = true := ha 0 (by simp) (by omega)
      obtain ⟨h1, h2⟩ := ih (k := k) (by simpa using h) (fun j hj hjk => by have := ha (j + 1) (by simpa using hj) (by omega); simpa using this) (fun hk => by have := hn (by simpa using hk); simpa using this)
      simp [hx, h1, h2]

/-! Stories. -/
def storyE (kn : List Kn) (b : UInt8) : En := ⟨nameL b.toNat, i64w ((latR kn (nameL b.toNat)).1.ver + 1), keyF (nameL b.toNat) (i64w ((latR kn (nameL b.toNat)).1.ver + 1)) false⟩
def storyK : Nat → List Kn → List UInt8 → List Kn
  | _, kn, [] => kn
  | i, kn, b :: r => storyK (i + 1) (addR kn ((i + 1 : Nat) : Int) [storyE kn b]).1 r
def storyP (kn : List Kn) (i : Nat) (w : List Pe) (b : UInt8) : Pe := ⟨seatU (nameL b.toNat) (i64w ((nextR kn w (nameL b.toNat)).1 + 1)) b.toNat 0, 0, i, false⟩
def storyW (kn : List Kn) : Nat → List Pe → List UInt8 → List Pe
  | _, w, [] => w
  | i, w, b :: r => storyW kn (i + 1) (w ++ [storyP kn i w b]) r
theorem storyK_len : ∀ (l : List UInt8) (i : Nat) (kn : List Kn), (storyK i kn l).length ≤ kn.length + l.length
  | [], i, kn => by simp [storyK]
  | b :: r, i, kn => by
    have h1 := storyK_len r (i + 1) (addR kn ((i + 1 : Nat) : Int) [storyE kn b]).1
    have h2 := addR_len kn ((i + 1 : Nat) : Int) [storyE kn b]
    simp only [storyK, List.length_cons, List.length_nil] at *; omega
/-- Versions that wait are few. -/
def waitOk (m : Nat) (w : List Pe) : Prop := ∀ p ∈ w, 1 ≤ p.u.ver ∧ p.u.ver ≤ m + w.length
def knOk (m : Nat) (l : List Kn) : Prop := ∀ k ∈ l, 1 ≤ k.ver ∧ k.ver ≤ m
theorem latR_mem (l : List Kn) (nm : List UInt8) : (latR l nm).1 = zeroK ∨ (latR l nm).1 ∈ l := by
  unfold latR
  have : ∀ (l : List Kn) (q : Kn × Bool) (m : List Kn), (q.1 = zeroK ∨ q.1 ∈ m) → (∀ x ∈ l, x ∈ m) → ((l.foldl (latStep nm) q).1 = zeroK ∨ (l.foldl (latStep nm) q).1 ∈ m) := by
    intro l
    induction l with
    | nil => intro q m h _; exact h
    | cons x t ih =>
      intro q m h hm
      refine ih _ m ?_ (fun y hy => hm y (by simp [hy]))
      unfold latStep; split
      · exact .inr (hm x (by simp))
      · exact h
  exact this l (zeroK, false) l (.inl rfl) (fun x h => h)
theorem nextR_mem (l : List Kn) (w : List Pe) (nm : List UInt8) : nextR l w nm = ((latR l nm).1.ver, (latR l nm).1.key) ∨ ∃ p ∈ w, nextR l w nm = (p.u.ver, p.u.key) := by
  unfold nextR
  have : ∀ (w : List Pe) (q : Int × Int) (m : List Pe), (∀ x ∈ w, x ∈ m) → (w.foldl (nextStep nm) q = q ∨ ∃ p ∈ m, w.foldl (nextStep nm) q = (p.u.ver, p.u.key)) := by
    intro w
    induction w with
    | nil => intro q m _; exact .inl rfl
    | cons x t ih =>
      intro q m hm
      rcases ih (nextStep nm q x) m (fun y hy => hm y (by simp [hy])) with h | h
      · rw [List.foldl_cons, h]; unfold nextStep; split
        · exact .inr ⟨x, hm x (by simp), rfl⟩
        · exact .inl rfl
      · exact .inr (by rw [List.foldl_cons]; exact h)
  exact this w _ w (fun x h => h)
theorem latR_ver {m : Nat} {l : List Kn} (h : knOk m l) (nm : List UInt8) : 0 ≤ (latR l nm).1.ver ∧ (latR l nm).1.ver ≤ m := by
  rcases latR_mem l nm with e | e
  · rw [e]; simp [zeroK]
  · have := h _ e; omega
theorem nextR_ver {m : Nat} {l : List Kn} {w : List Pe} (h : knOk m l) (hw : waitOk m w) (nm : List UInt8) : 0 ≤ (nextR l w nm).1 ∧ (nextR l w nm).1 ≤ m + w.length := by
  rcases nextR_mem l w nm with e | ⟨p, hp, e⟩
  · rw [e]; have := latR_ver h nm; simp only; omega
  · rw [e]; have := hw p hp; simp only; omega
theorem i64w_small {v : Int} (h0 : 0 ≤ v) (h1 : v ≤ 1099511627776) : i64w (v + 1) = v + 1 := by unfold i64w; rw [IntKind.wrap_i64]; omega
theorem mem_insK {e : En} {ep : Int} {l : List Kn} {x : Kn} (h : x ∈ insK e ep l) : x = ⟨e.nm, e.ver, e.key, ep⟩ ∨ x ∈ l := by
  unfold insK at h
  rw [List.mem_append, List.mem_cons] at h
  rcases h with h | h | h
  · exact .inr ((List.takeWhile_prefix _).subset h)
  · exact .inl h
  · exact .inr ((List.dropWhile_suffix _).subset h)
theorem storyP_ver {m : Nat} {l : List Kn} {w : List Pe} (h : knOk m l) (hw : waitOk m w) (hm : m + w.length ≤ 1000) (i : Nat) (b : UInt8) : 1 ≤ (storyP l i w b).u.ver ∧ (storyP l i w b).u.ver ≤ m + w.length + 1 := by
  have := nextR_ver h hw (nameL b.toNat)
  unfold storyP; simp only [seatU_ver]
  rw [i64w_small this.1 (by omega)]; omega
theorem storyP_waitOk {m : Nat} {l : List Kn} {w : List Pe} (h : knOk m l) (hw : waitOk m w) (hm : m + w.length ≤ 1000) (i : Nat) (b : UInt8) : waitOk m (w ++ [storyP l i w b]) := by
  intro p hp
  rw [List.mem_append] at hp
  simp only [List.length_append, List.length_cons, List.length_nil]
  rcases hp with hp | hp
  · have := hw p hp; omega
  · rw [List.mem_singleton.1 hp]; have := storyP_ver h hw hm i b; omega
theorem knOk_add {m : Nat} {l : List Kn} (h : knOk m l) (hm : m ≤ 1000) (b : UInt8) (ep : Int) : knOk (m + 1) (addR l ep [storyE l b]).1 := by
  have key : ∀ out, knOk (m + 1) out → (∀ x ∈ (addGo l ep [] [storyE l b] out).1, 1 ≤ x.ver ∧ x.ver ≤ ((m + 1 : Nat) : Int)) := by
    intro out ho x hx
    unfold addGo at hx
    split at hx
    · simp only [addGo] at hx
      rcases mem_insK hx with rfl | hx
      · have h1 := latR_ver h (nameL b.toNat)
        simp only [storyE]
        rw [i64w_small h1.1 (by omega)]; omega
      · exact ho x hx
    · have := h x hx; omega
  have hl : knOk (m + 1) l := fun x hx => by have := h x hx; omega
  unfold addR; split
  · exact hl
  · exact key l hl
theorem storyK_ok : ∀ (l : List UInt8) (i m : Nat) (kn : List Kn), knOk m kn → m + l.length ≤ 1000 → knOk (m + l.length) (storyK i kn l)
  | [], i, m, kn, h, _ => h
  | b :: r, i, m, kn, h, hm => by
    have := storyK_ok r (i + 1) (m + 1) _ (knOk_add h (by simp at hm; omega) b ((i + 1 : Nat) : Int)) (by simp at hm ⊢; omega)
    simp only [storyK, List.length_cons]
    rw [Nat.add_assoc, Nat.add_comm 1] at this
    exact this
end Go.Proofs.Ytkkgjmfnlabbdaa
