/-
  A logic of walks: rows that grow, slices that are made, conversions.
-/
import Derived.Test.YthbcbfghfhecjaaPf
namespace Go.Proofs.Ythbcbfghfhecjaa.Pl
set_option linter.unusedVariables false
set_option linter.unusedSimpArgs false
open Go.RowKit

/-- What an append needs of its slice type: element, cells and bytes of one, its zero. -/
def apt (P : Program) (t : TypeId) : Option (TypeId × Nat × Nat) :=
  match P.underlying t with
  | some (.slice e) => match P.info? e with
    | some i => match i.zero with
      | some z => bif Nat.beq z.cells.size i.size && Nat.blt 0 i.size then some (e, i.size, i.bytes) else none
      | none => none
    | none => none
  | _ => none
theorem apt_parts {P : Program} {t e sz by_ : Nat} (h : apt P t = some (e, sz, by_)) : P.underlying t = some (.slice e) ∧ ∃ i z, P.info? e = some i ∧ i.zero = some z ∧ i.size = sz ∧ i.bytes = by_ ∧ z.cells.size = sz ∧ 0 < sz := by
  unfold apt at h
  cases hu : P.underlying t with
  | none => simp [hu] at h
  | some d =>
    cases d <;> simp [hu] at h
    rename_i e'
    cases hi : P.info? e' with
    | none => simp [hi] at h
    | some i =>
      cases hz : i.zero with
      | none => simp [hi, hz] at h
      | some z =>
        simp only [hi, hz] at h
        cases hc : (z.cells.size.beq i.size && Nat.blt 0 i.size) with
        | false => simp [hc] at h
        | true =>
          simp [hc] at h
          obtain ⟨rfl, rfl, rfl⟩ := h
          simp only [Bool.and_eq_true, Nat.beq_eq, Nat.blt_eq] at hc
          exact ⟨rfl, i, z, hi, hz, rfl, rfl, hc.1, hc.2⟩
section
variable {P : Program} {C : Cx} {L : Lo} {Γ : Ga} {d : Nat} {ty : TypeId} {pos : String} {af : Array Edge} {gd : Option (Nat × Bool)}
/-- What is to be appended: its cells as values. -/
theorem src_cells {K : Nat → Prop} {w : World} {m sz : Nat} {ds : List DV} {u : Value} (h : (DV.sl sz m ds).rep K w u) : (u = .slice none 0 0 ∧ m = 0 ∧ ds = []) ∨ ∃ b o c us, u = .slice (some ⟨b, o, none⟩) m c ∧ repL K w ds us ∧ us.length = m * sz ∧ (∀ j x, us[j]? = some x → w.cell? ((⟨b, o, none⟩ : Addr).add j) = some x) ∧ ∀ x ∈ us, x.oneCell' = true := by
  unfold DV.rep at h
  rcases h with h | ⟨b, o, c, hv, _, _, hl, _, hr⟩
  · exact .inl h
  · obtain ⟨us, k1, k2, k3⟩ := repAt_vals hr
    exact .inr ⟨b, o, c, us, hv, k1, by rw [repL_length k1, hl], fun j x hj => by rw [addr_add]; exact k2 j x hj, k3⟩
/-- What is read goes on being read under the blocks that a new world makes one's own. -/
theorem all_one_of {K : Nat → Prop} {w : World} : ∀ {cs : List DV} {us : List Value}, repL K w cs us → cs.all DV.one = true → ∀ x ∈ us, x.oneCell' = true
  | [], us, h, _ => by unfold repL at h; subst h; simp
  | X :: Xs, us, h, h1 => by
    unfold repL at h
    obtain ⟨u, t, rfl, h3, h4⟩ := h
    simp only [List.all_cons, Bool.and_eq_true] at h1
    intro x hx
    rcases List.mem_cons.1 hx with rfl | hx
    · exact one_rep h1.1 h3
    · exact all_one_of h4 h1.2 x hx
/-- An owned row as the library's laws name it. -/
theorem row_owns {K : Nat → Prop} {w : World} {B e sz n : Nat} {cs : List DV} {ob : Option Nat} {u : Value} (h : (AO.row e sz cs).rep K w ob) (hu : (ob = none ∧ u = .slice none 0 0 ∧ n = 0) ∨ ∃ b c, ob = some b ∧ u = .slice (some ⟨b, 0, none⟩) n c ∧ n ≤ c ∧ c ≤ maxLen ∧ c * sz = bsz w b) (hl : cs.length = n * sz) (hsz : 0 < sz) (hB : ∀ b, ob = some b → B ≤ b) :
    ∃ us, w.ownsRow B e sz u n us ∧ repL K w cs us ∧ u.ownBlock = ob ∧ ∀ x ∈ us, x.oneCell' = true := by
  rcases hu with ⟨rfl, rfl, rfl⟩ | ⟨b, c, rfl, rfl, h1, h2, h3⟩
  · rcases h with ⟨_, rfl⟩ | ⟨b, us, cap, e', _⟩
    · exact ⟨[], ⟨by simp, .inl ⟨rfl, rfl⟩⟩, by simp [repL], rfl, by simp⟩
    · cases e'
  · rcases h with ⟨e', _⟩ | ⟨b', us, cap, e', k1, k2, k3, k4, k5, k6⟩
    · cases e'
    · cases e'
      have hc : c = cap := by
        unfold bsz at h3
        rw [k1] at h3
        simp only [List.size_toArray, k2] at h3
        exact Nat.eq_of_mul_eq_mul_right hsz h3
      subst hc
      have hlen : (us.take cs.length).length = n * sz := by rw [List.length_take, ← hl]; omega
      exact ⟨us.take cs.length, ⟨hlen, .inr ⟨b, c, us.toArray, rfl, hB b rfl, k1, h1, h2, by simpa using k2, by rw [hl]⟩⟩, k5, rfl, k6⟩
/-- And back. -/
theorem owns_row {K : Nat → Prop} {w : World} {B e sz n : Nat} {cs : List DV} {u : Value} {us : List Value} (h : w.ownsRow B e sz u n us) (hr : repL K w cs us) (h1 : ∀ x ∈ us, x.oneCell' = true) :
    (AO.row e sz cs).rep K w u.ownBlock ∧ ((u.ownBlock = none ∧ u = .slice none 0 0 ∧ n = 0) ∨ ∃ b c, u.ownBlock = some b ∧ u = .slice (some ⟨b, 0, none⟩) n c ∧ n ≤ c ∧ c ≤ maxLen ∧ c * sz = bsz w b) := by
  have hlen := repL_length hr
  rcases h.2 with ⟨rfl, rfl⟩ | ⟨g, cap, cur, rfl, hb, hg, hnc, hcm, hcs, htake⟩
  · have : cs = [] := List.eq_nil_of_length_eq_zero (by rw [← hlen, h.1]; simp)
    exact ⟨.inl ⟨rfl, this⟩, .inl ⟨rfl, rfl, rfl⟩⟩
  · have hcl : cs.length = n * sz := by rw [← hlen, h.1]
    have hle : n * sz ≤ cap * sz := Nat.mul_le_mul_right _ hnc
    refine ⟨.inr ⟨g, cur.toList, cap, rfl, by simpa using hg, by simpa using hcs, hcm, by rw [hcl]; simp [hcs]; exact hle, by rw [hcl, htake]; exact hr, by rw [hcl, htake]; exact h1⟩, .inr ⟨g, cap, rfl, rfl, hnc, hcm, ?_⟩⟩
    unfold bsz; rw [hg]; exact hcs.symm
theorem owns_lt {w : World} {B e sz n : Nat} {u : Value} {us : List Value} (h : w.ownsRow B e sz u n us) : ∀ b, u.ownBlock = some b → b < w.heap.size := fun b hb => (World.ownsRow.lt h b hb).2
theorem okA_len {g n sz : Nat} {cs : List DV} {T : TypeId} (hg : Γ g = some (.row T sz cs)) (hl : cs.length = n * sz) : okr Γ (.ow g n sz) := fun cs' h => by
  rw [hg] at h; simp [AO.cells] at h; subst h; exact hl
/-- The cells of what is read, as this call knows them. -/
theorem src_vals {ρ : Rho} {a : Act} {w : World} (h : RepsAt C ρ L Γ a w) {x : Operand} {A : AV} {m sz : Nat} {ds : List DV} (hx : ev L x = some A) (hA : rdv Γ A = some (.sl sz m ds)) (hok : okr Γ A) :
    (a.eval x = .slice none 0 0 ∧ m = 0 ∧ ds = []) ∨ ∃ b o c us, a.eval x = .slice (some ⟨b, o, none⟩) m c ∧ repL (KK C.K0 ρ Γ) w ds us ∧ us.length = m * sz ∧ (∀ j x, us[j]? = some x → w.cell? ((⟨b, o, none⟩ : Addr).add j) = some x) ∧ ∀ x ∈ us, x.oneCell' = true := by
  have hr := ev_rep h hx
  have fin : ∀ {b o c : Nat} {cs : List DV}, repAt (KK C.K0 ρ Γ) w cs b o → cs.length = m * sz → a.eval x = .slice (some ⟨b, o, none⟩) m c → ∃ b o c us, a.eval x = .slice (some ⟨b, o, none⟩) m c ∧ repL (KK C.K0 ρ Γ) w cs us ∧ us.length = m * sz ∧ (∀ j x, us[j]? = some x → w.cell? ((⟨b, o, none⟩ : Addr).add j) = some x) ∧ ∀ x ∈ us, x.oneCell' = true := by
    intro b o c cs h1 h2 h3
    obtain ⟨us, k1, k2, k3⟩ := repAt_vals h1
    exact ⟨b, o, c, us, h3, k1, by rw [repL_length k1, h2], fun j x hj => by rw [addr_add]; exact k2 j x hj, k3⟩
  cases A with
  | d Y =>
    simp only [rdv, Option.some.injEq] at hA; subst hA
    exact src_cells hr
  | f Y =>
    simp only [rdv, Option.some.injEq] at hA; subst hA
    exact src_cells (dv_rep hr rfl)
  | ptr g off =>
    simp only [rdv] at hA
    cases hc : (Γ g).bind AO.cells <;> simp [hc] at hA
  | bs g off n sz' =>
    simp only [rdv] at hA
    cases hc : (Γ g).bind AO.cells with
    | none => simp [hc] at hA
    | some cs =>
      simp only [hc] at hA
      cases hle : Nat.ble (off + n * sz') cs.length with
      | false => simp [hle] at hA
      | true =>
        simp only [hle, cond_true, Option.some.injEq, DV.sl.injEq] at hA
        obtain ⟨rfl, rfl, rfl⟩ := hA
        have hle' : off + n * sz' ≤ cs.length := by simpa using hle
        obtain ⟨o, hg, ho⟩ := bind_cells hc
        obtain ⟨ob, h1⟩ := own_block h hg ho
        obtain ⟨b, c, rfl, k1, _⟩ := hr ob h1
        have h3 := repAt_take (n * sz') (repAt_drop off (own_cells h hg ho h1))
        rw [Nat.zero_add] at h3
        exact .inr (fin h3 (by simp; omega) k1)
  | ow g n sz' =>
    simp only [rdv] at hA
    cases hc : (Γ g).bind AO.cells with
    | none => simp [hc] at hA
    | some cs =>
      simp only [hc, Option.some.injEq, DV.sl.injEq] at hA
      obtain ⟨rfl, rfl, rfl⟩ := hA
      have hlen := hok cs hc
      obtain ⟨o, hg, ho⟩ := bind_cells hc
      obtain ⟨ob, h1⟩ := own_block h hg ho
      rcases hr ob h1 with ⟨_, k1, rfl⟩ | ⟨b, c, rfl, k1, _⟩
      · exact .inl ⟨k1, rfl, List.eq_nil_of_length_eq_zero (by rw [hlen]; simp)⟩
      · exact .inr (fin (own_cells h hg ho h1) hlen k1)
/-- append to a row of one's own: the row is another one from then on. -/
theorem OT.append {t e sz by_ g n m : Nat} {s x : Operand} {cs ds : List DV} {A : AV} (g' : Nat) (hn : Nat.blt d C.n = true) (hs : ev L s = some (.ow g n sz)) (hg : Γ g = some (.row e sz cs)) (hl : cs.length = n * sz) (hg' : Γ g' = none) (ht : apt P t = some (e, sz, by_))
    (hx : ev L x = some A) (hA : rdv Γ A = some (.sl sz m ds)) (hok : okr Γ A) (h1 : ds.all DV.one = true) (hbig : (n + m) * by_ ≤ 140737488355328) (hmax : n + m ≤ 1099511627776) :
    OT P C ⟨some d, .call { callee := .builtin .append, args := #[s, x], argTypes := #[t, t] }, ty, pos, af, gd⟩ L Γ (upd L d (.ow g' (n + m) sz)) (upd (upd Γ g .dead) g' (.row e sz (cs ++ ds))) :=
  OT.turns fun ρ a w h => by
    obtain ⟨hu, i, z, hi, hz, hsz, hby, hzs, h0⟩ := apt_parts ht
    obtain ⟨ob, hρ, ho⟩ := h.obj g _ hg (by simp)
    have hB : ∀ b, ob = some b → C.w0.heap.size ≤ b := fun b eb => h.new g b _ hg (by simp) rfl (by rw [hρ, eb])
    obtain ⟨us, k1, k2, k3, k4⟩ := row_owns (B := C.w0.heap.size) ho (ev_rep h hs ob hρ) hl h0 hB
    have hsrc := src_vals h hx hA hok
    have key : ∃ v' w' vs, (Builtin.append_ #[t, t] ty #[a.eval s, a.eval x]).run P w = .ok v' w' ∧ w'.ownsRow C.w0.heap.size e sz v' (n + m) (us ++ vs) ∧ w.grownBy w' ob ∧ repL (KK C.K0 ρ Γ) w ds vs ∧ (∀ b, v'.ownBlock = some b → ob = some b ∨ w.heap.size ≤ b) := by
      rcases hsrc with ⟨hxv, rfl, rfl⟩ | ⟨b, o, c, vs, hxv, q1, q2, q3, q4⟩
      · rw [hxv]
        refine ⟨a.eval s, w, [], run_append_owned_none w _ _ _ _ i sz hu hi _ _ _ k1, by simpa using k1, ⟨rfl, rfl, rfl, Nat.le_refl _, fun _ _ _ => rfl⟩, by simp [repL], fun b hb => .inl (by rw [← k3, hb])⟩
      · rw [hxv]
        obtain ⟨v', w', r1, r2, r3, _, r5⟩ := run_append_own_at (P := P) w C.w0.heap.size t ty e i z sz by_ hu hi hz hsz hby hzs h0 (a.eval s) n us k1 ⟨b, o, none⟩ m c vs q2 q3 q4 (by unfold maxLen; omega) hbig h.fr.size
        refine ⟨v', w', vs, r1, r2, by rw [← k3]; exact r3, q1, fun b' hb' => ?_⟩
        rcases r5 with r5 | r5
        · exact .inl (by rw [← k3, ← r5, hb'])
        · rw [r5] at hb'; cases hb'; exact .inr (Nat.le_refl _)
    obtain ⟨v', w', vs, r1, r2, r3, r4, r5⟩ := key
    refine ⟨v', w', by simp only [execOp, resolve, invoke, builtin, Sem.run_bind, Sem.run_pure, Result.andThen_ok, List.map_toArray, List.map_cons, List.map_nil, r1], ?_⟩
    have hlt := owns_lt r2
    have hones : ∀ x ∈ us ++ vs, x.oneCell' = true := fun x hx => (List.mem_append.1 hx).elim (k4 x) (all_one_of r4 h1 x)
    -- the cells of the elder row and what is appended, in the new world
    have hreads : ∀ K, Keeps (KK C.K0 ρ Γ) K w w' → repL K w' (cs ++ ds) (us ++ vs) := fun K hK => by
      refine repL_append (repL_mono hK _ _ k2) ?_
      exact repL_mono hK _ _ r4
    obtain ⟨ρ', hr, hρ', _⟩ := h.gain (g := g') (ob := ob) (ob' := v'.ownBlock) (o' := .row e sz (cs ++ ds)) (w' := w') (Γ1 := upd Γ g .dead) hg'
      (fun g1 o1 h1 h2 => (upd_some h1).elim (fun e => absurd e.2 h2) (fun e => e.2))
      (fun g1 h1 => by by_cases e : g1 = g; · subst e; rw [upd_same]; simp
                       · rw [upd_other _ _ _ _ e]; exact h1)
      (fun b g1 eb hl1 hρ1 => by
        obtain ⟨o1, p1, p2⟩ := hl1
        rcases upd_some p1 with ⟨_, e⟩ | ⟨hne, p1⟩
        · exact p2 e
        · exact hne (h.inj g1 g b hρ1 (by rw [hρ, eb]) ⟨o1, p1, p2⟩ ⟨_, hg, by simp⟩))
      (fun b eb => ⟨hB b eb, g, ⟨_, hg, by simp⟩, by rw [hρ, eb]⟩) r3 (fun b eb => ⟨r5 b eb, hlt b eb⟩) (by simp) rfl
      (fun K hK _ => (owns_row r2 (hreads K hK) hones).1)
    refine ⟨ρ', hr.put (by simpa using hn) (fun ob' hob => ?_) (fun g1 hg1 => ?_)⟩
    · rw [hρ'] at hob; cases hob
      exact (owns_row r2 (hreads _ ‹_›) hones).2
    · cases hg1; rw [upd_same]; simp
end
end Go.Proofs.Ythbcbfghfhecjaa.Pl
