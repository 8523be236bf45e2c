import Derived.Test.YtdjcclcejmeheaaGreatZQ4
/-
  A logic of walks: stretches of plain operations, gone through by evaluation.
-/
namespace Go.Proofs.YtdjcclcejmeheaaGreat.Pl
set_option linter.unusedVariables false
set_option linter.unusedSimpArgs false
set_option linter.unusedSectionVars false
open Go.RowKit
/-- A table of what f tells. -/
abbrev Okl {α : Type} (f : Nat → Option α) (l : List (Nat × α)) : Prop := l.map (fun p => f p.1) = l.map (fun p => some p.2)
theorem Okl.get {α : Type} {f : Nat → Option α} : ∀ {l : List (Nat × α)} {t : Nat} {v : α}, Okl f l → ls l t = some v → f t = some v
  | [], t, v, _, h => by cases h
  | (d, x) :: r, t, v, hl, h => by
    have h1 := List.cons.inj hl
    unfold ls at h
    cases hb : Nat.beq t d with
    | true => rw [hb, cond_true] at h; rw [Nat.beq_eq] at hb; subst hb; rw [← h]; exact h1.1
    | false => rw [hb, cond_false] at h; exact Okl.get h1.2 h
abbrev Okm {α : Type} (f : Nat → Nat → Option α) (l : List (Nat × Nat × α)) : Prop := l.map (fun p => f p.1 p.2.1) = l.map (fun p => some p.2.2)
def lm {α : Type} : List (Nat × Nat × α) → Nat → Nat → Option α
  | [], _, _ => none
  | (d, e, x) :: r, s, t => bif Nat.beq s d && Nat.beq t e then some x else lm r s t
theorem Okm.get {α : Type} {f : Nat → Nat → Option α} : ∀ {l : List (Nat × Nat × α)} {s t : Nat} {v : α}, Okm f l → lm l s t = some v → f s t = some v
  | [], s, t, v, _, h => by cases h
  | (d, e, x) :: r, s, t, v, hl, h => by
    have h1 := List.cons.inj hl
    unfold lm at h
    cases hb : (Nat.beq s d && Nat.beq t e) with
    | true => rw [hb, cond_true] at h; simp only [Bool.and_eq_true, Nat.beq_eq] at hb; obtain ⟨rfl, rfl⟩ := hb; rw [← h]; exact h1.1
    | false => rw [hb, cond_false] at h; exact Okm.get h1.2 h
/-- What is asked of the program's types, as tables. -/
class Env (P : Program) where
  ty : List (Nat × Option Nat)
  hty : Okl (tyk P) ty
  fo : List (Nat × Nat × Nat)
  hfo : Okm (Pl.fo P) fo
  sl : List (Nat × Bool)
  hsl : Okl (isSl P) sl
  zc : List (Nat × List Value)
  hzc : Okl (Pl.zc P) zc
  sz : List (Nat × Nat)
  hsz : Okl (szt P) sz
  sp : List (Nat × (List Value × List (Nat × Nat)))
  hsp : Okl (stp P) sp
  uk : List (Nat × IntKind)
  huk : Okl (ukd P) uk
  fl : List (Nat × Nat × (Nat × Option Nat))
  hfl : Okm (fld P) fl
  el : List (Nat × (TypeId × Nat))
  hel : Okl (elt P) el
  ar : List (Nat × (Nat × Nat))
  har : Okl (arr P) ar
  ap : List (Nat × (TypeId × Nat × Nat))
  hap : Okl (apt P) ap
  cf : List Nat
  hcf : cf.all (cfn P) = true
structure Ex where
  X : AV
  E : List (Nat × AO)
  G : List Nat
  m : Nat
/-- What a plain operation makes. -/
def ex (P : Program) [V : Env P] (L : Lo) (Γ : Ga) (m : Nat) : Op → Option Ex
  | .move x => match ev L x with | some X => some ⟨X, [], [], m⟩ | none => none
  | .assign x => match ev L x with | some X => some ⟨X, [], [], m⟩ | none => none
  | .binOp op _ x y _ => match evv L x, evv L y with
    | some u, some v => match bo op u v with | some r => some ⟨.f (.v r), [], [], m⟩ | none => none
    | _, _ => none
  | .unOp op _ x => match evv L x with
    | some u => match uo op u with | some r => some ⟨.f (.v r), [], [], m⟩ | none => none
    | none => none
  | .pick c x y => match evv L c with
    | some (.bool b) => match (bif b then ev L x else ev L y) with | some X => some ⟨X, [], [], m⟩ | none => none
    | _ => none
  | .extract x i => match ev L x with
    | some (.f (.tp cs)) => match cs[i]? with | some Y => some ⟨.f Y, [], [], m⟩ | none => none
    | some (.d (.tp cs)) => match cs[i]? with | some Y => some ⟨.d Y, [], [], m⟩ | none => none
    | _ => none
  | .field t x i => match lm V.fl t i, ev L x with
    | some (off, none), some (.f (.ag cs)) => match cs[off]? with | some Y => some ⟨.f Y, [], [], m⟩ | none => none
    | some (off, none), some (.d (.ag cs)) => match cs[off]? with | some Y => some ⟨.d Y, [], [], m⟩ | none => none
    | some (off, some n), some (.f (.ag cs)) => some ⟨.f (.ag ((cs.drop off).take n)), [], [], m⟩
    | some (off, some n), some (.d (.ag cs)) => some ⟨.d (.ag ((cs.drop off).take n)), [], [], m⟩
    | _, _ => none
  | .fieldAddr s x i => match lm V.fo s i, ev L x with
    | some k, some (.ptr g off) => match (Γ g).bind AO.cells with | some _ => some ⟨.ptr g (off + k), [], [g], m⟩ | none => none
    | some k, some (.f (.el cs)) => some ⟨.f (.el (cs.drop k)), [], [], m⟩
    | some k, some (.d (.el cs)) => some ⟨.d (.el (cs.drop k)), [], [], m⟩
    | _, _ => none
  | .load t x => match ls V.ty t, ev L x with
    | some none, some (.ptr g off) => match (Γ g).bind AO.cells with
      | some cs => match cs[off]? with | some X => some ⟨.d X, [], [g], m⟩ | none => none
      | none => none
    | some none, some (.f (.el cs)) => match cs[0]? with | some X => some ⟨.f X, [], [], m⟩ | none => none
    | some none, some (.d (.el cs)) => match cs[0]? with | some X => some ⟨.d X, [], [], m⟩ | none => none
    | some (some n), some (.ptr g off) => match (Γ g).bind AO.cells with
      | some cs => bif Nat.beq ((cs.drop off).take n).length n then some ⟨.d (.ag ((cs.drop off).take n)), [], [g], m⟩ else none
      | none => none
    | some (some n), some (.f (.el cs)) => bif Nat.beq (cs.take n).length n then some ⟨.f (.ag (cs.take n)), [], [], m⟩ else none
    | some (some n), some (.d (.el cs)) => bif Nat.beq (cs.take n).length n then some ⟨.d (.ag (cs.take n)), [], [], m⟩ else none
    | _, _ => none
  | .box t x => match evd L x, Γ m with
    | some X, none => bif X.cells.all DV.one then some ⟨.ptr m 0, [(m, .box t X.cells)], [m], m + 1⟩ else none
    | _, _ => none
  | .alloc t => match ls V.zc t, Γ m with
    | some zs, none => bif zs.all Value.oneCell' then some ⟨.ptr m 0, [(m, .box t (zs.map .v))], [m], m + 1⟩ else none
    | _, _ => none
  | .convert s t x => match ls V.uk s, ls V.uk t, evv L x with
    | some k, some k', some (.int k2 n) => bif ikb k2 k then some ⟨.f (.v (.int k' (k'.wrap n))), [], [], m⟩ else none
    | _, _, _ => none
  | .nilCheck x => match ev L x with
    | some (.ptr g off) => match (Γ g).bind AO.cells with | some _ => some ⟨.ptr g off, [], [g], m⟩ | none => none
    | _ => none
  | .build t ⟨ps⟩ => match evP L ps, ls V.sp t with
    | some Xs, some (zs, pl) => bif zs.all Value.oneCell' then (match bldD pl (zs.map .v) Xs with | some ds => some ⟨.d (.ag ds), [], [], m⟩ | none => none) else none
    | _, _ => none
  | .slice t x none none none => match ls V.ar t, ev L x with
    | some (n, sz), some (.f (.el cs)) => bif Nat.ble (n * sz) cs.length && Nat.ble n 1048576 then some ⟨.f (.sl sz n (cs.take (n * sz))), [], [], m⟩ else none
    | some (n, sz), some (.d (.el cs)) => bif Nat.ble (n * sz) cs.length && Nat.ble n 1048576 then some ⟨.d (.sl sz n (cs.take (n * sz))), [], [], m⟩ else none
    | _, _ => none
  | .call ⟨.builtin .len, ⟨[x]⟩, ⟨[t]⟩⟩ => match ls V.sl t, ev L x with
    | some true, some (.f (.sl _ n _)) => some ⟨.f (.v (.int .i64 n)), [], [], m⟩
    | some true, some (.d (.sl _ n _)) => some ⟨.f (.v (.int .i64 n)), [], [], m⟩
    | some true, some (.ow g n _) => match (Γ g).bind AO.cells with | some _ => some ⟨.f (.v (.int .i64 n)), [], [g], m⟩ | none => none
    | some true, some (.bs g _ n _) => match (Γ g).bind AO.cells with | some _ => some ⟨.f (.v (.int .i64 n)), [], [g], m⟩ | none => none
    | some true, some (.f (.v (.slice none 0 0))) => some ⟨.f (.v (.int .i64 (0 : Nat))), [], [], m⟩
    | some true, some (.d (.v (.slice none 0 0))) => some ⟨.f (.v (.int .i64 (0 : Nat))), [], [], m⟩
    | some false, some (.f (.v (.string ⟨⟨l⟩⟩))) => some ⟨.f (.v (.int .i64 l.length)), [], [], m⟩
    | some false, some (.d (.v (.string ⟨⟨l⟩⟩))) => some ⟨.f (.v (.int .i64 l.length)), [], [], m⟩
    | _, _ => none
  | .call ⟨.builtin .min, ⟨[x, y]⟩, _⟩ => match evv L x, evv L y with
    | some (.int k p), some (.int k' q) => bif ikb k' k then some ⟨.f (.v (.int k (min p q))), [], [], m⟩ else none
    | _, _ => none
  | .call ⟨.builtin .max, ⟨[x, y]⟩, _⟩ => match evv L x, evv L y with
    | some (.int k p), some (.int k' q) => bif ikb k' k then some ⟨.f (.v (.int k (max p q))), [], [], m⟩ else none
    | _, _ => none
  | _ => none
theorem ev_at {L L' : Lo} {x : Operand} (h : ∀ t, x = .tmp t → L' t = L t) : ev L' x = ev L x := by
  cases x with
  | tmp t => exact h t rfl
  | _ => rfl
theorem evv_at {L L' : Lo} {x : Operand} (h : ∀ t, x = .tmp t → L' t = L t) : evv L' x = evv L x := by unfold evv; rw [ev_at h]
theorem evd_at {L L' : Lo} {x : Operand} (h : ∀ t, x = .tmp t → L' t = L t) : evd L' x = evd L x := by unfold evd; rw [ev_at h]
theorem evP_at {L L' : Lo} : ∀ {ps : List (Nat × Operand)}, (∀ x ∈ ps.map (·.2), ∀ t, x = .tmp t → L' t = L t) → evP L' ps = evP L ps
  | [], _ => rfl
  | (i, x) :: r, h => by unfold evP; rw [evd_at (h x (by simp)), evP_at (fun y hy => h y (by simp at hy ⊢; exact .inr hy))]
section
variable {P : Program} [V : Env P] {C : Cx} {L L' : Lo} {Γ Γ' : Ga} {ty : TypeId} {pos : String} {af : Array Edge} {gd : Option (Nat × Bool)} {m d : Nat}
/-- The same under other names for what it does not look at. -/
def Sm (op : Op) (x : Ex) (L L' : Lo) (Γ Γ' : Ga) : Prop := (∀ z ∈ op.operands.toList, ∀ t, z = .tmp t → L' t = L t) ∧ ∀ g ∈ x.G, Γ' g = Γ g
def put (x : Ex) (Γ : Ga) : Ga := x.E.foldl (fun Γ y => upd Γ y.1 y.2) Γ
theorem nilp_ok {g off : Nat} {x : Operand} {o : AO} {cs : List DV} (hn : Nat.blt d C.n = true) (hx : ev L x = some (.ptr g off)) (hg : Γ g = some o) (ho : o.cells = some cs) :
    OT P C ⟨some d, .nilCheck x, ty, pos, af, gd⟩ L Γ (upd L d (.ptr g off)) Γ :=
  OT.value hn (fun g' hg' ρ a w h => ev_ment h hx hg') fun ρ a w h => by
    obtain ⟨ob, h3⟩ := own_block h hg ho
    obtain ⟨b, rfl, hu⟩ := ev_rep h hx ob h3
    exact ⟨.pointer (some ⟨b, off, none⟩), by simp [execOp, hu], fun ob' h5 => by rw [h3] at h5; cases h5; exact ⟨b, rfl, rfl⟩⟩
theorem val_of {x : Operand} {u : Value} (h : ev L x = some (.f (.v u)) ∨ ev L x = some (.d (.v u))) : evv L x = some u := by
  unfold evv; rcases h with h | h <;> rw [h] <;> rfl
theorem ex_ok {op : Op} {x : Ex} (h : ex P L Γ m op = some x) (hs : Sm op x L L' Γ Γ') (hd : Nat.blt d C.n = true) :
    OT P C ⟨some d, op, ty, pos, af, gd⟩ L' Γ' (upd L' d x.X) (put x Γ') := by
  obtain ⟨hL, hG⟩ := hs
  cases op with
  | move y =>
    have e := ev_at (L := L) (L' := L') (x := y) (hL y (by simp [Op.operands]))
    simp only [ex] at h; split at h
    · rename_i X hx; cases h; exact OT.move hd (e.trans hx)
    · cases h
  | assign y =>
    have e := ev_at (L := L) (L' := L') (x := y) (hL y (by simp [Op.operands]))
    simp only [ex] at h; split at h
    · rename_i X hx; cases h; exact OT.assign hd (e.trans hx)
    · cases h
  | binOp op t y z t' =>
    have e1 := evv_at (L := L) (L' := L') (x := y) (hL y (by simp [Op.operands]))
    have e2 := evv_at (L := L) (L' := L') (x := z) (hL z (by simp [Op.operands]))
    simp only [ex] at h; split at h
    · rename_i u v h1 h2
      split at h
      · rename_i r h3; cases h; exact OT.bin hd (e1.trans h1) (e2.trans h2) h3
      · cases h
    · cases h
  | unOp op t y =>
    have e1 := evv_at (L := L) (L' := L') (x := y) (hL y (by simp [Op.operands]))
    simp only [ex] at h; split at h
    · rename_i u h1
      split at h
      · rename_i r h3; cases h; exact OT.un hd (e1.trans h1) h3
      · cases h
    · cases h
  | pick c y z =>
    have e0 := evv_at (L := L) (L' := L') (x := c) (hL c (by simp [Op.operands]))
    have e1 := ev_at (L := L) (L' := L') (x := y) (hL y (by simp [Op.operands]))
    have e2 := ev_at (L := L) (L' := L') (x := z) (hL z (by simp [Op.operands]))
    simp only [ex] at h; split at h
    · rename_i b h1
      split at h
      · rename_i X h3; cases h; exact OT.pick hd (e0.trans h1) (by rw [e1, e2]; exact h3)
      · cases h
    · cases h
  | extract y i =>
    have e := ev_at (L := L) (L' := L') (x := y) (hL y (by simp [Op.operands]))
    simp only [ex] at h; split at h
    · rename_i cs h1
      split at h
      · rename_i Y h2; cases h; exact OT.extract (A := .f (.tp cs)) hd (e.trans h1) rfl h2
      · cases h
    · rename_i cs h1
      split at h
      · rename_i Y h2; cases h; exact OT.extract (A := .d (.tp cs)) hd (e.trans h1) rfl h2
      · cases h
    · cases h
  | field t y i =>
    have e := ev_at (L := L) (L' := L') (x := y) (hL y (by simp [Op.operands]))
    simp only [ex] at h
    split at h
    · rename_i off cs h1 h2
      split at h
      · rename_i Y h3; cases h; exact OT.field (A := .f (.ag cs)) hd (e.trans h2) rfl (Okm.get V.hfl h1) h3
      · cases h
    · rename_i off cs h1 h2
      split at h
      · rename_i Y h3; cases h; exact OT.field (A := .d (.ag cs)) hd (e.trans h2) rfl (Okm.get V.hfl h1) h3
      · cases h
    · rename_i off n cs h1 h2; cases h; exact OT.fieldm (A := .f (.ag cs)) hd (e.trans h2) rfl (Okm.get V.hfl h1) rfl
    · rename_i off n cs h1 h2; cases h; exact OT.fieldm (A := .d (.ag cs)) hd (e.trans h2) rfl (Okm.get V.hfl h1) rfl
    · cases h
  | fieldAddr s y i =>
    have e := ev_at (L := L) (L' := L') (x := y) (hL y (by simp [Op.operands]))
    simp only [ex] at h
    split at h
    · rename_i k g off h1 h2
      split at h
      · rename_i cs h3; cases h
        obtain ⟨o, h4, h5⟩ := bind_cells h3
        exact OT.fieldp hd (e.trans h2) ((hG g (by simp)).trans h4) h5 (Okm.get V.hfo h1)
      · cases h
    · rename_i k cs h1 h2; cases h; exact OT.fielde (A := .f (.el cs)) hd (e.trans h2) rfl (Okm.get V.hfo h1)
    · rename_i k cs h1 h2; cases h; exact OT.fielde (A := .d (.el cs)) hd (e.trans h2) rfl (Okm.get V.hfo h1)
    · cases h
  | load t y =>
    have e := ev_at (L := L) (L' := L') (x := y) (hL y (by simp [Op.operands]))
    simp only [ex] at h
    split at h
    · rename_i g off h1 h2
      split at h
      · rename_i cs h3
        split at h
        · rename_i X h6; cases h
          obtain ⟨o, h4, h5⟩ := bind_cells h3
          exact OT.ldp hd (e.trans h2) ((hG g (by simp)).trans h4) h5 h6 (Okl.get V.hty h1)
        · cases h
      · cases h
    · rename_i cs h1 h2
      split at h
      · rename_i X h6; cases h; exact OT.lde (A := .f (.el cs)) hd (e.trans h2) rfl h6 (Okl.get V.hty h1)
      · cases h
    · rename_i cs h1 h2
      split at h
      · rename_i X h6; cases h; exact OT.lde (A := .d (.el cs)) hd (e.trans h2) rfl h6 (Okl.get V.hty h1)
      · cases h
    · rename_i n g off h1 h2
      split at h
      · rename_i cs h3
        cases hb : Nat.beq ((cs.drop off).take n).length n with
        | true =>
          rw [hb, cond_true] at h; cases h
          obtain ⟨o, h4, h5⟩ := bind_cells h3
          exact OT.ldpm hd (e.trans h2) ((hG g (by simp)).trans h4) h5 rfl (Nat.eq_of_beq_eq_true hb) (Okl.get V.hty h1)
        | false => rw [hb, cond_false] at h; cases h
      · cases h
    · rename_i n cs h1 h2
      cases hb : Nat.beq (cs.take n).length n with
      | true => rw [hb, cond_true] at h; cases h; exact OT.ldem (A := .f (.el cs)) hd (e.trans h2) rfl rfl (Nat.eq_of_beq_eq_true hb) (Okl.get V.hty h1)
      | false => rw [hb, cond_false] at h; cases h
    · rename_i n cs h1 h2
      cases hb : Nat.beq (cs.take n).length n with
      | true => rw [hb, cond_true] at h; cases h; exact OT.ldem (A := .d (.el cs)) hd (e.trans h2) rfl rfl (Nat.eq_of_beq_eq_true hb) (Okl.get V.hty h1)
      | false => rw [hb, cond_false] at h; cases h
    · cases h
  | box t y =>
    have e := evd_at (L := L) (L' := L') (x := y) (hL y (by simp [Op.operands]))
    simp only [ex] at h
    split at h
    · rename_i X h1 h2
      cases hb : X.cells.all DV.one with
      | true => rw [hb, cond_true] at h; cases h; exact OT.box m hd ((hG m (by simp)).trans h2) (e.trans h1) hb
      | false => rw [hb, cond_false] at h; cases h
    · cases h
  | alloc t =>
    simp only [ex] at h
    split at h
    · rename_i zs h1 h2
      cases hb : zs.all Value.oneCell' with
      | true => rw [hb, cond_true] at h; cases h; exact OT.alloc m hd ((hG m (by simp)).trans h2) (Okl.get V.hzc h1) hb
      | false => rw [hb, cond_false] at h; cases h
    · cases h
  | convert s t y =>
    have e := evv_at (L := L) (L' := L') (x := y) (hL y (by simp [Op.operands]))
    simp only [ex] at h
    split at h
    · rename_i k k' k2 n h1 h2 h3
      cases hb : ikb k2 k with
      | true => rw [hb, cond_true] at h; cases h; obtain rfl := ikb_eq hb; exact OT.convi hd (e.trans h3) (Okl.get V.huk h1) (Okl.get V.huk h2)
      | false => rw [hb, cond_false] at h; cases h
    · cases h
  | nilCheck y =>
    have e := ev_at (L := L) (L' := L') (x := y) (hL y (by simp [Op.operands]))
    simp only [ex] at h
    split at h
    · rename_i g off h2
      split at h
      · rename_i cs h3; cases h
        obtain ⟨o, h4, h5⟩ := bind_cells h3
        exact nilp_ok hd (e.trans h2) ((hG g (by simp)).trans h4) h5
      · cases h
    · cases h
  | build t ps =>
    obtain ⟨ps⟩ := ps
    have e := evP_at (L := L) (L' := L') (ps := ps) (fun y hy => hL y (by simp [Op.operands] at hy ⊢; exact hy))
    simp only [ex] at h
    split at h
    · rename_i Xs zs pl h1 h2
      cases hb : zs.all Value.oneCell' with
      | true =>
        rw [hb, cond_true] at h
        split at h
        · rename_i ds h3; cases h; exact OT.build hd (e.trans h1) (Okl.get V.hsp h2) hb h3
        · cases h
      | false => rw [hb, cond_false] at h; cases h
    · cases h
  | slice t y lo hi mx =>
    have e := ev_at (L := L) (L' := L') (x := y) (hL y (by simp [Op.operands]))
    cases lo <;> cases hi <;> cases mx <;> simp only [ex] at h
    case none.none.none =>
      split at h
      · rename_i n sz cs h1 h2
        cases hb : (Nat.ble (n * sz) cs.length && Nat.ble n 1048576) with
        | true => rw [hb, cond_true] at h; cases h; simp only [Bool.and_eq_true] at hb; exact OT.slicee (A := .f (.el cs)) hd (e.trans h2) rfl (Okl.get V.har h1) (Nat.le_of_ble_eq_true hb.1) (Nat.le_of_ble_eq_true hb.2)
        | false => rw [hb, cond_false] at h; cases h
      · rename_i n sz cs h1 h2
        cases hb : (Nat.ble (n * sz) cs.length && Nat.ble n 1048576) with
        | true => rw [hb, cond_true] at h; cases h; simp only [Bool.and_eq_true] at hb; exact OT.slicee (A := .d (.el cs)) hd (e.trans h2) rfl (Okl.get V.har h1) (Nat.le_of_ble_eq_true hb.1) (Nat.le_of_ble_eq_true hb.2)
        | false => rw [hb, cond_false] at h; cases h
      · cases h
    all_goals cases h
  | call c =>
    unfold ex at h
    split at h <;> rename_i heq
    all_goals first | (cases heq; done) | skip
    · cases heq
      rename_i y t
      have e := ev_at (L := L) (L' := L') (x := y) (hL y (by simp [Op.operands, Call.operands]))
      split at h
      · rename_i n _ h1 h2; cases h; exact OT.len hd (e.trans h2) ⟨_, _, rfl⟩ (Okl.get V.hsl h1)
      · rename_i n _ h1 h2; cases h; exact OT.len hd (e.trans h2) ⟨_, _, rfl⟩ (Okl.get V.hsl h1)
      · rename_i g n _ h1 h2
        split at h
        · rename_i cs h3; cases h; exact OT.leno hd (e.trans h2) ((congrArg (Option.bind · AO.cells) (hG g (by simp))).trans h3) (Okl.get V.hsl h1)
        · cases h
      · rename_i g _ n _ h1 h2
        split at h
        · rename_i cs h3; cases h
          obtain ⟨o, h4, h5⟩ := bind_cells h3
          exact OT.lenb hd (e.trans h2) ((hG g (by simp)).trans h4) h5 (Okl.get V.hsl h1)
        · cases h
      · rename_i h1 h2; cases h; exact OT.len0 hd (val_of (.inl (e.trans h2))) (Okl.get V.hsl h1)
      · rename_i h1 h2; cases h; exact OT.len0 hd (val_of (.inr (e.trans h2))) (Okl.get V.hsl h1)
      · rename_i l h1 h2; cases h; exact OT.lens hd (val_of (.inl (e.trans h2))) (Okl.get V.hsl h1)
      · rename_i l h1 h2; cases h; exact OT.lens hd (val_of (.inr (e.trans h2))) (Okl.get V.hsl h1)
      · cases h
    · cases heq
      rename_i y z _
      have e1 := evv_at (L := L) (L' := L') (x := y) (hL y (by simp [Op.operands, Call.operands]))
      have e2 := evv_at (L := L) (L' := L') (x := z) (hL z (by simp [Op.operands, Call.operands]))
      split at h
      · rename_i k p k' q h1 h2
        cases hb : ikb k' k with
        | true => rw [hb, cond_true] at h; cases h; obtain rfl := ikb_eq hb; exact OT.min2 hd (e1.trans h1) (e2.trans h2)
        | false => rw [hb, cond_false] at h; cases h
      · cases h
    · cases heq
      rename_i y z _
      have e1 := evv_at (L := L) (L' := L') (x := y) (hL y (by simp [Op.operands, Call.operands]))
      have e2 := evv_at (L := L) (L' := L') (x := z) (hL z (by simp [Op.operands, Call.operands]))
      split at h
      · rename_i k p k' q h1 h2
        cases hb : ikb k' k with
        | true => rw [hb, cond_true] at h; cases h; obtain rfl := ikb_eq hb; exact OT.max2 hd (e1.trans h1) (e2.trans h2)
        | false => rw [hb, cond_false] at h; cases h
      · cases h
    · cases h
  | _ => simp [ex] at h
def exs (P : Program) [V : Env P] (L : Lo) (Γ : Ga) : Op → Option (Nat × AO)
  | .store t x y => match ev L x, evd L y, ls V.sz t with
    | some (.ptr g off), some X, some k => match Γ g with
      | some o => match o.cells with
        | some cs => bif Nat.beq k X.cells.length && X.cells.all DV.one && Nat.ble (off + X.cells.length) cs.length then some (g, o.re (splice cs off X.cells)) else none
        | none => none
      | none => none
    | _, _, _ => none
  | _ => none
theorem exs_ok {op : Op} {x : Nat × AO} (h : exs P L Γ op = some x) (hL : ∀ z ∈ op.operands.toList, ∀ t, z = .tmp t → L' t = L t) (hG : Γ' x.1 = Γ x.1) :
    OT P C ⟨none, op, ty, pos, af, gd⟩ L' Γ' L' (upd Γ' x.1 x.2) := by
  cases op with
  | store t y z =>
    have e1 := ev_at (L := L) (L' := L') (x := y) (hL y (by simp [Op.operands]))
    have e2 := evd_at (L := L) (L' := L') (x := z) (hL z (by simp [Op.operands]))
    simp only [exs] at h
    split at h
    · rename_i g off X k h1 h2 h3
      split at h
      · rename_i o h4
        split at h
        · rename_i cs h5
          cases hb : (Nat.beq k X.cells.length && X.cells.all DV.one && Nat.ble (off + X.cells.length) cs.length) with
          | true =>
            rw [hb, cond_true] at h; cases h
            simp only [Bool.and_eq_true, Nat.beq_eq] at hb
            obtain ⟨⟨rfl, b1⟩, b2⟩ := hb
            exact OT.storeg (e1.trans h1) (hG.trans h4) h5 (e2.trans h2) (Okl.get V.hsz h3) b1 (by simpa using b2)
          | false => rw [hb, cond_false] at h; cases h
        · cases h
      · cases h
    · cases h
  | _ => simp [exs] at h
/-- One plain operation, wherever it is wanted. -/
structure Ey where
  E : Eff
  G : List Nat
  m : Nat
def ey (P : Program) [Env P] (n : Nat) (L : Lo) (Γ : Ga) (m : Nat) (o : Oper) : Option Ey := match o.dst with
  | some d => bif Nat.blt d n then (match ex P L Γ m o.op with | some ⟨X, E, G, m'⟩ => some ⟨⟨some (d, X), E⟩, G, m'⟩ | none => none) else none
  | none => match exs P L Γ o.op with | some (g, b) => some ⟨⟨none, [(g, b)]⟩, [g], m⟩ | none => none
theorem ey_ok {o : Oper} {x : Ey} (h : ey P C.n L Γ m o = some x) (hL : ∀ z ∈ o.op.operands.toList, ∀ t, z = .tmp t → L' t = L t) (hG : ∀ g ∈ x.G, Γ' g = Γ g) : OT P C o L' Γ' (x.E.L L') (x.E.G Γ') := by
  obtain ⟨dst, op, ty, pos, af, gd⟩ := o
  unfold ey at h
  cases dst with
  | some d =>
    dsimp only at h
    cases hb : Nat.blt d C.n with
    | true =>
      rw [hb, cond_true] at h
      split at h
      · rename_i hx; cases h; exact ex_ok hx ⟨hL, hG⟩ hb
      · cases h
    | false => rw [hb, cond_false] at h; cases h
  | none =>
    dsimp only at h
    split at h
    · rename_i hx; cases h; exact exs_ok hx hL (hG _ (by simp))
    · cases h
/-- Whether an operation is wanted. -/
def wt (n : Nat) (all : List Oper) (L : Lo) : Option (Nat × Bool) → Option Bool
  | none => some true
  | some (j, want) => match (all[j]?).bind (·.dst) with
    | some t => match evv L (.tmp t) with
      | some (.bool b) => bif Nat.blt t n then some (b == want) else none
      | some (.tuple ⟨[]⟩) => some false
      | _ => none
    | none => none
theorem wt_ok {ρ : Rho} {a : Act} {w : World} (h : RepsAt C ρ L Γ a w) {o : Oper} {all : List Oper} {b : Bool} (hw : wt C.n all L o.guard = some b) : Region.wanted o (yielded all.toArray a.tmps) = b := by
  unfold wt at hw
  split at hw
  · rename_i hg; cases hw; unfold Region.wanted; rw [hg]
  · rename_i j want hg
    split at hw
    · rename_i t ht
      have ht' : (all.toArray[j]?).bind (·.dst) = some t := by rw [List.getElem?_toArray]; exact ht
      split at hw
      · rename_i c hc
        cases hb : Nat.blt t C.n with
        | true => rw [hb, cond_true] at hw; cases hw; exact wanted_of h hg ht' hc (by simpa using hb)
        | false => rw [hb, cond_false] at hw; cases hw
      · rename_i hc; cases hw; exact wanted_undef h hg ht' hc
      · cases hw
    · cases hw
end
inductive Fx where
  | sq (y : Code)
  | bl (id : Nat)
  | lp (R : Act → World → Prop)
def den (P : Program) (Q : Exit → Act → World → Prop) : List Fx → Exit → Act → World → Prop
  | [] => Q
  | .sq y :: S => Exit.then (fun a w => y.wp P (den P Q S) a w) (den P Q S)
  | .bl id :: S => Exit.inBlock id (den P Q S)
  | .lp R :: S => Exit.then R (den P Q S)
inductive Pt where
  | c (c : Code)
  | o (all l : List Oper)
  | e (x : Exit)
def Pt.wp (P : Program) (Q : Exit → Act → World → Prop) (S : List Fx) : Pt → Act → World → Prop
  | .c y, a, w => y.wp P (den P Q S) a w
  | .o r l, a, w => wpList P r.toArray (den P Q S) l a w
  | .e x, a, w => den P Q S x a w
/-- A place in a walk. -/
structure St where
  p : Pt
  S : List Fx
  L : Lo
  Γ : Ga
  m : Nat
/-- A step that does nothing. -/
def nv : Pt → List Fx → Option (Pt × List Fx)
  | .c (.seq x y), S => some (.c x, .sq y :: S)
  | .c .skip, S => some (.e .normal, S)
  | .c .ret, S => some (.e .ret, S)
  | .c (.exit i), S => some (.e (.exit i), S)
  | .c (.block i c), S => some (.c c, .bl i :: S)
  | .c (.region i ⟨l⟩ false), S => some (.o l l, S)
  | .o _ [], S => some (.e .normal, S)
  | .e .normal, .sq y :: S => some (.c y, S)
  | .e .normal, .bl _ :: S => some (.e .normal, S)
  | .e (.exit i), .sq _ :: S => some (.e (.exit i), S)
  | .e (.exit i), .lp _ :: S => some (.e (.exit i), S)
  | .e (.exit i), .bl j :: S => bif Nat.beq i j then some (.e .normal, S) else some (.e (.exit i), S)
  | .e .ret, _ :: S => some (.e .ret, S)
  | _, _ => none
theorem nv_ok {P : Program} {Q : Exit → Act → World → Prop} {p p' : Pt} {S S' : List Fx} {a : Act} {w : World} (h : nv p S = some (p', S')) (k : p'.wp P Q S' a w) : p.wp P Q S a w := by
  unfold nv at h
  split at h
  case h_1 => cases h; exact wp_seq (P := P) k
  case h_2 => cases h; exact wp_skip (P := P) k
  case h_3 => cases h; exact wp_ret (P := P) k
  case h_4 => cases h; exact wp_exit (P := P) k
  case h_5 => cases h; exact wp_block (P := P) k
  case h_6 => cases h; exact wp_region_lit (P := P) k
  case h_7 => cases h; exact k
  case h_8 => cases h; exact k
  case h_9 => cases h; exact k
  case h_10 => cases h; exact k
  case h_11 => cases h; exact k
  case h_12 i j S =>
    show (if i = j then _ else _)
    cases hb : Nat.beq i j with
    | true => rw [hb, cond_true] at h; cases h; rw [Nat.beq_eq] at hb; subst hb; rw [if_pos rfl]; exact k
    | false => rw [hb, cond_false] at h; cases h; rw [if_neg (by rw [← Nat.beq_eq, hb]; simp)]; exact k
  case h_13 x S =>
    cases h
    cases x <;> exact k
  case h_14 => cases h
/-- So many plain operations (and tests whose way is known) from a place on. -/
def go (P : Program) [Env P] (n : Nat) : Nat → Nat → Pt → List Fx → Lo → Ga → Nat → Option St
  | 0, _, p, S, L, Γ, m => some ⟨p, S, L, Γ, m⟩
  | f + 1, k, p, S, L, Γ, m => match nv p S with
    | some (p', S') => go P n f k p' S' L Γ m
    | none => match k with
      | 0 => some ⟨p, S, L, Γ, m⟩
      | k + 1 => match p with
        | .c (.cond c x y) => match evv L c with
          | some (.bool true) => go P n f k (.c x) S L Γ m
          | some (.bool false) => go P n f k (.c y) S L Γ m
          | _ => none
        | .o all (o :: r) => match wt n all L o.guard with
          | some true => match ey P n L Γ m o with
            | some ⟨⟨some (d, X), []⟩, _, m'⟩ => go P n f k (.o all r) S (upd L d X) Γ m'
            | some ⟨⟨some (d, X), [(g, b)]⟩, _, m'⟩ => go P n f k (.o all r) S (upd L d X) (upd Γ g b) m'
            | some ⟨⟨none, [(g, b)]⟩, _, m'⟩ => go P n f k (.o all r) S L (upd Γ g b) m'
            | _ => none
          | some false => match o.dst with | some d => bif Nat.blt d n then go P n f k (.o all r) S (upd L d (.f (.v (.tuple ⟨[]⟩)))) Γ m else none | none => none
          | none => none
        | _ => none
section
variable {P : Program} [V : Env P] {C : Cx} {Q : Exit → Act → World → Prop}
abbrev St.wp (P : Program) (C : Cx) (Q : Exit → Act → World → Prop) (x : St) : Prop := TE C (x.p.wp P Q x.S) x.L x.Γ
theorem TL.wt {L : Lo} {Γ : Ga} {S : List Fx} {all r : List Oper} {o : Oper} {L' : Lo} {Γ' : Ga} (hw : Pl.wt C.n all L o.guard = some true) (h : OT P C o L Γ L' Γ') (k : TE C (Pt.wp P Q S (.o all r)) L' Γ') : TE C (Pt.wp P Q S (.o all (o :: r))) L Γ := fun a w hr => by
  obtain ⟨ρ, hr'⟩ := hr
  show wpList P all.toArray (den P Q S) (o :: r) a w
  unfold wpList
  rw [if_pos (wt_ok hr' hw)]
  exact .inl (wp_weak (h a w ⟨ρ, hr'⟩) k)
theorem go_ok : ∀ (f : Nat) {k : Nat} {p : Pt} {S : List Fx} {L : Lo} {Γ : Ga} {m : Nat} {x : St}, go P C.n f k p S L Γ m = some x → x.wp P C Q → TE C (p.wp P Q S) L Γ := by
  intro f
  induction f with
  | zero => intro k p S L Γ m x h hx; cases h; exact hx
  | succ f ih =>
    intro k p S L Γ m x h hx
    unfold go at h
    split at h
    · rename_i e; exact fun a w hr => nv_ok e (ih h hx a w hr)
    · split at h
      · cases h; exact hx
      · split at h
        · split at h
          · rename_i hc
            intro a w hr; obtain ⟨ρ, hr'⟩ := hr
            exact wp_cond_split (P := P) (t := true) (evv_eval hr' hc) (fun _ => ih h hx a w ⟨ρ, hr'⟩) (fun e => by cases e)
          · rename_i hc
            intro a w hr; obtain ⟨ρ, hr'⟩ := hr
            exact wp_cond_split (P := P) (t := false) (evv_eval hr' hc) (fun e => by cases e) (fun _ => ih h hx a w ⟨ρ, hr'⟩)
          · cases h
        · split at h
          · rename_i hw
            split at h
            all_goals first | (cases h; done) | (rename_i hy; exact TL.wt hw (ey_ok hy (fun _ _ _ _ => rfl) (fun _ _ => rfl)) (ih h hx))
          · rename_i hw
            split at h
            · rename_i d hd
              cases hb : Nat.blt d C.n with
              | true =>
                rw [hb, cond_true] at h
                intro a w hr; obtain ⟨ρ, hr'⟩ := hr
                show wpList P _ (den P Q S) (_ :: _) a w
                unfold wpList
                rw [if_neg (by rw [wt_ok hr' hw]; simp), hd]
                exact ih h hx _ _ ⟨ρ, hr'.put (by simpa using hb) rfl (fun g hg => by simp [AV.id] at hg)⟩
              | false => rw [hb, cond_false] at h; cases h
            · cases h
          · cases h
        · cases h
end
end Go.Proofs.YtdjcclcejmeheaaGreat.Pl

