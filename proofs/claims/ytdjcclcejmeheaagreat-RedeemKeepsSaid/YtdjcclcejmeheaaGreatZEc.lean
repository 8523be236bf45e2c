import Derived.Test.YtdjcclcejmeheaaGreatZGs
import Derived.Test.YtdjcclcejmeheaaGreatZEv
import Derived.Test.YtdjcclcejmeheaaGreatZPy
/-
  Heads in logs, of the program.
-/
namespace Go.Proofs.YtdjcclcejmeheaaGreat
set_option linter.unusedVariables false
set_option linter.unusedSimpArgs false
open Go.RowKit Pl
set_option maxRecDepth 100000
set_option maxHeartbeats 3200000
theorem in_pf (y : Int) (hy : u64I y) (old new : List UInt8) (ho : old.length ≤ 1048576) (hn : new.length ≤ 1048576) (p : List H) (hp : p.length ≤ 1048576) : PF Tryz.prog 18 [.v (.int .u64 y), slT bdv 1 (old), slT bdv 1 (new), slT hdv 32 (p)] (.v (.int .i64 (inF y old new p))) := by
 obtain ⟨a, b, e, hV⟩ : ∃ a b e, headsF y old new = (a, b, e) := ⟨_, _, _, rfl⟩
 have c1 := two_pc y hy old new ho hn
 rw [hV] at c1
 dsimp only at c1
 have hz := headsF_right hV
 rw [show inF y old new p = inG a b e (lleaf old) p by unfold inF; rw [hV]]
 refine PF.enter (fn := Tryz.f18) Tryz.func18 rfl Tryz.ntmps18 rfl (fun w0 => .w ?_)
 refine .t 4 1 rfl rfl (.cc (c1) rfl) ?_
 refine .g 9 1 rfl ?_
 refine TE.obj 1 (.box 45 a.dv) rfl rfl ?_
 refine TE.obj 2 (.box 45 b.dv) rfl rfl ?_
 refine .q 3 3 rfl rfl (fun h1 => ?_) (fun h1 => ?_)
 ·skip
  have he : ¬ e = 0 := by simpa using h1
  rw [inG_err he]
  exact .z 2 3 rfl (TE.retf rfl rfl rfl (okv rfl))
 ·skip
  have he : e = 0 := by simpa using h1
  have hr := hz he
  have ha := rightH_ep hr.1
  have hb := rightH_ep hr.2
  refine .q 6 3 rfl rfl (fun h2 => ?_) (fun h2 => ?_)
  ·skip
   have hk : b.ep ≤ a.ep := of_decide_eq_true h2
   rw [inG_form he hk]
   exact .z 1 3 rfl (TE.retf rfl rfl rfl (okv rfl))
  ·skip
   have hk : ¬ b.ep ≤ a.ep := of_decide_eq_false h2
   obtain ⟨n, qn⟩ : ∃ z : Nat, b.ep - 1 = (z : Int) := ⟨(b.ep - 1).toNat, by omega⟩
   have tn : (b.ep - 1).toNat = n := by omega
   obtain ⟨i, qi⟩ : ∃ z : Nat, a.ep - 1 = (z : Int) := ⟨(a.ep - 1).toNat, by omega⟩
   have ti : (a.ep - 1).toNat = i := by omega
   have hin : i < n := by omega
   have hnb : n ≤ 1073741825 := by omega
   obtain ⟨kL, hkL⟩ : ∃ k, inLog b.log n i (lleaf old) p = k := ⟨_, rfl⟩
   have eL : inLog b.log (b.ep - 1).toNat (a.ep - 1).toNat (lleaf old) p = kL := by rw [tn, ti]; exact hkL
   have cL : PF Tryz.prog 55 [.ag (hdv (b.log)), .v (.int .i64 ((n : Nat) : Int)), .v (.int .i64 ((i : Nat) : Int)), .ag (hdv (lleaf old)), slT hdv 32 (p)] (.v (.bool kL)) := hkL ▸ lchk_pf b.log n i (lleaf old) p hnb hin hp
   refine .d 0 3 rfl ?_
   refine .v 1 3 [2] rfl rfl (fun _ _ => .lp (hdv b.log) rfl) ?_
   refine .v 2 3 [] rfl rfl (fun _ _ => .bv (.int .i64 ((n : Nat) : Int)) rfl (congrArg _ (by rw [IntKind.wrap_i64]; omega))) ?_
   refine .v 2 3 [] rfl rfl (fun _ _ => .bv (.int .i64 ((i : Nat) : Int)) rfl (congrArg _ (by rw [IntKind.wrap_i64]; omega))) ?_
   refine .v 1 3 [] rfl rfl (fun _ _ => .cf (lleaf_pf old ho) rfl) ?_
   refine .v 1 3 [] rfl rfl (fun _ _ => .cf (cL) rfl) ?_
   refine .y 2 3 rfl (by kernel_rfl) ?_
   refine .q 0 3 rfl rfl (fun h3 => ?_) (fun h3 => ?_)
   ·skip
    have hK : kL = false := by simpa using h3
    rw [inG_no he hk (eL.trans hK)]
    exact .z 1 3 rfl (TE.retf rfl rfl rfl (okv rfl))
   ·skip
    have hK : kL = true := by simpa using h3
    rw [inG_ok he hk (eL.trans hK)]
    exact .z 1 3 rfl (TE.retf rfl rfl rfl (okv rfl))
theorem grown_pf (y : Int) (hy : u64I y) (old new : List UInt8) (ho : old.length ≤ 1048576) (hn : new.length ≤ 1048576) (p : List H) (hp : p.length ≤ 1048576) (hG : (headsF y old new).2.2 = 0 → ¬ (headsF y old new).1.ep < 2 → ∀ (o w : H) (m n : Nat), 1 ≤ m → m ≤ n → n ≤ 1073741825 → PF Tryz.prog 54 [.ag (hdv (o)), .ag (hdv (w)), .v (.int .i64 ((m : Nat) : Int)), .v (.int .i64 ((n : Nat) : Int)), slT hdv 32 (p)] (.v (.bool (growL o w m n p)))) : PF Tryz.prog 17 [.v (.int .u64 y), slT bdv 1 (old), slT bdv 1 (new), slT hdv 32 (p)] (.v (.int .i64 (growF y old new p))) := by
 obtain ⟨a, b, e, hV⟩ : ∃ a b e, headsF y old new = (a, b, e) := ⟨_, _, _, rfl⟩
 have c1 := two_pc y hy old new ho hn
 rw [hV] at c1
 dsimp only at c1
 have hz := headsF_right hV
 rw [hV] at hG
 dsimp only at hG
 rw [show growF y old new p = growG a b e p by unfold growF; rw [hV]]
 refine PF.enter (fn := Tryz.f17) Tryz.func17 rfl Tryz.ntmps17 rfl (fun w0 => .w ?_)
 refine .t 4 1 rfl rfl (.cc (c1) rfl) ?_
 refine .g 9 1 rfl ?_
 refine TE.obj 1 (.box 45 a.dv) rfl rfl ?_
 refine TE.obj 2 (.box 45 b.dv) rfl rfl ?_
 refine .q 3 3 rfl rfl (fun h1 => ?_) (fun h1 => ?_)
 ·skip
  have he : ¬ e = 0 := by simpa using h1
  rw [growG_err he]
  exact .z 2 3 rfl (TE.retf rfl rfl rfl (okv rfl))
 ·skip
  have he : e = 0 := by simpa using h1
  have hr := hz he
  have ha := rightH_ep hr.1
  have hb := rightH_ep hr.2
  by_cases g1 : a.ep < 2
  ·skip
   have hbad : a.ep < 2 ∨ b.ep < a.ep := .inl g1
   refine .t 2 3 rfl rfl (.bv (.bool true) rfl (congrArg Value.bool (decide_eq_true g1))) ?_
   rw [growG_form he hbad]
   exact .z 10 3 rfl (TE.retf rfl rfl rfl (okv rfl))
  ·skip
   by_cases g2 : b.ep < a.ep
   ·skip
    have hbad : a.ep < 2 ∨ b.ep < a.ep := .inr g2
    refine .t 2 3 rfl rfl (.bv (.bool false) rfl (congrArg Value.bool (decide_eq_false g1))) ?_
    refine .t 5 3 rfl rfl (.bv (.bool true) rfl (congrArg Value.bool (decide_eq_true g2))) ?_
    rw [growG_form he hbad]
    exact .z 4 3 rfl (TE.retf rfl rfl rfl (okv rfl))
   ·skip
    have hbad : ¬ (a.ep < 2 ∨ b.ep < a.ep) := fun z => z.elim g1 g2
    obtain ⟨m, qm⟩ : ∃ z : Nat, a.ep - 1 = (z : Int) := ⟨(a.ep - 1).toNat, by omega⟩
    have tm : (a.ep - 1).toNat = m := by omega
    obtain ⟨n, qn⟩ : ∃ z : Nat, b.ep - 1 = (z : Int) := ⟨(b.ep - 1).toNat, by omega⟩
    have tn : (b.ep - 1).toNat = n := by omega
    obtain ⟨kL, hkL⟩ : ∃ k, growL a.log b.log m n p = k := ⟨_, rfl⟩
    have eL : growL a.log b.log (a.ep - 1).toNat (b.ep - 1).toNat p = kL := by rw [tm, tn]; exact hkL
    have cG : PF Tryz.prog 54 [.ag (hdv (a.log)), .ag (hdv (b.log)), .v (.int .i64 ((m : Nat) : Int)), .v (.int .i64 ((n : Nat) : Int)), slT hdv 32 (p)] (.v (.bool kL)) := hkL ▸ hG he g1 a.log b.log m n (by omega) (by omega) (by omega)
    refine .t 2 3 rfl rfl (.bv (.bool false) rfl (congrArg Value.bool (decide_eq_false g1))) ?_
    refine .t 5 3 rfl rfl (.bv (.bool false) rfl (congrArg Value.bool (decide_eq_false g2))) ?_
    refine .t 4 3 rfl rfl (.lp (hdv a.log) rfl) ?_
    refine .t 1 3 rfl rfl (.lp (hdv b.log) rfl) ?_
    refine .t 2 3 rfl rfl (.bv (.int .i64 ((m : Nat) : Int)) rfl (congrArg _ (by rw [IntKind.wrap_i64]; omega))) ?_
    refine .t 2 3 rfl rfl (.bv (.int .i64 ((n : Nat) : Int)) rfl (congrArg _ (by rw [IntKind.wrap_i64]; omega))) ?_
    refine .t 1 3 rfl rfl (.cf (cG) rfl) ?_
    refine .q 2 3 rfl rfl (fun h7 => ?_) (fun h7 => ?_)
    ·skip
     have hK : kL = false := by simpa using h7
     rw [growG_no he hbad (eL.trans hK)]
     exact .z 1 3 rfl (TE.retf rfl rfl rfl (okv rfl))
    ·skip
     have hK : kL = true := by simpa using h7
     rw [growG_ok he hbad (eL.trans hK)]
     exact .z 1 3 rfl (TE.retf rfl rfl rfl (okv rfl))
theorem rpath_one (l : List H) (h1 : l.length = 1) : PC Tryz.prog 16 [slT hdv 32 (l), .v (.int .i64 0)] (.tp [slT hdv 32 ([]), .v (.bool true)]) := by
 refine PC.enter (fn := Tryz.f16) Tryz.func16 rfl Tryz.ntmps16 rfl (fun w0 K0 => .w ?_)
 refine .t 3 1 rfl rfl (.bv (.bool false) rfl (congrArg Value.bool (decide_eq_false (by omega)))) ?_
 refine .t 4 1 rfl rfl (.bv (.bool false) rfl (congrArg Value.bool (decide_eq_false (by omega)))) ?_
 refine .t 4 1 rfl rfl (.bv (.bool true) rfl (congrArg Value.bool (decide_eq_true (by omega)))) ?_
 refine .g 3 1 rfl ?_
 refine TE.sub 4 (slT hdv 32 ([])) rfl rfl (nil_sub _ _) ?_
 exact .z 0 1 rfl (TE.rettc rfl rfl rfl)
end Go.Proofs.YtdjcclcejmeheaaGreat
/-
  The seat's directory.
-/
namespace Go.Proofs.YtdjcclcejmeheaaGreat
set_option linter.unusedVariables false
set_option linter.unusedSimpArgs false
open Go.RowKit Pl
set_option maxRecDepth 100000
set_option maxHeartbeats 3200000
end Go.Proofs.YtdjcclcejmeheaaGreat
/-
  Knowledge compared, items compared.
-/
namespace Go.Proofs.YtdjcclcejmeheaaGreat
set_option linter.unusedVariables false
set_option linter.unusedSimpArgs false
open Go.RowKit Pl
set_option maxRecDepth 100000
set_option maxHeartbeats 3200000
section
variable {P : Program} {C : Cx} {L : Lo} {Γ : Ga} {d : Nat} {ty : TypeId} {pos : String} {af : Array Edge} {gd : Option (Nat × Bool)}
def Kn.us (k : Kn) : List Value := [strV k.nm, .int .i64 k.ver, .int .u64 k.key, .int .i64 k.ep]
def En.us (e : En) : List Value := [strV e.nm, .int .i64 e.ver, .int .u64 e.key]
def enFit (k : En) : Prop := k.nm.length ≤ 1048576 ∧ (-9223372036854775808 ≤ k.ver ∧ k.ver < 9223372036854775808) ∧ (0 ≤ k.key ∧ k.key < 18446744073709551616)
end
end Go.Proofs.YtdjcclcejmeheaaGreat
/-
  The program's Right.
-/
namespace Go.Proofs.YtdjcclcejmeheaaGreat
set_option linter.unusedVariables false
set_option linter.unusedSimpArgs false
open Go.RowKit Pl
set_option maxRecDepth 100000
set_option maxHeartbeats 3200000
/-- One step of a right directory. -/
def stepB (p : Option Kn) (k : Kn) : Bool := rightE k.nm k.ver k.key && (decide (1 ≤ k.ep) && (match p with
  | none => decide (k.ver = 1)
  | some q => if q.nm = k.nm then decide (k.ver = i64w (q.ver + 1)) && decide (q.ep < k.ep) else !(Op.bytesLess k.nm q.nm) && decide (k.ver = 1)))
theorem stepB_first {k : Kn} (hR : rightE k.nm k.ver k.key = true) (hep : 1 ≤ k.ep) (hv : k.ver = 1) : stepB none k = true := by
  unfold stepB; rw [hR, decide_eq_true hep, decide_eq_true hv]; rfl
theorem stepB_new {q k : Kn} (hR : rightE k.nm k.ver k.key = true) (hep : 1 ≤ k.ep) (hn : ¬ q.nm = k.nm) (hb : Op.bytesLess k.nm q.nm = false) (hv : k.ver = 1) : stepB (some q) k = true := by
  unfold stepB; simp only [if_neg hn]; rw [hR, decide_eq_true hep, hb, decide_eq_true hv]; rfl
theorem stepB_next {q k : Kn} (hR : rightE k.nm k.ver k.key = true) (hep : 1 ≤ k.ep) (hn : q.nm = k.nm) (hv : k.ver = i64w (q.ver + 1)) (he : q.ep < k.ep) : stepB (some q) k = true := by
  unfold stepB; simp only [if_pos hn]; rw [hR, decide_eq_true hep, decide_eq_true hv, decide_eq_true he]; rfl
end Go.Proofs.YtdjcclcejmeheaaGreat
/-
  The reference's Right.
-/
namespace Go.Proofs.YtdjcclcejmeheaaGreat
set_option linter.unusedVariables false
set_option linter.unusedSimpArgs false
open Go.RowKit Pl
set_option maxRecDepth 100000
set_option maxHeartbeats 3200000
end Go.Proofs.YtdjcclcejmeheaaGreat
/-
  The directory's plain law: what the program's Add makes of a sorted directory is what the reference's makes of it.
-/
namespace Go.Proofs.YtdjcclcejmeheaaGreat
set_option linter.unusedVariables false
set_option linter.unusedSimpArgs false
open Go.RowKit Pl
theorem latStep_other {nm : List UInt8} {q : Kn × Bool} {k : Kn} (h : ¬ k.nm = nm) : latStep nm q k = q := by
  unfold latStep; rw [if_neg (fun x => h x.1)]
theorem latR_insK {e : En} {ep : Int} {out : List Kn} {nm : List UInt8} (h : ¬ e.nm = nm) : latR (insK e ep out) nm = latR out nm := by
  have e1 : out = out.takeWhile (lessK · e) ++ out.dropWhile (lessK · e) := (List.takeWhile_append_dropWhile).symm
  unfold latR insK
  rw [List.foldl_append, List.foldl_cons, latStep_other h, ← List.foldl_append, ← e1]
theorem latR_ep {l : List Kn} {ep : Int} (hep : 1 ≤ ep) (hl : ∀ k ∈ l, k.ep < ep) (nm : List UInt8) : (latR l nm).1.ep < ep := by
  rcases latR_mem l nm with q | q
  · rw [q]; show (0 : Int) < ep; omega
  · exact hl _ q
theorem rightE_ver {n : List UInt8} {v k : Int} (h : rightE n v k = true) : 1 ≤ v ∧ v ≤ 1073741824 := by
  unfold rightE at h
  simp only [Bool.and_eq_true, decide_eq_true_eq] at h
  exact ⟨h.2.2.1, h.2.2.2.1⟩
end Go.Proofs.YtdjcclcejmeheaaGreat
/-
  The directory's plain law: a right directory is sorted; a batch that is taken leaves it right; the seat's directory is right.
-/
namespace Go.Proofs.YtdjcclcejmeheaaGreat
set_option linter.unusedVariables false
set_option linter.unusedSimpArgs false
open Go.RowKit Pl
def chainK : Option Kn → List Kn → Prop
  | _, [] => True
  | p, k :: r => stepB p k = true ∧ chainK (some k) r
def lastO (p : Option Kn) (l : List Kn) : Option Kn := match l.getLast? with
  | some a => some a
  | none => p
theorem chain_app : ∀ (a b : List Kn) (p : Option Kn), chainK p (a ++ b) ↔ chainK p a ∧ chainK (lastO p a) b
  | [], b, p => by simp [chainK, lastO]
  | k :: r, b, p => by
    have e : lastO p (k :: r) = lastO (some k) r := by
      unfold lastO
      cases r with
      | nil => rfl
      | cons x t => rw [List.getLast?_cons_cons, List.getLast?_eq_some_getLast (by simp)]
    rw [List.cons_append, chainK, chainK, chain_app r b (some k), e, and_assoc]
theorem stepB_good {p : Option Kn} {k : Kn} (h : stepB p k = true) : rightE k.nm k.ver k.key = true ∧ 1 ≤ k.ep := by
  unfold stepB at h
  simp only [Bool.and_eq_true, decide_eq_true_eq] at h
  exact ⟨h.1, h.2.1⟩
theorem stepB_none {k : Kn} (h : stepB none k = true) : k.ver = 1 := by
  unfold stepB at h
  simp only [Bool.and_eq_true, decide_eq_true_eq] at h
  exact h.2.2
theorem stepB_some {q k : Kn} (h : stepB (some q) k = true) : (q.nm = k.nm ∧ k.ver = i64w (q.ver + 1) ∧ q.ep < k.ep) ∨ (¬ q.nm = k.nm ∧ Op.bytesLess k.nm q.nm = false ∧ k.ver = 1) := by
  unfold stepB at h
  simp only [Bool.and_eq_true] at h
  have h := h.2.2
  by_cases e : q.nm = k.nm
  · rw [if_pos e] at h; simp only [Bool.and_eq_true, decide_eq_true_eq] at h; exact .inl ⟨e, h.1, h.2⟩
  · rw [if_neg e] at h; simp only [Bool.and_eq_true, decide_eq_true_eq, Bool.not_eq_true'] at h; exact .inr ⟨e, h.1, h.2⟩
theorem step_lt {q k : Kn} (hq : 1 ≤ q.ver ∧ q.ver ≤ 1073741824) (h : stepB (some q) k = true) : ltK q k := by
  rcases stepB_some h with ⟨e, hv, _⟩ | ⟨e, hb, _⟩
  · rw [i64w_small (by omega) (by omega)] at hv
    exact .inr ⟨e, by omega⟩
  · rcases bl_tri q.nm k.nm with r | r | r
    · exact .inl r
    · exact absurd r e
    · rw [r] at hb; cases hb
theorem chain_good : ∀ {l : List Kn} {p : Option Kn}, chainK p l → ∀ k ∈ l, rightE k.nm k.ver k.key = true ∧ 1 ≤ k.ep
  | [], _, _, k, hk => by cases hk
  | x :: r, p, h, k, hk => by
    rcases List.mem_cons.1 hk with rfl | hk
    · exact stepB_good h.1
    · exact chain_good h.2 k hk
theorem chain_lt : ∀ {l : List Kn} {q : Kn}, 1 ≤ q.ver ∧ q.ver ≤ 1073741824 → chainK (some q) l → (∀ k ∈ l, ltK q k) ∧ SrtK l
  | [], q, _, _ => ⟨fun k hk => (by cases hk), List.Pairwise.nil⟩
  | x :: r, q, hq, h => by
    have hx := rightE_ver (stepB_good h.1).1
    obtain ⟨h1, h2⟩ := chain_lt hx h.2
    have hqx := step_lt hq h.1
    refine ⟨fun k hk => ?_, List.Pairwise.cons h1 h2⟩
    rcases List.mem_cons.1 hk with rfl | hk
    · exact hqx
    · exact ltN_trans hqx (h1 k hk)
theorem chain_srt {l : List Kn} (h : chainK none l) : SrtK l := by
  cases l with
  | nil => exact List.Pairwise.nil
  | cons x r =>
    obtain ⟨h1, h2⟩ := chain_lt (rightE_ver (stepB_good h.1).1) h.2
    exact List.Pairwise.cons h1 h2
theorem chain_ver {l : List Kn} (h : chainK none l) : ∀ k ∈ l, 1 ≤ k.ver ∧ k.ver < 1073741825 := fun k hk => by
  have := rightE_ver (chain_good h k hk).1
  omega
theorem lat_ver {l : List Kn} (h : chainK none l) (nm : List UInt8) : 0 ≤ (latR l nm).1.ver ∧ (latR l nm).1.ver ≤ 1073741824 := by
  rcases latR_mem l nm with q | q
  · rw [q]; exact ⟨by decide, by decide⟩
  · have := chain_ver h _ q; omega
theorem insK_chain {e : En} {ep : Int} {out : List Kn} (ho : chainK none out) (hR : rightE e.nm e.ver e.key = true) (hep : 1 ≤ ep) (hv : e.ver = i64w ((latR out e.nm).1.ver + 1)) (hq : (latR out e.nm).1.ep < ep) : chainK none (insK e ep out) := by
  have hs := chain_srt ho
  have hlv := lat_ver ho e.nm
  rw [i64w_small hlv.1 (by omega)] at hv
  have hlt : ∀ k ∈ out, k.nm = e.nm → k.ver < e.ver := fun k hk hn => by have := latR_le hk hn; omega
  have e1 : out = out.takeWhile (lessK · e) ++ out.dropWhile (lessK · e) := (List.takeWhile_append_dropWhile).symm
  have hB := drop_not (e := e) hs
  have hA : ∀ k ∈ out.takeWhile (lessK · e), ltN k.nm k.ver e.nm e.ver := fun k hk => while_lt hk
  unfold insK
  generalize out.takeWhile (lessK · e) = A at *
  generalize out.dropWhile (lessK · e) = D at *
  subst e1
  obtain ⟨c1, c2⟩ := (chain_app A D none).1 ho
  refine (chain_app A _ none).2 ⟨c1, ?_, ?_⟩
  · -- the step to the new one
    rcases List.eq_nil_or_concat A with rfl | ⟨A', a, rfl⟩
    · have hno : ∀ k ∈ [] ++ D, k.nm ≠ e.nm := fun k hk hn => hB k (by simpa using hk) (.inr ⟨hn, hlt k hk hn⟩)
      rw [latR_no hno] at hv
      exact stepB_first hR hep hv
    · have hl : lastO none (A' ++ [a]) = some a := by unfold lastO; simp
      rw [List.concat_eq_append] at *
      rw [hl]
      have ha : a ∈ (A' ++ [a]) ++ D := by simp
      have haA := hA a (by simp)
      by_cases hn : a.nm = e.nm
      · obtain ⟨q1, q2⟩ := latR_in ha hn
        have q3 := latR_le ha hn
        have hqa : (latR (A' ++ [a] ++ D) e.nm).1 = a := by
          generalize (latR (A' ++ [a] ++ D) e.nm).1 = q at *
          rcases List.mem_append.1 q1 with r | r
          · rcases List.mem_append.1 r with r | r
            · have hs' : SrtK (A' ++ [a]) := by unfold SrtK at hs; exact (List.pairwise_append.1 hs).1
              unfold SrtK at hs'
              have := (List.pairwise_append.1 hs').2.2 q r a (by simp)
              rcases this with t | ⟨_, t⟩
              · rw [q2, hn] at t
                have := bl_asym t; rw [t] at this; cases this
              · omega
            · exact List.mem_singleton.1 r
          · exact absurd (.inr ⟨q2, hlt q (List.mem_append_right _ r) q2⟩) (hB q r)
        rw [hqa] at hv hq
        have hva := chain_ver ho a ha
        exact stepB_next hR hep hn (by show e.ver = i64w (a.ver + 1); rw [i64w_small (by omega) (by omega)]; exact hv) hq
      · have hb : Op.bytesLess a.nm e.nm = true := by
          rcases haA with t | ⟨t, _⟩
          · exact t
          · exact absurd t hn
        have hno : ∀ k ∈ A' ++ [a] ++ D, k.nm ≠ e.nm := fun k hk hn2 => by
          rcases List.mem_append.1 hk with r | r
          · rcases List.mem_append.1 r with r | r
            · have hs' : SrtK (A' ++ [a]) := by unfold SrtK at hs; exact (List.pairwise_append.1 hs).1
              unfold SrtK at hs'
              have := (List.pairwise_append.1 hs').2.2 k r a (by simp)
              rcases this with t | ⟨t, _⟩
              · rw [hn2] at t
                have := bl_asym t; rw [hb] at this; cases this
              · exact hn (t ▸ hn2)
            · rw [List.mem_singleton] at r; subst r; exact hn hn2
          · exact hB k r (.inr ⟨hn2, hlt k hk hn2⟩)
        rw [latR_no hno] at hv
        exact stepB_new hR hep hn (bl_asym hb) hv
  · -- the step from the new one
    cases D with
    | nil => exact trivial
    | cons b D' =>
      obtain ⟨d1, d2⟩ := c2
      refine ⟨?_, d2⟩
      have hg := stepB_good d1
      have hbn := hB b (by simp)
      have hbm : b ∈ A ++ b :: D' := by simp
      have hne : ¬ e.nm = b.nm := fun q => hbn (.inr ⟨q.symm, hlt b hbm q.symm⟩)
      have heb : Op.bytesLess e.nm b.nm = true := by
        rcases bl_tri e.nm b.nm with r | r | r
        · exact r
        · exact absurd r hne
        · exact absurd (.inl r) hbn
      have hb1 : b.ver = 1 := by
        rcases List.eq_nil_or_concat A with rfl | ⟨A', a, rfl⟩
        · exact stepB_none d1
        · rw [List.concat_eq_append] at *
          have hl : lastO none (A' ++ [a]) = some a := by unfold lastO; simp
          rw [hl] at d1
          rcases stepB_some d1 with ⟨q, _⟩ | ⟨_, _, q⟩
          · exfalso
            have haA := hA a (by simp)
            rcases haA with t | ⟨t, _⟩
            · rw [q] at t
              have := bl_asym t; rw [heb] at this; cases this
            · exact hne (by rw [← t, q])
          · exact q
      exact stepB_new hg.1 hg.2 hne (bl_asym heb) hb1
theorem addGo_chain {l : List Kn} {ep : Int} (hep : 1 ≤ ep) (hl : ∀ k ∈ l, k.ep < ep) (hlc : chainK none l) : ∀ (r done : List En) (out : List Kn), chainK none out → (∀ nm, (¬ ∃ d ∈ done, d.nm = nm) → latR out nm = latR l nm) → chainK none (addGo l ep done r out).1
  | [], done, out, ho, _ => ho
  | e :: r, done, out, ho, h2 => by
    unfold addGo
    split
    · rename_i h
      obtain ⟨r1, r2, r3⟩ := h
      have hnd : ¬ ∃ d ∈ done, d.nm = e.nm := fun ⟨d, q1, q2⟩ => r3 d q1 q2
      have e2 := h2 _ hnd
      refine addGo_chain hep hl hlc r (done ++ [e]) _ (insK_chain ho r1 hep (by rw [e2]; exact r2) (by rw [e2]; exact latR_ep hep hl e.nm)) (fun nm hnm => ?_)
      have hne : ¬ e.nm = nm := fun q => hnm ⟨e, by simp, q⟩
      rw [latR_insK hne]
      exact h2 nm (fun ⟨d, q1, q2⟩ => hnm ⟨d, List.mem_append_left _ q1, q2⟩)
    · exact hlc
theorem addR_chain {l : List Kn} (hl : chainK none l) (ep : Int) (b : List En) : chainK none (addR l ep b).1 := by
  unfold addR
  split
  · exact hl
  · rename_i h
    have hep : 1 ≤ ep := by have : ¬ ep < 1 := fun q => h (.inl q); omega
    exact addGo_chain hep (fun k hk => by have : ¬ ep ≤ k.ep := fun q => h (.inr ⟨k, hk, q⟩); omega) hl b [] l hl (fun nm _ => rfl)
def epFit (l : List Kn) : Prop := ∀ k ∈ l, -9223372036854775808 ≤ k.ep ∧ k.ep < 9223372036854775808
theorem addGo_fit {l : List Kn} {ep : Int} (hep : -9223372036854775808 ≤ ep ∧ ep < 9223372036854775808) (hl : epFit l) : ∀ (r done : List En) (out : List Kn), epFit out → epFit (addGo l ep done r out).1
  | [], done, out, ho => ho
  | e :: r, done, out, ho => by
    unfold addGo
    split
    · exact addGo_fit hep hl r _ _ (fun k hk => by
        rcases mem_insK hk with q | q
        · rw [q]; exact hep
        · exact ho k q)
    · exact hl
theorem addR_fit {l : List Kn} {ep : Int} (hep : -9223372036854775808 ≤ ep ∧ ep < 9223372036854775808) (hl : epFit l) (b : List En) : epFit (addR l ep b).1 := by
  unfold addR
  split
  · exact hl
  · exact addGo_fit hep hl b [] l hl
theorem rightE_parts {n : List UInt8} {v k : Int} (h : rightE n v k = true) : (1 ≤ n.length ∧ n.length ≤ 32) ∧ (1 ≤ v ∧ v ≤ 1073741824) ∧ (1 ≤ k ∧ k < 2305843009213693951) := by
  unfold rightE at h
  simp only [Bool.and_eq_true, decide_eq_true_eq] at h
  exact ⟨⟨h.1, h.2.1⟩, ⟨h.2.2.1, h.2.2.2.1⟩, h.2.2.2.2⟩
end Go.Proofs.YtdjcclcejmeheaaGreat

