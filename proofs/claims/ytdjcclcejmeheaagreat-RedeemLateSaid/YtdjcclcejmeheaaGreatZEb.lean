import Derived.Test.YtdjcclcejmeheaaGreatZGs
import Derived.Test.YtdjcclcejmeheaaGreatZEv
import Derived.Test.YtdjcclcejmeheaaGreatZIi
/-
  Heads in logs, of the program.
-/
namespace Go.Proofs.YtdjcclcejmeheaaGreat
set_option linter.unusedVariables false
set_option linter.unusedSimpArgs false
open Go.RowKit Pl
set_option maxRecDepth 100000
set_option maxHeartbeats 3200000
theorem in_pf (y : Int) (hy : u64I y) (old new : List UInt8) (ho : old.length ≤ 1048576) (hn : new.length ≤ 1048576) (p : List H) (hp : p.length ≤ 1048576) : PF Tryz.prog 18 [.v (.int .u64 y), slT bdv 1 (old), slT bdv 1 (new), slT hdv 32 (p)] (.v (.int .i64 (inF y old new p))) := by
 obtain ⟨a, b, e, hV⟩ : ∃ a b e, headsF y old new = (a, b, e) := ⟨_, _, _, rfl⟩
 have c1 := two_pc y hy old new ho hn
 rw [hV] at c1
 dsimp only at c1
 have hz := headsF_right hV
 rw [show inF y old new p = inG a b e (lleaf old) p by unfold inF; rw [hV]]
 refine PF.enter (fn := Tryz.f18) Tryz.func18 rfl Tryz.ntmps18 rfl (fun w0 => .w ?_)
 refine .t 4 1 rfl rfl (.cc (c1) rfl) ?_
 refine .g 9 1 rfl ?_
 refine TE.obj 1 (.box 45 a.dv) rfl rfl ?_
 refine TE.obj 2 (.box 45 b.dv) rfl rfl ?_
 refine .q 3 3 rfl rfl (fun h1 => ?_) (fun h1 => ?_)
 ·skip
  have he : ¬ e = 0 := by simpa using h1
  rw [inG_err he]
  exact .z 2 3 rfl (TE.retf rfl rfl rfl (okv rfl))
 ·skip
  have he : e = 0 := by simpa using h1
  have hr := hz he
  have ha := rightH_ep hr.1
  have hb := rightH_ep hr.2
  refine .q 6 3 rfl rfl (fun h2 => ?_) (fun h2 => ?_)
  ·skip
   have hk : b.ep ≤ a.ep := of_decide_eq_true h2
   rw [inG_form he hk]
   exact .z 1 3 rfl (TE.retf rfl rfl rfl (okv rfl))
  ·skip
   have hk : ¬ b.ep ≤ a.ep := of_decide_eq_false h2
   obtain ⟨n, qn⟩ : ∃ z : Nat, b.ep - 1 = (z : Int) := ⟨(b.ep - 1).toNat, by omega⟩
   have tn : (b.ep - 1).toNat = n := by omega
   obtain ⟨i, qi⟩ : ∃ z : Nat, a.ep - 1 = (z : Int) := ⟨(a.ep - 1).toNat, by omega⟩
   have ti : (a.ep - 1).toNat = i := by omega
   have hin : i < n := by omega
   have hnb : n ≤ 1073741825 := by omega
   obtain ⟨kL, hkL⟩ : ∃ k, inLog b.log n i (lleaf old) p = k := ⟨_, rfl⟩
   have eL : inLog b.log (b.ep - 1).toNat (a.ep - 1).toNat (lleaf old) p = kL := by rw [tn, ti]; exact hkL
   have cL : PF Tryz.prog 55 [.ag (hdv (b.log)), .v (.int .i64 ((n : Nat) : Int)), .v (.int .i64 ((i : Nat) : Int)), .ag (hdv (lleaf old)), slT hdv 32 (p)] (.v (.bool kL)) := hkL ▸ lchk_pf b.log n i (lleaf old) p hnb hin hp
   refine .d 0 3 rfl ?_
   refine .v 1 3 [2] rfl rfl (fun _ _ => .lp (hdv b.log) rfl) ?_
   refine .v 2 3 [] rfl rfl (fun _ _ => .bv (.int .i64 ((n : Nat) : Int)) rfl (congrArg _ (by rw [IntKind.wrap_i64]; omega))) ?_
   refine .v 2 3 [] rfl rfl (fun _ _ => .bv (.int .i64 ((i : Nat) : Int)) rfl (congrArg _ (by rw [IntKind.wrap_i64]; omega))) ?_
   refine .v 1 3 [] rfl rfl (fun _ _ => .cf (lleaf_pf old ho) rfl) ?_
   refine .v 1 3 [] rfl rfl (fun _ _ => .cf (cL) rfl) ?_
   refine .y 2 3 rfl (by kernel_rfl) ?_
   refine .q 0 3 rfl rfl (fun h3 => ?_) (fun h3 => ?_)
   ·skip
    have hK : kL = false := by simpa using h3
    rw [inG_no he hk (eL.trans hK)]
    exact .z 1 3 rfl (TE.retf rfl rfl rfl (okv rfl))
   ·skip
    have hK : kL = true := by simpa using h3
    rw [inG_ok he hk (eL.trans hK)]
    exact .z 1 3 rfl (TE.retf rfl rfl rfl (okv rfl))
theorem grown_pf (y : Int) (hy : u64I y) (old new : List UInt8) (ho : old.length ≤ 1048576) (hn : new.length ≤ 1048576) (p : List H) (hp : p.length ≤ 1048576) (hG : (headsF y old new).2.2 = 0 → ¬ (headsF y old new).1.ep < 2 → ∀ (o w : H) (m n : Nat), 1 ≤ m → m ≤ n → n ≤ 1073741825 → PF Tryz.prog 54 [.ag (hdv (o)), .ag (hdv (w)), .v (.int .i64 ((m : Nat) : Int)), .v (.int .i64 ((n : Nat) : Int)), slT hdv 32 (p)] (.v (.bool (growL o w m n p)))) : PF Tryz.prog 17 [.v (.int .u64 y), slT bdv 1 (old), slT bdv 1 (new), slT hdv 32 (p)] (.v (.int .i64 (growF y old new p))) := by
 obtain ⟨a, b, e, hV⟩ : ∃ a b e, headsF y old new = (a, b, e) := ⟨_, _, _, rfl⟩
 have c1 := two_pc y hy old new ho hn
 rw [hV] at c1
 dsimp only at c1
 have hz := headsF_right hV
 rw [hV] at hG
 dsimp only at hG
 rw [show growF y old new p = growG a b e p by unfold growF; rw [hV]]
 refine PF.enter (fn := Tryz.f17) Tryz.func17 rfl Tryz.ntmps17 rfl (fun w0 => .w ?_)
 refine .t 4 1 rfl rfl (.cc (c1) rfl) ?_
 refine .g 9 1 rfl ?_
 refine TE.obj 1 (.box 45 a.dv) rfl rfl ?_
 refine TE.obj 2 (.box 45 b.dv) rfl rfl ?_
 refine .q 3 3 rfl rfl (fun h1 => ?_) (fun h1 => ?_)
 ·skip
  have he : ¬ e = 0 := by simpa using h1
  rw [growG_err he]
  exact .z 2 3 rfl (TE.retf rfl rfl rfl (okv rfl))
 ·skip
  have he : e = 0 := by simpa using h1
  have hr := hz he
  have ha := rightH_ep hr.1
  have hb := rightH_ep hr.2
  by_cases g1 : a.ep < 2
  ·skip
   have hbad : a.ep < 2 ∨ b.ep < a.ep := .inl g1
   refine .t 2 3 rfl rfl (.bv (.bool true) rfl (congrArg Value.bool (decide_eq_true g1))) ?_
   rw [growG_form he hbad]
   exact .z 10 3 rfl (TE.retf rfl rfl rfl (okv rfl))
  ·skip
   by_cases g2 : b.ep < a.ep
   ·skip
    have hbad : a.ep < 2 ∨ b.ep < a.ep := .inr g2
    refine .t 2 3 rfl rfl (.bv (.bool false) rfl (congrArg Value.bool (decide_eq_false g1))) ?_
    refine .t 5 3 rfl rfl (.bv (.bool true) rfl (congrArg Value.bool (decide_eq_true g2))) ?_
    rw [growG_form he hbad]
    exact .z 4 3 rfl (TE.retf rfl rfl rfl (okv rfl))
   ·skip
    have hbad : ¬ (a.ep < 2 ∨ b.ep < a.ep) := fun z => z.elim g1 g2
    obtain ⟨m, qm⟩ : ∃ z : Nat, a.ep - 1 = (z : Int) := ⟨(a.ep - 1).toNat, by omega⟩
    have tm : (a.ep - 1).toNat = m := by omega
    obtain ⟨n, qn⟩ : ∃ z : Nat, b.ep - 1 = (z : Int) := ⟨(b.ep - 1).toNat, by omega⟩
    have tn : (b.ep - 1).toNat = n := by omega
    obtain ⟨kL, hkL⟩ : ∃ k, growL a.log b.log m n p = k := ⟨_, rfl⟩
    have eL : growL a.log b.log (a.ep - 1).toNat (b.ep - 1).toNat p = kL := by rw [tm, tn]; exact hkL
    have cG : PF Tryz.prog 54 [.ag (hdv (a.log)), .ag (hdv (b.log)), .v (.int .i64 ((m : Nat) : Int)), .v (.int .i64 ((n : Nat) : Int)), slT hdv 32 (p)] (.v (.bool kL)) := hkL ▸ hG he g1 a.log b.log m n (by omega) (by omega) (by omega)
    refine .t 2 3 rfl rfl (.bv (.bool false) rfl (congrArg Value.bool (decide_eq_false g1))) ?_
    refine .t 5 3 rfl rfl (.bv (.bool false) rfl (congrArg Value.bool (decide_eq_false g2))) ?_
    refine .t 4 3 rfl rfl (.lp (hdv a.log) rfl) ?_
    refine .t 1 3 rfl rfl (.lp (hdv b.log) rfl) ?_
    refine .t 2 3 rfl rfl (.bv (.int .i64 ((m : Nat) : Int)) rfl (congrArg _ (by rw [IntKind.wrap_i64]; omega))) ?_
    refine .t 2 3 rfl rfl (.bv (.int .i64 ((n : Nat) : Int)) rfl (congrArg _ (by rw [IntKind.wrap_i64]; omega))) ?_
    refine .t 1 3 rfl rfl (.cf (cG) rfl) ?_
    refine .q 2 3 rfl rfl (fun h7 => ?_) (fun h7 => ?_)
    ·skip
     have hK : kL = false := by simpa using h7
     rw [growG_no he hbad (eL.trans hK)]
     exact .z 1 3 rfl (TE.retf rfl rfl rfl (okv rfl))
    ·skip
     have hK : kL = true := by simpa using h7
     rw [growG_ok he hbad (eL.trans hK)]
     exact .z 1 3 rfl (TE.retf rfl rfl rfl (okv rfl))
theorem rpath_one (l : List H) (h1 : l.length = 1) : PC Tryz.prog 16 [slT hdv 32 (l), .v (.int .i64 0)] (.tp [slT hdv 32 ([]), .v (.bool true)]) := by
 refine PC.enter (fn := Tryz.f16) Tryz.func16 rfl Tryz.ntmps16 rfl (fun w0 K0 => .w ?_)
 refine .t 3 1 rfl rfl (.bv (.bool false) rfl (congrArg Value.bool (decide_eq_false (by omega)))) ?_
 refine .t 4 1 rfl rfl (.bv (.bool false) rfl (congrArg Value.bool (decide_eq_false (by omega)))) ?_
 refine .t 4 1 rfl rfl (.bv (.bool true) rfl (congrArg Value.bool (decide_eq_true (by omega)))) ?_
 refine .g 3 1 rfl ?_
 refine TE.sub 4 (slT hdv 32 ([])) rfl rfl (nil_sub _ _) ?_
 exact .z 0 1 rfl (TE.rettc rfl rfl rfl)
end Go.Proofs.YtdjcclcejmeheaaGreat
/-
  The seat's directory.
-/
namespace Go.Proofs.YtdjcclcejmeheaaGreat
set_option linter.unusedVariables false
set_option linter.unusedSimpArgs false
open Go.RowKit Pl
set_option maxRecDepth 100000
set_option maxHeartbeats 3200000
end Go.Proofs.YtdjcclcejmeheaaGreat
/-
  Knowledge compared, items compared.
-/
namespace Go.Proofs.YtdjcclcejmeheaaGreat
set_option linter.unusedVariables false
set_option linter.unusedSimpArgs false
open Go.RowKit Pl
set_option maxRecDepth 100000
set_option maxHeartbeats 3200000
section
variable {P : Program} {C : Cx} {L : Lo} {Γ : Ga} {d : Nat} {ty : TypeId} {pos : String} {af : Array Edge} {gd : Option (Nat × Bool)}
def Kn.us (k : Kn) : List Value := [strV k.nm, .int .i64 k.ver, .int .u64 k.key, .int .i64 k.ep]
def En.us (e : En) : List Value := [strV e.nm, .int .i64 e.ver, .int .u64 e.key]
def enFit (k : En) : Prop := k.nm.length ≤ 1048576 ∧ (-9223372036854775808 ≤ k.ver ∧ k.ver < 9223372036854775808) ∧ (0 ≤ k.key ∧ k.key < 18446744073709551616)
end
end Go.Proofs.YtdjcclcejmeheaaGreat
/-
  The program's Right.
-/
namespace Go.Proofs.YtdjcclcejmeheaaGreat
set_option linter.unusedVariables false
set_option linter.unusedSimpArgs false
open Go.RowKit Pl
set_option maxRecDepth 100000
set_option maxHeartbeats 3200000
/-- One step of a right directory. -/
def stepB (p : Option Kn) (k : Kn) : Bool := rightE k.nm k.ver k.key && (decide (1 ≤ k.ep) && (match p with
  | none => decide (k.ver = 1)
  | some q => if q.nm = k.nm then decide (k.ver = i64w (q.ver + 1)) && decide (q.ep < k.ep) else !(Op.bytesLess k.nm q.nm) && decide (k.ver = 1)))
theorem stepB_first {k : Kn} (hR : rightE k.nm k.ver k.key = true) (hep : 1 ≤ k.ep) (hv : k.ver = 1) : stepB none k = true := by
  unfold stepB; rw [hR, decide_eq_true hep, decide_eq_true hv]; rfl
theorem stepB_new {q k : Kn} (hR : rightE k.nm k.ver k.key = true) (hep : 1 ≤ k.ep) (hn : ¬ q.nm = k.nm) (hb : Op.bytesLess k.nm q.nm = false) (hv : k.ver = 1) : stepB (some q) k = true := by
  unfold stepB; simp only [if_neg hn]; rw [hR, decide_eq_true hep, hb, decide_eq_true hv]; rfl
theorem stepB_next {q k : Kn} (hR : rightE k.nm k.ver k.key = true) (hep : 1 ≤ k.ep) (hn : q.nm = k.nm) (hv : k.ver = i64w (q.ver + 1)) (he : q.ep < k.ep) : stepB (some q) k = true := by
  unfold stepB; simp only [if_pos hn]; rw [hR, decide_eq_true hep, decide_eq_true hv, decide_eq_true he]; rfl
end Go.Proofs.YtdjcclcejmeheaaGreat
/-
  The reference's Right.
-/
namespace Go.Proofs.YtdjcclcejmeheaaGreat
set_option linter.unusedVariables false
set_option linter.unusedSimpArgs false
open Go.RowKit Pl
set_option maxRecDepth 100000
set_option maxHeartbeats 3200000
end Go.Proofs.YtdjcclcejmeheaaGreat
/-
  The directory's plain law: what the program's Add makes of a sorted directory is what the reference's makes of it.
-/
namespace Go.Proofs.YtdjcclcejmeheaaGreat
set_option linter.unusedVariables false
set_option linter.unusedSimpArgs false
open Go.RowKit Pl
theorem latStep_other {nm : List UInt8} {q : Kn × Bool} {k : Kn} (h : ¬ k.nm = nm) : latStep nm q k = q := by
  unfold latStep; rw [if_neg (fun x => h x.1)]
theorem latR_insK {e : En} {ep : Int} {out : List Kn} {nm : List UInt8} (h : ¬ e.nm = nm) : latR (insK e ep out) nm = latR out nm := by
  have e1 : out = out.takeWhile (lessK · e) ++ out.dropWhile (lessK · e) := (List.takeWhile_append_dropWhile).symm
  unfold latR insK
  rw [List.foldl_append, List.foldl_cons, latStep_other h, ← List.foldl_append, ← e1]
theorem latR_ep {l : List Kn} {ep : Int} (hep : 1 ≤ ep) (hl : ∀ k ∈ l, k.ep < ep) (nm : List UInt8) : (latR l nm).1.ep < ep := by
  rcases latR_mem l nm with q | q
  · rw [q]; show (0 : Int) < ep; omega
  · exact hl _ q
theorem rightE_ver {n : List UInt8} {v k : Int} (h : rightE n v k = true) : 1 ≤ v ∧ v ≤ 1073741824 := by
  unfold rightE at h
  simp only [Bool.and_eq_true, decide_eq_true_eq] at h
  exact ⟨h.2.2.1, h.2.2.2.1⟩
end Go.Proofs.YtdjcclcejmeheaaGreat

