import Derived.Test.YtdjcclcejmeheaaGreatZQ2
import Derived.Test.YtdjcclcejmeheaaGreatZQ3
import Derived.Test.YtdjcclcejmeheaaGreatZBk
/-
  What comes in, by its type; what a law hands back.
-/
namespace Go.Proofs.YtdjcclcejmeheaaGreat
set_option linter.unusedVariables false
set_option linter.unusedSimpArgs false
set_option maxRecDepth 20000
open Go.RowKit Pl
theorem shpN_map {α : Type} {enc : α → List DV} {p : α → Prop} {g : List DV → Prop} (hg : ∀ cs, g cs → ∃ x, p x ∧ cs = enc x) : ∀ (n : Nat) (cs : List DV), ShpN g n cs → ∃ xs : List α, xs.length = n ∧ (∀ x ∈ xs, p x) ∧ cs = xs.flatMap enc
  | 0, cs, h => ⟨[], rfl, by simp, h⟩
  | n + 1, cs, ⟨a, b, e, h1, h2⟩ => by
    obtain ⟨x, hx, rfl⟩ := hg a h1
    obtain ⟨xs, k1, k2, rfl⟩ := shpN_map hg n b h2
    exact ⟨x :: xs, by simp [k1], by simp [hx]; exact k2, e⟩
theorem shp_sl {P : Program} {d t e sz : Nat} {X : DV} (hu : P.underlying t = some (.slice e)) (hc : P.cellsOf e = sz) {α : Type} {enc : α → List DV} {p : α → Prop} (hg : ∀ cs, Shp P d e cs → ∃ x, p x ∧ cs = enc x) (h : ShV P (d + 1) t X) : ∃ xs : List α, X = slT enc sz xs ∧ ∀ x ∈ xs, p x := by
  unfold ShV at h
  rw [hu] at h
  unfold Shp at h
  simp only [hu] at h
  obtain ⟨n, ds, h1, h2⟩ := h
  obtain ⟨xs, k1, k2, rfl⟩ := shpN_map hg n ds h2
  simp only [List.cons.injEq, and_true] at h1
  exact ⟨xs, by rw [h1, hc, ← k1], k2⟩
theorem shp_int {P : Program} {d t : Nat} {k : IntKind} {cs : List DV} (hu : P.underlying t = some (.int k)) (h : Shp P (d + 1) t cs) : ∃ n, cs = [.v (.int k n)] ∧ (Lit.int k n).wf = true := by
  unfold Shp at h; simpa only [hu] using h
theorem u8_nat {n : Int} (h : (Lit.int .u8 n).wf = true) : ∃ b : UInt8, n = (b.toNat : Nat) := by
  simp [Lit.wf, IntKind.min, IntKind.max, IntKind.signed, IntKind.bits] at h
  exact ⟨UInt8.ofNat n.toNat, by rw [UInt8.toNat_ofNat']; omega⟩
theorem shp_u8 {d : Nat} (cs : List DV) (h : Shp Tryz.prog (d + 1) 5 cs) : ∃ b : UInt8, True ∧ cs = bdv b := by
  obtain ⟨n, rfl, hw⟩ := shp_int Tryz.underlying5 h
  obtain ⟨b, rfl⟩ := u8_nat hw
  exact ⟨b, trivial, rfl⟩
theorem o_bytes {X : DV} (h : ShV Tryz.prog 6 22 X) : ∃ l : List UInt8, X = slT bdv 1 l ∧ True := by
  obtain ⟨l, h1, _⟩ := shp_sl (p := fun _ => True) Tryz.underlying22 (by kernel_rfl) shp_u8 h
  exact ⟨l, h1, trivial⟩
theorem repl_nil {K : Nat → Prop} {w : World} : repL K w [] [] := by simp [repL]
theorem repl_cons {K : Nat → Prop} {w : World} {X : DV} {Xs : List DV} {u : Value} {us : List Value} (h : X.rep K w u) (k : repL K w Xs us) : repL K w (X :: Xs) (u :: us) := by unfold repL; exact ⟨u, us, rfl, h, k⟩
theorem pf_bool {P : Program} {f : FuncId} {Xs : List DV} {us : List Value} {W : World} (h : PF P f Xs (.v (.bool true))) (hr : repL noK W Xs us) : Calls P f us.toArray W fun e W' => e = .returned (.bool true) ∧ Below W.heap.size W W' :=
  (h W us hr).mono fun e W' ⟨u, h1, h2, h3⟩ => by
    have := h3 noK (fun b hb => hb.elim)
    unfold DV.rep at this
    subst this
    exact ⟨h1, h2⟩
end Go.Proofs.YtdjcclcejmeheaaGreat
/-
  slices.Backward of hashes: the iterator calls its round for each hash, the last one first.
-/
namespace Go.Proofs.YtdjcclcejmeheaaGreat
set_option linter.unusedVariables false
set_option linter.unusedSimpArgs false
set_option maxRecDepth 20000
open Go.RowKit Pl
theorem bk_tk1 : tyk Tryz.prog 52 = some none := by kernel_rfl
theorem bk_tk2 : tyk Tryz.prog 41 = some (some 32) := by kernel_rfl
theorem bk_is : isSl Tryz.prog 52 = some true := by kernel_rfl
theorem bk_et : elt Tryz.prog 52 = some (41, 32) := by kernel_rfl
theorem back_get {α : Type} {l : List α} {n : Nat} (h : n < l.length) : l[((n : Nat) : Int).toNat]? = some l[n] := by rw [Int.toNat_natCast]; exact List.getElem?_eq_getElem h
theorem results_none' {P : Program} {fn : Func} (h : fn.results = #[]) (tmps : Array Value) (w : World) : ∃ v, (results fn tmps).run P w = .ok v w := ⟨_, by have := results_run (P := P) (a := { tmps := tmps, defers := [] }) (w := w) (fn := fn) (rs := []) h [] (by simp); exact this⟩
def bkI (path : List H) (yf v1 : Value) (J : Nat → World → Prop) (m : Nat) (a : Act) (w : World) : Prop := ∃ k, k ≤ path.length ∧ m = path.length - k ∧ a.defers = [] ∧ a.tmps.size = 19 ∧ a.tmps.getD 0 undef = yf ∧ a.tmps.getD 1 undef = v1 ∧ a.tmps.getD 3 undef = .int .i64 ((path.length : Int) - 1 - k) ∧ J k w
set_option maxHeartbeats 1600000 in
theorem back_gives (n l : Nat) (path : List H) (hp : path.length ≤ 1048576) (v1 : Value) (J : Nat → World → Prop) (hext : ∀ k W W', J k W → Below W.heap.size W W' → J k W') (hread : ∀ k W, J k W → (DV.el [slT hdv 32 path]).rep noK W v1)
    (hround : ∀ k, k < path.length → ∀ (hj : path.length - 1 - k < path.length) (W1 : World), J k W1 → YieldAt Fence.wide n Tryz.prog l #[.int .i64 ((path.length - 1 - k : Nat) : Int), hashV (H.l path[path.length - 1 - k])] W1 fun e W' => e = .returned (.bool true) ∧ J (k + 1) W')
    (W : World) (h0 : J 0 W) : CallsIn Fence.wide (n + 1) Tryz.prog 149 #[.func (.yield l) #[] #[], v1] W fun e W' => (∃ v, e = .returned v) ∧ J path.length W' := by
  obtain ⟨yf, hyf⟩ : ∃ yf, yf = Value.func (.yield l) #[] #[] := ⟨_, rfl⟩
  rw [← hyf]
  obtain ⟨vv, hvv⟩ : ∃ vv : Nat → Value, vv = fun t => if t = 0 then yf else v1 := ⟨_, rfl⟩
  have hv0 : vv 0 = yf := by rw [hvv]; rfl
  have hv1 : vv 1 = v1 := by rw [hvv]; rfl
  have open' : OpenF (Fm.mk Fence.wide (n + 1) [0, 1] vv []).F := open_wide
  have hkeep : ∀ (ρ : Rho) (w : World), Keeps noK (KK noK ρ (fun _ => none)) w w := fun ρ w b hb hn => ⟨rfl, hb, fun x => x.elim id fun ⟨g, ⟨o, h, _⟩, _⟩ => by cases h⟩
  have enter : repL noK W [.v yf, .el [slT hdv 32 path]] [yf, v1] := repl_cons (by unfold DV.rep; rfl) (repl_cons (hread 0 W h0) repl_nil)
  refine callsF_enter (us := [yf, v1]) (v := vv) (T := [0, 1]) Tryz.func149 rfl Tryz.ntmps149 rfl enter (fun t ht => ?_) ?_
  · rcases List.mem_cons.1 ht with rfl | ht
    · exact congrArg some hv0.symm
    · rw [List.mem_singleton] at ht; subst ht; exact congrArg some hv1.symm
  refine .seq ?_
  refine .region open' rfl ?_
  refine .step rfl (.lde rfl rfl rfl rfl bk_tk1) ?_
  refine .step rfl (.len rfl rfl ⟨_, _, rfl⟩ bk_is) ?_
  refine .step rfl (.binv (.int .i64 ((path.length : Int) - 1)) rfl rfl rfl rfl (congrArg _ (by rw [IntKind.wrap_i64]; omega))) ?_
  refine .step rfl (.assign rfl rfl) ?_
  refine .nil ?_
  refine .nextF ?_
  refine .block ?_
  refine .loopW rfl rfl (bkI path yf v1 J) path.length (fun a w hr hf => ?_) (fun m a w hI => ?_)
  · obtain ⟨ρ, h⟩ := hr
    refine ⟨0, Nat.zero_le _, rfl, h.df, h.sz, (hf 0 (by simp)).trans hv0, (hf 1 (by simp)).trans hv1, ?_, hext 0 W w h0 (h.fr.below (fun b => noMB b))⟩
    have : a.eval (.tmp 3) = .int .i64 ((path.length : Int) - 1) := evv_eval h rfl
    exact this.trans (by simp)
  · obtain ⟨k, hk, rfl, hd, hs, e0, e1, e3, hJ⟩ := hI
    have hr : Reps ⟨w, noK, 19, noM⟩ (upd (plL [(0, yf), (1, v1), (3, .int .i64 ((path.length : Int) - 1 - k))]) 1 (.d (.el [slT hdv 32 path]))) (fun _ => none) a w := by
      obtain ⟨ρ, h⟩ := reps_plain (l := [(0, yf), (1, v1), (3, .int .i64 ((path.length : Int) - 1 - k))]) hd hs (fun x hx => by
        simp only [List.mem_cons, List.not_mem_nil, or_false] at hx
        rcases hx with rfl | rfl | rfl
        · exact e0
        · exact e1
        · exact e3) w
      exact ⟨ρ, h.tell 1 _ (by rw [e1]; exact DV.rep_mono (hkeep ρ w) _ _ (hread k w hJ)) (fun g hg => by simp [AV.id] at hg)⟩
    refine tcf_at (v := vv) (T := [0, 1]) hd hr (fun t ht => ?_) ?_
    · rcases List.mem_cons.1 ht with rfl | ht
      · exact e0.trans hv0.symm
      · rw [List.mem_singleton] at ht; subst ht; exact e1.trans hv1.symm
    refine .seq ?_
    refine .seq ?_
    refine .region open' rfl ?_
    refine .step rfl (.move rfl rfl) ?_
    refine .step rfl (.bin rfl rfl rfl rfl) ?_
    refine .nil ?_
    refine .nextF ?_
    refine .cond open' rfl (fun h => ?_) (fun h => ?_)
    · refine .skip open' ?_
      refine .nextF ?_
      have hge : 0 ≤ (path.length : Int) - 1 - k := by have q := of_decide_eq_true h; (try dsimp only at q); omega
      have hlt : k < path.length := by omega
      have hj : path.length - 1 - k < path.length := by omega
      have hi : (path.length : Int) - 1 - k = ((path.length - 1 - k : Nat) : Int) := by omega
      refine .seq ?_
      refine .block ?_
      refine .seq ?_
      refine .regionI open' ?_
      refine .step open' rfl rfl (.move rfl rfl) ?_
      refine .step open' rfl rfl (.move rfl rfl) ?_
      refine .step open' rfl rfl (.lde rfl rfl rfl rfl bk_tk1) ?_
      refine .step open' rfl rfl (.move rfl rfl) ?_
      refine .step open' rfl rfl (.idx (path[path.length - 1 - k]) rfl rfl rfl rfl bk_et (fun _ => rfl) hge (by rw [hi]; exact back_get hj)) ?_
      refine .step open' rfl rfl (.ldem rfl rfl rfl rfl rfl bk_tk2) ?_
      refine TLi.yield (h := path[path.length - 1 - k]) (i := ((path.length - 1 - k : Nat) : Int)) (J := J (k + 1)) [(0, yf), (1, v1), (3, .int .i64 ((path.length : Int) - 1 - k))] rfl rfl rfl rfl (by rw [← hyf]; rfl) (by rw [← hi]; rfl) rfl ?_ (fun w' hb => hround k hlt hj w' (hext k w w' hJ hb)) (fun W' hJ' => ?_)
      · intro p hp
        simp only [List.mem_cons, List.not_mem_nil, or_false] at hp
        rcases hp with rfl | rfl | rfl
        · exact ⟨.inr ⟨by simp, hv0⟩, by show (0 : Nat) ≠ 17; decide⟩
        · exact ⟨.inr ⟨by simp, hv1⟩, by show (1 : Nat) ≠ 17; decide⟩
        · exact ⟨.inl rfl, by show (3 : Nat) ≠ 17; decide⟩
      refine .step open' rfl rfl (.un rfl rfl rfl) ?_
      refine .nil ?_
      refine .nextF ?_
      refine .cond open' rfl (fun h => absurd h (by decide)) (fun h => ?_)
      refine .skip open' ?_
      refine TE.blkF ?_
      refine .nextF ?_
      refine .region open' rfl ?_
      refine .step rfl (.move rfl rfl) ?_
      refine .step rfl (.binv (.int .i64 ((path.length : Int) - 1 - (k + 1 : Nat))) rfl rfl rfl rfl (congrArg _ (by rw [IntKind.wrap_i64]; omega))) ?_
      refine .step rfl (.assign rfl rfl) ?_
      refine .nil ?_
      intro a2 w2 hr2
      refine ⟨reps_def hr2, fun hf2 => ?_⟩
      obtain ⟨ρ, h2⟩ := hr2
      refine ⟨path.length - (k + 1), by omega, k + 1, by omega, rfl, rfl, h2.sz, (hf2 0 (by simp)).trans hv0, (hf2 1 (by simp)).trans hv1, ?_, hext _ W' w2 hJ' (h2.fr.below (fun b => noMB b))⟩
      have : a2.eval (.tmp 3) = .int .i64 ((path.length : Int) - 1 - (k + 1 : Nat)) := evv_eval h2 rfl
      exact this
    · refine .exit open' ?_
      intro a2 w2 hr2 hf2
      have hge : ¬ 0 ≤ (path.length : Int) - 1 - k := by have q := of_decide_eq_false h; (try dsimp only at q); omega
      have hkl : k = path.length := by omega
      obtain ⟨ρ, h2⟩ := hr2
      obtain ⟨v, hv⟩ := results_none' (P := Tryz.prog) (fn := Tryz.f149) rfl a2.tmps w2
      simp only [Exit.then, Exit.inBlock, if_true]
      exact ⟨rfl, v, hv, ⟨_, rfl⟩, by rw [← hkl]; exact hext k w w2 hJ (h2.fr.below (fun b => noMB b))⟩
end Go.Proofs.YtdjcclcejmeheaaGreat

