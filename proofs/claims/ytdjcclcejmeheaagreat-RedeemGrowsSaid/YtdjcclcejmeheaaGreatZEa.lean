import Derived.Test.YtdjcclcejmeheaaGreatZVm
import Derived.Test.YtdjcclcejmeheaaGreatZQ3
import Derived.Test.YtdjcclcejmeheaaGreatZEv
import Derived.Test.YtdjcclcejmeheaaGreatZQ4
/-
  The reference's sides and root. Entries' hashes: both sides.
-/
namespace Go.Proofs.YtdjcclcejmeheaaGreat
set_option linter.unusedVariables false
set_option linter.unusedSimpArgs false
open Go.RowKit Pl
set_option maxRecDepth 100000
set_option maxHeartbeats 3200000
theorem sides_pc (l : List It) (k : Nat) (hk : k < 256) (hl : l.length ≤ 1048576) : PC Tryz.prog 97 [slT It.dv 64 (l), .v (.int .i64 ((k : Nat) : Int))] (.tp [slT It.dv 64 (l.filter (bit0 k)), slT It.dv 64 (l.filter (fun x => !bit0 k x))]) := by
 refine PC.enter (fn := Tryz.f97) Tryz.func97 rfl Tryz.ntmps97 rfl (fun w0 K0 => .w ?_)
 refine .g 4 1 rfl ?_
 refine TE.own0 6 1 79 64 rfl rfl ?_
 refine TE.own0 7 2 79 64 rfl rfl ?_
 refine .g 1 3 rfl ?_
 refine TE.setv 8 (.int .i64 ((0 : Nat) : Int)) rfl (congrArg _ (by first | rfl | (dsimp only; first | done | rfl | omega))) ?_
 refine .lo (T := Nat) 0 3 rfl (fun i => i ≤ l.length) (fun i => l.length - i) [0, 1] [] (fun i => [(6, .ow 1 ((l.take i).filter (bit0 k)).length 64), (7, .ow 2 ((l.take i).filter (fun x => !bit0 k x)).length 64), (8, .d (.v (.int .i64 ((i : Nat) : Int))))]) (fun i => [(1, .row 79 64 (((l.take i).filter (bit0 k)).flatMap It.dv)), (2, .row 79 64 (((l.take i).filter (fun x => !bit0 k x)).flatMap It.dv))]) (0) rfl rfl (Nat.zero_le _) rfl rfl rfl (fun i hI => ?_)
 refine .q 4 3 rfl rfl (fun h1 => ?_) (fun h1 => ?_)
 ·skip
  have hi : i < l.length := by have q := of_decide_eq_true h1; (try dsimp only at q); omega
  have q1 := filter_take_le (bit0 k) l i
  have q2 := filter_take_le (fun x => !bit0 k x) l i
  refine .t 2 3 rfl rfl (.idx (l[i]) rfl rfl rfl rfl et100 it_len (Int.natCast_nonneg _) (get_nat (hi))) ?_
  refine .t 1 3 rfl rfl (.lm (hdv l[i].ix) rfl) ?_
  refine .t 1 3 rfl rfl (.cf (rbit_pf l[i].ix ((k : Nat) : Int)) rfl) ?_
  refine .t 0 3 rfl rfl (.bv (.bool (bit0 k l[i])) rfl (congrArg Value.bool (bit0_dec hk _))) ?_
  refine .q 0 3 rfl rfl (fun h2 => ?_) (fun h2 => ?_)
  ·skip
   have hb : bit0 k l[i] = true := h2
   have f1 := filter_snoc (bit0 k) hi
   rw [if_pos hb] at f1
   have f2 := filter_snoc (fun x => !bit0 k x) hi
   rw [if_neg (by rw [hb]; simp)] at f2
   refine .t 3 3 rfl rfl (.idx (l[i]) rfl rfl rfl rfl et100 it_len (Int.natCast_nonneg _) (get_nat (hi))) ?_
   refine .t 0 3 rfl rfl (.lm (l[i].dv) rfl) ?_
   refine .t 0 3 rfl rfl (.bb (l[i].dv) 3 rfl) ?_
   refine .t 0 4 rfl rfl (.ap 4 rfl (it_flat _) (it_one _) (by omega) (by omega)) ?_
   refine .t 2 5 rfl rfl (.bv (.int .i64 ((i + 1 : Nat) : Int)) rfl (congrArg _ (by (try dsimp only); rw [IntKind.wrap_i64]; omega))) ?_
   refine .g 1 5 rfl ?_
   refine TE.set 6 (.ow 4 ((l.take (i + 1)).filter (bit0 k)).length 64) rfl (by rw [f1]; simp) ?_
   refine TE.set 7 (.ow 2 ((l.take (i + 1)).filter (fun x => !bit0 k x)).length 64) rfl (by rw [f2]) ?_
   refine TE.obj 4 (.row 79 64 ((((l.take (i + 1)).filter (bit0 k))).flatMap It.dv)) rfl (by rw [f1, List.flatMap_append]; simp) ?_
   refine TE.obj 2 (.row 79 64 ((((l.take (i + 1)).filter (fun x => !bit0 k x))).flatMap It.dv)) rfl (by rw [f2]) ?_
   refine TE.setv 8 (.int .i64 ((i + 1 : Nat) : Int)) rfl (congrArg _ (by first | rfl | (dsimp only; first | done | rfl | omega))) ?_
   exact .rd 0 5 (swp 1 4) (swp_inj 1 4) rfl (i + 1) (by omega) (by omega) rfl rfl rfl
  ·skip
   have hb : bit0 k l[i] = false := h2
   have f1 := filter_snoc (bit0 k) hi
   rw [if_neg (by rw [hb]; simp)] at f1
   have f2 := filter_snoc (fun x => !bit0 k x) hi
   rw [if_pos (by rw [hb]; rfl)] at f2
   refine .t 3 5 rfl rfl (.idx (l[i]) rfl rfl rfl rfl et100 it_len (Int.natCast_nonneg _) (get_nat (hi))) ?_
   refine .t 0 5 rfl rfl (.lm (l[i].dv) rfl) ?_
   refine .t 0 5 rfl rfl (.bb (l[i].dv) 5 rfl) ?_
   refine .t 0 6 rfl rfl (.ap 6 rfl (it_flat _) (it_one _) (by omega) (by omega)) ?_
   refine .t 2 7 rfl rfl (.bv (.int .i64 ((i + 1 : Nat) : Int)) rfl (congrArg _ (by (try dsimp only); rw [IntKind.wrap_i64]; omega))) ?_
   refine .g 1 7 rfl ?_
   refine TE.set 7 (.ow 6 ((l.take (i + 1)).filter (fun x => !bit0 k x)).length 64) rfl (by rw [f2]; simp) ?_
   refine TE.set 6 (.ow 1 ((l.take (i + 1)).filter (bit0 k)).length 64) rfl (by rw [f1]) ?_
   refine TE.obj 6 (.row 79 64 ((((l.take (i + 1)).filter (fun x => !bit0 k x))).flatMap It.dv)) rfl (by rw [f2, List.flatMap_append]; simp) ?_
   refine TE.obj 1 (.row 79 64 ((((l.take (i + 1)).filter (bit0 k))).flatMap It.dv)) rfl (by rw [f1]) ?_
   refine TE.setv 8 (.int .i64 ((i + 1 : Nat) : Int)) rfl (congrArg _ (by first | rfl | (dsimp only; first | done | rfl | omega))) ?_
   exact .rd 0 7 (swp 2 6) (swp_inj 2 6) rfl (i + 1) (by omega) (by omega) rfl rfl rfl
 ·skip
  have hi : ¬ (i < l.length) := by have q := of_decide_eq_false h1; (try dsimp only at q); omega
  have ei : i = l.length := by have : i ≤ l.length := hI; omega
  have e : l.take i = l := by rw [ei, List.take_length]
  refine .g 4 7 rfl ?_
  refine TE.frz 4 (slT It.dv 64 (l.filter (bit0 k))) rfl rfl (it_flat _) (by rw [e]) ?_
  refine TE.frz 5 (slT It.dv 64 (l.filter (fun x => !bit0 k x))) rfl rfl (it_flat _) (by rw [e]) ?_
  exact .z 0 7 rfl (TE.rettc rfl rfl rfl)
theorem rroot_step (f : Nat) (ih : ∀ g, f = g + 1 → ∀ k l, okT g k l → l.length ≤ 1048576 → k ≤ 256 → PF Tryz.prog 99 [slT It.dv 64 l, .v (.int .i64 ((k : Nat) : Int))] (.ag (hdv (belowH (g + 1) k l)))) (k : Nat) (l : List It) (ho : okT f k l) (hl : l.length ≤ 1048576) (hk : k ≤ 256) : PF Tryz.prog 99 [slT It.dv 64 l, .v (.int .i64 ((k : Nat) : Int))] (.ag (hdv (belowH (f + 1) k l))) := by
 refine PF.enter (fn := Tryz.f99) Tryz.func99 rfl Tryz.ntmps99 rfl (fun w0 => .w ?_)
 refine .q 4 1 rfl rfl (fun h1 => ?_) (fun h1 => ?_)
 ·skip
  have h0 : l.length = 0 := by have q := of_decide_eq_true h1; (try dsimp only at q); omega
  have el : l = [] := List.eq_nil_of_length_eq_zero h0
  subst el
  refine .t 0 2 rfl rfl (.cf (rempty_pf) rfl) ?_
  have e : belowH (f + 1) k [] = tagH 122 [] := rfl
  rw [e]
  exact .z 1 2 rfl (TE.retf rfl rfl rfl (pl_ag (pl_h _)))
 ·skip
  have h0 : ¬ (l.length = 0) := by have q := of_decide_eq_false h1; (try dsimp only at q); omega
  refine .q 3 2 rfl rfl (fun h2 => ?_) (fun h2 => ?_)
  ·skip
   have h1 : l.length = 1 := by have q := of_decide_eq_true h2; (try dsimp only at q); omega
   obtain ⟨x, el⟩ := one_of h1
   subst el
   refine .t 1 2 rfl rfl (.idx (x) rfl rfl rfl rfl et100 it_len (by decide) rfl) ?_
   refine .t 0 2 rfl rfl (.lm (x.dv) rfl) ?_
   refine .t 0 2 rfl rfl (.cf (rleaf_pf x) rfl) ?_
   have e : belowH (f + 1) k [x] = tagH 108 [H.l x.ix, H.l x.vl] := rfl
   rw [e]
   exact .z 1 2 rfl (TE.retf rfl rfl rfl (pl_ag (pl_h _)))
  ·skip
   have h1 : ¬ (l.length = 1) := by have q := of_decide_eq_false h2; (try dsimp only at q); omega
   have h2 : ¬ l.length < 2 := by omega
   obtain ⟨g, rfl, hk2, hs, ho1, ho2⟩ := okT_two ho h2
   have f1 := List.length_filter_le (bit0 k) l
   have f2 := List.length_filter_le (fun x => !bit0 k x) l
   have c1 := ih g rfl (k + 1) (l.filter (bit0 k)) ho1 (by omega) (by omega)
   have c2 := ih g rfl (k + 1) (l.filter (fun x => !bit0 k x)) ho2 (by omega) (by omega)
   refine .t 2 2 rfl rfl (.cc (sides_pc l k hk2 hl) rfl) ?_
   refine .t 7 2 rfl rfl (.bv (.int .i64 ((k + 1 : Nat) : Int)) rfl (congrArg _ (by (try dsimp only); rw [IntKind.wrap_i64]; omega))) ?_
   refine .t 0 2 rfl rfl (.cf (c1) rfl) ?_
   refine .t 2 2 rfl rfl (.bv (.int .i64 ((k + 1 : Nat) : Int)) rfl (congrArg _ (by (try dsimp only); rw [IntKind.wrap_i64]; omega))) ?_
   refine .t 0 2 rfl rfl (.cf (c2) rfl) ?_
   refine .t 0 2 rfl rfl (.cf (rnode_pf _ _) rfl) ?_
   rw [belowH_two h2]
   exact .z 1 2 rfl (TE.retf rfl rfl rfl (pl_ag (pl_h _)))
theorem rroot_pf : ∀ (f k : Nat) (l : List It), okT f k l → l.length ≤ 1048576 → k ≤ 256 → PF Tryz.prog 99 [slT It.dv 64 l, .v (.int .i64 ((k : Nat) : Int))] (.ag (hdv (belowH (f + 1) k l)))
  | 0 => rroot_step 0 (fun g e => by omega)
  | f + 1 => rroot_step (f + 1) (fun g e => (show f = g by omega) ▸ rroot_pf f)
theorem index_pf (nm : List UInt8) (hn : nm.length ≤ 1048576) : PF Tryz.prog 31 [.v (.string ⟨⟨nm⟩⟩)] (.ag (hdv (indexH nm))) := by
 refine PF.enter (fn := Tryz.f31) Tryz.func31 rfl Tryz.ntmps31 rfl (fun w0 => .w ?_)
 refine .t 2 1 rfl rfl (.convsb rfl rfl us9 u822 (by omega)) ?_
 refine .t 0 2 rfl rfl (.bb ([slT bdv 1 nm]) 2 rfl) ?_
 refine .t 0 3 rfl rfl (.cf (tag_pf 105 [nm] (by decide) (by decide) (by simp [textLen, totalLen]; omega)) rfl) ?_
 exact .z 1 3 rfl (TE.retf rfl rfl rfl (pl_ag (pl_h _)))
theorem value_pf (ver key : Int) (h0 : 0 ≤ key) (h1 : key < 18446744073709551616) : PF Tryz.prog 32 [.v (.int .i64 ver), .v (.int .u64 key)] (.ag (hdv (valueH ver key))) := by
 refine PF.enter (fn := Tryz.f32) Tryz.func32 rfl Tryz.ntmps32 rfl (fun w0 => .w ?_)
 refine .t 2 1 rfl rfl (.cv (u64w ver) rfl (IntKind.wrap_u64 _)) ?_
 refine .t 0 2 rfl rfl (.cf (num_pf (u64w ver) (u64w_bd ver).1 (u64w_bd ver).2) rfl) ?_
 refine .t 1 2 rfl rfl (.cf (num_pf key h0 h1) rfl) ?_
 refine .t 0 2 rfl rfl (.bb ([slT bdv 1 (numB (u64w ver)), slT bdv 1 (numB key)]) 2 rfl) ?_
 refine .t 0 3 rfl rfl (.cf (tag_pf 118 [numB (u64w ver), numB key] (by decide) (by decide) (by simp [textLen, totalLen, numB_len])) rfl) ?_
 exact .z 1 3 rfl (TE.retf rfl rfl rfl (pl_ag (pl_h _)))
theorem rindex_pf (nm : List UInt8) (hn : nm.length ≤ 1048576) : PF Tryz.prog 39 [.v (.string ⟨⟨nm⟩⟩)] (.ag (hdv (indexH nm))) := by
 refine PF.enter (fn := Tryz.f39) Tryz.func39 rfl Tryz.ntmps39 rfl (fun w0 => .w ?_)
 refine .t 2 1 rfl rfl (.convsb rfl rfl us9 u822 (by omega)) ?_
 refine .t 0 2 rfl rfl (.bb ([slT bdv 1 nm]) 2 rfl) ?_
 refine .t 0 3 rfl rfl (.cf (rtag_pf 105 [nm] (by decide) (by decide) (by simp [textLen, totalLen]; omega)) rfl) ?_
 exact .z 1 3 rfl (TE.retf rfl rfl rfl (pl_ag (pl_h _)))
theorem rvalue_pf (ver key : Int) (h0 : 0 ≤ key) (h1 : key < 18446744073709551616) : PF Tryz.prog 40 [.v (.int .i64 ver), .v (.int .u64 key)] (.ag (hdv (valueH ver key))) := by
 refine PF.enter (fn := Tryz.f40) Tryz.func40 rfl Tryz.ntmps40 rfl (fun w0 => .w ?_)
 refine .t 2 1 rfl rfl (.cv (u64w ver) rfl (IntKind.wrap_u64 _)) ?_
 refine .t 0 2 rfl rfl (.cf (rnum_pf (u64w ver) (u64w_bd ver).1 (u64w_bd ver).2) rfl) ?_
 refine .t 1 2 rfl rfl (.cf (rnum_pf key h0 h1) rfl) ?_
 refine .t 0 2 rfl rfl (.bb ([slT bdv 1 (numB (u64w ver)), slT bdv 1 (numB key)]) 2 rfl) ?_
 refine .t 0 3 rfl rfl (.cf (rtag_pf 118 [numB (u64w ver), numB key] (by decide) (by decide) (by simp [textLen, totalLen, numB_len])) rfl) ?_
 exact .z 1 3 rfl (TE.retf rfl rfl rfl (pl_ag (pl_h _)))
theorem ritem_pf (nm : List UInt8) (ver key : Int) (hn : nm.length ≤ 1048576) (h0 : 0 ≤ key) (h1 : key < 18446744073709551616) : PF Tryz.prog 100 [.ag (entD nm ver key)] (.ag (itemI nm ver key).dv) := by
 refine PF.enter (fn := Tryz.f100) Tryz.func100 rfl Tryz.ntmps100 rfl (fun w0 => .w ?_)
 refine .g 2 1 rfl ?_
 refine TE.frzb 1 rfl rfl rfl rfl ?_
 refine .d 0 3 rfl ?_
 refine .v 2 3 [] rfl rfl (fun _ _ => .cf (rindex_pf nm hn) rfl) ?_
 refine .v 4 3 [] rfl rfl (fun _ _ => .cf (rvalue_pf ver key h0 h1) rfl) ?_
 refine .v 0 3 [] rfl rfl (fun _ _ => .bd ((itemI nm ver key).dv) rfl) ?_
 refine .y 1 3 rfl (by kernel_rfl) ?_
 exact .z 0 3 rfl (TE.retf rfl rfl rfl (pl_ag (pl_it _)))
end Go.Proofs.YtdjcclcejmeheaaGreat
/-
  slices.Insert of one value: a row given away.
-/
namespace Go.Proofs.YtdjcclcejmeheaaGreat
set_option linter.unusedVariables false
set_option linter.unusedSimpArgs false
open Go.RowKit Pl
set_option maxRecDepth 100000
set_option maxHeartbeats 3200000
end Go.Proofs.YtdjcclcejmeheaaGreat
/-
  Directories: what is known, looked up, added: the values.
-/
namespace Go.Proofs.YtdjcclcejmeheaaGreat
set_option linter.unusedVariables false
set_option linter.unusedSimpArgs false
open Go.RowKit Pl
/-- A string's value. -/
def strV (l : List UInt8) : Value := .string ⟨l.toArray⟩
def rightE (n : List UInt8) (v k : Int) : Bool := decide (1 ≤ n.length) && (decide (n.length ≤ 32) && (decide (1 ≤ v) && (decide (v ≤ 1073741824) && (decide (1 ≤ k) && decide (k < 2305843009213693951)))))
/-- The name of a number. -/
def nameL (k : Int) : List UInt8 := if k % 6 = 0 then [97] else if k % 6 = 1 then [98] else if k % 6 = 2 then [97, 110, 110] else if k % 6 = 3 then [98, 111, 98] else if k % 6 = 4 then [195, 169] else [48, 49, 50, 51, 52, 53, 54, 55, 56, 57, 48, 49, 50, 51, 52, 53, 54, 55, 56, 57, 48, 49, 50, 51, 52, 53, 54, 55, 56, 57, 48, 122]
/-- What is known of a name's version. -/
structure Kn where
  nm : List UInt8
  ver : Int
  key : Int
  ep : Int
def Kn.dv (k : Kn) : List DV := [.v (strV k.nm), .v (.int .i64 k.ver), .v (.int .u64 k.key), .v (.int .i64 k.ep)]
def zeroK : Kn := ⟨[], 0, 0, 0⟩
/-- An entry. -/
structure En where
  nm : List UInt8
  ver : Int
  key : Int
def En.dv (k : En) : List DV := [.v (strV k.nm), .v (.int .i64 k.ver), .v (.int .u64 k.key)]
theorem pl_kn (k : Kn) : ∀ X ∈ k.dv, Pl X := pl_cons (pl_v _) (pl_cons (pl_v _) (pl_cons (pl_v _) (pl_cons (pl_v _) pl_nil)))
theorem pl_en (k : En) : ∀ X ∈ k.dv, Pl X := pl_cons (pl_v _) (pl_cons (pl_v _) (pl_cons (pl_v _) pl_nil))
def latStep (nm : List UInt8) (q : Kn × Bool) (k : Kn) : Kn × Bool := if k.nm = nm ∧ (q.2 = false ∨ q.1.ver < k.ver) then (k, true) else q
def latR (l : List Kn) (nm : List UInt8) : Kn × Bool := l.foldl (latStep nm) (zeroK, false)
theorem latR_snoc {l : List Kn} {nm : List UInt8} {k : Nat} (h : k < l.length) : latR (l.take (k + 1)) nm = latStep nm (latR (l.take k) nm) l[k] := by
  unfold latR; rw [take_snoc' h, List.foldl_append]; rfl
def i64w (n : Int) : Int := IntKind.i64.wrap n
theorem kn_len (k : Kn) : k.dv.length = 4 := rfl
theorem en_len (k : En) : k.dv.length = 3 := rfl
def lessK (k : Kn) (e : En) : Bool := Op.bytesLess k.nm e.nm || (decide (k.nm = e.nm) && decide (k.ver < e.ver))
def insK (e : En) (ep : Int) (l : List Kn) : List Kn := l.takeWhile (lessK · e) ++ ⟨e.nm, e.ver, e.key, ep⟩ :: l.dropWhile (lessK · e)
theorem insK_len (e : En) (ep : Int) (l : List Kn) : (insK e ep l).length = l.length + 1 := by
  unfold insK
  have := congrArg List.length (List.takeWhile_append_dropWhile (p := (lessK · e)) (l := l))
  simp only [List.length_append, List.length_cons] at this ⊢
  omega
def addGo (kn : List Kn) (ep : Int) : List En → List En → List Kn → List Kn × Bool
  | _, [], out => (out, true)
  | done, e :: r, out =>
    if rightE e.nm e.ver e.key = true ∧ e.ver = i64w ((latR kn e.nm).1.ver + 1) ∧ (∀ d ∈ done, ¬ d.nm = e.nm) then addGo kn ep (done ++ [e]) r (insK e ep out) else (kn, false)
open Classical in
def addR (kn : List Kn) (ep : Int) (b : List En) : List Kn × Bool := if ep < 1 ∨ (∃ k ∈ kn, ep ≤ k.ep) then (kn, false) else addGo kn ep [] b kn
theorem addGo_len (kn : List Kn) (ep : Int) : ∀ (r done : List En) (out : List Kn), kn.length ≤ out.length → (addGo kn ep done r out).1.length ≤ out.length + r.length
  | [], _, out, h => by simp [addGo]
  | e :: r, done, out, h => by
    unfold addGo; split
    · have := addGo_len kn ep r (done ++ [e]) (insK e ep out) (by rw [insK_len]; omega)
      rw [insK_len] at this; simp only [List.length_cons]; omega
    · simp only [List.length_cons]; omega
theorem addR_len (kn : List Kn) (ep : Int) (b : List En) : (addR kn ep b).1.length ≤ kn.length + b.length := by
  unfold addR; split
  · show kn.length ≤ _; omega
  · exact addGo_len kn ep b [] kn (Nat.le_refl _)
theorem addGo_step {kn : List Kn} {ep : Int} {b : List En} {out : List Kn} {k : Nat} (h : k < b.length) (h1 : rightE b[k].nm b[k].ver b[k].key = true) (h2 : b[k].ver = i64w ((latR kn b[k].nm).1.ver + 1)) (h3 : ∀ j (hj : j < b.length), j < k → ¬ b[j].nm = b[k].nm) :
    addGo kn ep (b.take k) (b.drop k) out = addGo kn ep (b.take (k + 1)) (b.drop (k + 1)) (insK b[k] ep out) := by
  rw [← List.getElem_cons_drop h, addGo, if_pos ⟨h1, h2, fun d hd => by
    obtain ⟨j, hj, rfl⟩ := List.getElem_of_mem hd
    rw [List.getElem_take]
    exact h3 j (by simp at hj; omega) (by simp at hj; omega)⟩, take_snoc' h]
theorem addGo_stop {kn : List Kn} {ep : Int} {b : List En} {out : List Kn} {k : Nat} (h : k < b.length) (hn : ¬ (rightE b[k].nm b[k].ver b[k].key = true ∧ b[k].ver = i64w ((latR kn b[k].nm).1.ver + 1) ∧ (∀ d ∈ b.take k, ¬ d.nm = b[k].nm))) :
    addGo kn ep (b.take k) (b.drop k) out = (kn, false) := by
  rw [← List.getElem_cons_drop h, addGo, if_neg hn]
theorem mem_take_of {α : Type} {b : List α} {j k : Nat} (hj : j < b.length) (h : j < k) : b[j] ∈ b.take k := by
  have hl : j < (b.take k).length := by simp; omega
  have := List.getElem_mem hl
  rwa [List.getElem_take] at this
theorem while_at {α : Type} {p : α → Bool} {l : List α} {k : Nat} (h : k ≤ l.length) (ha : ∀ j (hj : j < l.length), j < k → p l[j] = true) (hn : ∀ hk : k < l.length, p l[k] = false) : l.takeWhile p = l.take k ∧ l.dropWhile p = l.drop k := by
  induction l generalizing k with
  | nil => simp
  | cons x t ih =>
    cases k with
    | zero => have := hn (by simp); simp at this; simp [this]
    | succ k =>
      have hx : p x = true := ha 0 (by simp) (by omega)
      obtain ⟨h1, h2⟩ := ih (k := k) (by simpa using h) (fun j hj hjk => by have := ha (j + 1) (by simpa using hj) (by omega); simpa using this) (fun hk => by have := hn (by simpa using hk); simpa using this)
      simp [hx, h1, h2]
theorem latR_mem (l : List Kn) (nm : List UInt8) : (latR l nm).1 = zeroK ∨ (latR l nm).1 ∈ l := by
  unfold latR
  have : ∀ (l : List Kn) (q : Kn × Bool) (m : List Kn), (q.1 = zeroK ∨ q.1 ∈ m) → (∀ x ∈ l, x ∈ m) → ((l.foldl (latStep nm) q).1 = zeroK ∨ (l.foldl (latStep nm) q).1 ∈ m) := by
    intro l
    induction l with
    | nil => intro q m h _; exact h
    | cons x t ih =>
      intro q m h hm
      refine ih _ m ?_ (fun y hy => hm y (by simp [hy]))
      unfold latStep; split
      · exact .inr (hm x (by simp))
      · exact h
  exact this l (zeroK, false) l (.inl rfl) (fun x h => h)
theorem i64w_small {v : Int} (h0 : 0 ≤ v) (h1 : v ≤ 1099511627776) : i64w (v + 1) = v + 1 := by unfold i64w; rw [IntKind.wrap_i64]; omega
theorem mem_insK {e : En} {ep : Int} {l : List Kn} {x : Kn} (h : x ∈ insK e ep l) : x = ⟨e.nm, e.ver, e.key, ep⟩ ∨ x ∈ l := by
  unfold insK at h
  rw [List.mem_append, List.mem_cons] at h
  rcases h with h | h | h
  · exact .inr ((List.takeWhile_prefix _).subset h)
  · exact .inl h
  · exact .inr ((List.dropWhile_suffix _).subset h)
theorem bl_tri : ∀ (a b : List UInt8), Op.bytesLess a b = true ∨ a = b ∨ Op.bytesLess b a = true
  | [], [] => .inr (.inl rfl)
  | [], _ :: _ => .inl (by simp [Op.bytesLess])
  | _ :: _, [] => .inr (.inr (by simp [Op.bytesLess]))
  | x :: a, y :: b => by
    simp only [Op.bytesLess, Bool.or_eq_true, decide_eq_true_eq, Bool.and_eq_true, beq_iff_eq, List.cons.injEq]
    have tri : x < y ∨ x = y ∨ y < x := by
      by_cases h : x = y
      · exact .inr (.inl h)
      · rcases UInt8.lt_or_lt_of_ne h with k | k
        · exact .inl k
        · exact .inr (.inr k)
    rcases tri with k | rfl | k
    · exact .inl (.inl k)
    · rcases bl_tri a b with h | h | h
      · exact .inl (.inr ⟨rfl, h⟩)
      · exact .inr (.inl ⟨rfl, h⟩)
      · exact .inr (.inr (.inr ⟨rfl, h⟩))
    · exact .inr (.inr (.inl k))
theorem bl_asym {a b : List UInt8} (h : Op.bytesLess a b = true) : Op.bytesLess b a = false := by
  cases k : Op.bytesLess b a with
  | false => rfl
  | true => rw [← bl_trans h k, bl_irrefl]
/-- A name and a version ahead of another. -/
def ltN (a : List UInt8) (v : Int) (b : List UInt8) (u : Int) : Prop := Op.bytesLess a b = true ∨ (a = b ∧ v < u)
theorem ltN_trans {a b c : List UInt8} {x y z : Int} (h : ltN a x b y) (k : ltN b y c z) : ltN a x c z := by
  rcases h with h | ⟨rfl, h⟩ <;> rcases k with k | ⟨rfl, k⟩
  · exact .inl (bl_trans h k)
  · exact .inl h
  · exact .inl k
  · exact .inr ⟨rfl, by omega⟩
theorem ltN_irrefl {a : List UInt8} {x : Int} (h : ltN a x a x) : False := by
  rcases h with h | ⟨_, h⟩
  · rw [bl_irrefl] at h; cases h
  · omega
def ltK (a b : Kn) : Prop := ltN a.nm a.ver b.nm b.ver
def SrtK (l : List Kn) : Prop := l.Pairwise ltK
theorem SrtK.get {l : List Kn} (h : SrtK l) {i j : Nat} (hij : i < j) (hj : j < l.length) : ltK (l[i]'(by omega)) l[j] := List.pairwise_iff_getElem.1 h i j (by omega) hj hij
theorem latR_ok (l : List Kn) (nm : List UInt8) (m : Nat) (hm : m ≤ l.length) :
    ((latR (l.take m) nm).2 = false → (latR (l.take m) nm).1 = zeroK ∧ ∀ j (hj : j < l.length), j < m → l[j].nm ≠ nm) ∧
    ((latR (l.take m) nm).2 = true → ∃ i, ∃ (hi : i < l.length), (latR (l.take m) nm).1 = l[i] ∧ l[i].nm = nm ∧ ∀ j (hj : j < l.length), j < m → l[j].nm = nm → l[j].ver ≤ l[i].ver) := by
  induction m with
  | zero => exact ⟨fun _ => ⟨rfl, fun j _ h => absurd h (Nat.not_lt_zero j)⟩, fun h => by simp [latR] at h⟩
  | succ m ih =>
    have hlt : m < l.length := hm
    obtain ⟨h1, h2⟩ := ih (by omega)
    rw [latR_snoc hlt]
    generalize latR (l.take m) nm = q at *
    obtain ⟨q, ok⟩ := q
    simp only at h1 h2
    unfold latStep
    by_cases hn : l[m].nm = nm
    · cases ok with
      | false =>
        obtain ⟨e, h1⟩ := h1 rfl
        rw [if_pos ⟨hn, .inl rfl⟩]
        refine ⟨fun h => by simp at h, fun _ => ⟨m, hlt, rfl, hn, fun j hj hjm hx => ?_⟩⟩
        by_cases e : j = m
        · subst e; omega
        · exact absurd hx (h1 j hj (by omega))
      | true =>
        obtain ⟨i, hi, e, hin, hmax⟩ := h2 rfl
        by_cases hv : q.ver < l[m].ver
        · rw [if_pos ⟨hn, .inr hv⟩]
          refine ⟨fun h => by simp at h, fun _ => ⟨m, hlt, rfl, hn, fun j hj hjm hx => ?_⟩⟩
          by_cases ee : j = m
          · subst ee; omega
          · have := hmax j hj (by omega) hx; rw [e] at hv; omega
        · rw [if_neg (fun x => x.2.elim (fun h => by simp at h) hv)]
          refine ⟨fun h => by simp at h, fun _ => ⟨i, hi, e, hin, fun j hj hjm hx => ?_⟩⟩
          by_cases ee : j = m
          · subst ee; rw [e] at hv; omega
          · exact hmax j hj (by omega) hx
    · rw [if_neg (fun x => hn x.1)]
      refine ⟨fun h => ?_, fun h => ?_⟩
      · obtain ⟨e, h1⟩ := h1 h
        refine ⟨e, fun j hj hjm hx => ?_⟩
        by_cases ee : j = m
        · subst ee; exact hn hx
        · exact h1 j hj (by omega) hx
      · obtain ⟨i, hi, e, hin, hmax⟩ := h2 h
        refine ⟨i, hi, e, hin, fun j hj hjm hx => ?_⟩
        by_cases ee : j = m
        · subst ee; exact absurd hx hn
        · exact hmax j hj (by omega) hx
theorem latR_none {l : List Kn} {nm : List UInt8} (h : ∀ j (hj : j < l.length), l[j].nm ≠ nm) : latR l nm = (zeroK, false) := by
  have h0 := latR_ok l nm l.length (Nat.le_refl _)
  rw [List.take_length] at h0
  cases hb : (latR l nm).2 with
  | false => exact Prod.ext (h0.1 hb).1 hb
  | true =>
    obtain ⟨i, hi, _, hn, _⟩ := h0.2 hb
    exact absurd hn (h i hi)
theorem latR_some {l : List Kn} {nm : List UInt8} {j : Nat} (hj : j < l.length) (hn : l[j].nm = nm) : ∃ i, ∃ (hi : i < l.length), latR l nm = (l[i], true) ∧ l[i].nm = nm ∧ ∀ j (hj : j < l.length), l[j].nm = nm → l[j].ver ≤ l[i].ver := by
  have h0 := latR_ok l nm l.length (Nat.le_refl _)
  rw [List.take_length] at h0
  cases hb : (latR l nm).2 with
  | false => exact absurd hn ((h0.1 hb).2 j hj hj)
  | true =>
    obtain ⟨i, hi, e, hn', hmax⟩ := h0.2 hb
    exact ⟨i, hi, Prod.ext e hb, hn', fun j hj hx => hmax j hj hj hx⟩
theorem latR_le {l : List Kn} {nm : List UInt8} {k : Kn} (hk : k ∈ l) (hn : k.nm = nm) : k.ver ≤ (latR l nm).1.ver := by
  obtain ⟨j, hj, rfl⟩ := List.getElem_of_mem hk
  obtain ⟨i, hi, e, _, hm⟩ := latR_some hj hn
  rw [e]; exact hm j hj hn
theorem latR_in {l : List Kn} {nm : List UInt8} {k : Kn} (hk : k ∈ l) (hn : k.nm = nm) : (latR l nm).1 ∈ l ∧ (latR l nm).1.nm = nm := by
  obtain ⟨j, hj, rfl⟩ := List.getElem_of_mem hk
  obtain ⟨i, hi, e, h, hm⟩ := latR_some hj hn
  rw [e]; exact ⟨List.getElem_mem hi, h⟩
theorem latR_no {l : List Kn} {nm : List UInt8} (h : ∀ k ∈ l, k.nm ≠ nm) : latR l nm = (zeroK, false) := latR_none fun j hj => h _ (List.getElem_mem hj)
theorem drop_not {e : En} : ∀ {l : List Kn}, SrtK l → ∀ k ∈ l.dropWhile (lessK · e), ¬ ltN k.nm k.ver e.nm e.ver
  | [], _, k, hk => by cases hk
  | x :: t, hs, k, hk => by
    unfold SrtK at hs
    rw [List.pairwise_cons] at hs
    rw [List.dropWhile_cons] at hk
    split at hk
    · exact drop_not hs.2 k hk
    · rename_i hx
      have hx' : ¬ ltN x.nm x.ver e.nm e.ver := fun q => hx (by unfold lessK; rcases q with q | ⟨q, r⟩ <;> simp [q]; exact .inr r)
      rcases List.mem_cons.1 hk with rfl | hk
      · exact hx'
      · exact fun q => hx' (ltN_trans (hs.1 k hk) q)
theorem while_lt {e : En} {l : List Kn} {k : Kn} (h : k ∈ l.takeWhile (lessK · e)) : ltN k.nm k.ver e.nm e.ver := by
  have : ∀ {l : List Kn}, k ∈ l.takeWhile (lessK · e) → lessK k e = true := by
    intro l
    induction l with
    | nil => intro h; cases h
    | cons x t ih =>
      intro h
      rw [List.takeWhile_cons] at h
      split at h
      · rcases List.mem_cons.1 h with rfl | h
        · assumption
        · exact ih h
      · cases h
  have := this h
  unfold lessK at this
  simp only [Bool.or_eq_true, Bool.and_eq_true, decide_eq_true_eq] at this
  exact this
theorem mem_insK' {e : En} {ep : Int} {l : List Kn} : (⟨e.nm, e.ver, e.key, ep⟩ : Kn) ∈ insK e ep l ∧ ∀ x ∈ l, x ∈ insK e ep l := by
  unfold insK
  refine ⟨by simp, fun x hx => ?_⟩
  rw [← List.takeWhile_append_dropWhile (p := (lessK · e)) (l := l)] at hx
  rw [List.mem_append] at hx ⊢
  exact hx.elim .inl (fun h => .inr (List.mem_cons_of_mem _ h))
end Go.Proofs.YtdjcclcejmeheaaGreat

