import Derived.Test.YtdjcclcejmeheaaGreatZJf
import Derived.Test.YtdjcclcejmeheaaGreatZJa
import Derived.Test.YtdjcclcejmeheaaGreatZGc
import Derived.Test.YtdjcclcejmeheaaGreatZEv
/-
  Proofs' bytes.
-/
namespace Go.Proofs.YtdjcclcejmeheaaGreat
set_option linter.unusedVariables false
set_option linter.unusedSimpArgs false
open Go.RowKit Pl
set_option maxRecDepth 100000
set_option maxHeartbeats 3200000
theorem phash_pm (l : List UInt8) (x : Int) (hl : l.length ≤ 1099511627776) : PM Tryz.prog 73 [.ptr 0 0] (.mbox 0 166 (rdC (l) (x))) (.mbox 0 166 (rdC (rawRest l x 32) (rawErr l x 32))) (.d (.ag (hdv (ofL (rawOut l x 32))))) := by
 have hq := rawOut_le l x 32
 refine PM.enter (fn := Tryz.f73) Tryz.func73 rfl Tryz.ntmps73 rfl rfl rfl (fun w0 K0 ob => .w ?_)
 refine .g 2 1 rfl ?_
 refine TE.obj 1 (.box 41 (hdv zeroH)) rfl rfl ?_
 refine TE.obj 2 (.box 41 (hdv zeroH)) rfl rfl ?_
 refine .d 0 3 rfl ?_
 refine .v 0 3 [2] rfl rfl (fun _ _ => .slicep rfl rfl rfl rfl ar41 rfl rfl (by decide) (by decide) (by decide) (by decide) (Nat.le_of_ble_eq_true rfl) (by decide)) ?_
 refine .t 1 3 (E := ⟨some (6, _), [(0, _)]⟩) [0] rfl rfl (fun _ _ => .cm 0 (.mbox 0 166 (rdC (rawRest l x 32) (rawErr l x 32))) rfl (raw_pm l x 32 hl) rfl) ?_
 refine .t 0 3 (E := ⟨some (7, _), [(2, _)]⟩) [2] rfl rfl (fun _ _ => .copyb rfl rfl rfl rfl rfl rfl trivial et22 (Nat.min_eq_left hq) (by show 0 + (rawOut l x 32).length * 1 ≤ 32; omega)) ?_
 refine .y 0 3 rfl (by kernel_rfl) ?_
 refine TE.obj 2 (.box 41 (hdv (ofL (rawOut l x 32)))) rfl (congrArg (AO.box _) (ofL_copy rfl hq)) ?_
 refine .t 0 3 rfl rfl (.lp (hdv (ofL (rawOut l x 32))) rfl) ?_
 exact .z 1 3 rfl (TE.retm 0 rfl rfl rfl rfl rfl)
theorem rput_po (p : Pf) (hp : p.path.length ≤ 1048576) : PO Tryz.prog 45 [.ag p.dv] 5 1 (putB p).length ((putB p).flatMap bdv) := by
 refine PO.enter (fn := Tryz.f45) Tryz.func45 rfl Tryz.ntmps45 rfl (fun w0 => .w ?_)
 refine .g 2 1 rfl ?_
 refine TE.frzb 1 rfl rfl rfl rfl ?_
 refine .t 3 2 rfl rfl (.cv (((p.path.length : Nat) : Int)) rfl (by rw [IntKind.wrap_u64]; omega)) ?_
 refine .t 0 2 rfl rfl (.co 2 (rnum_po ((p.path.length : Nat) : Int) (by omega) (by omega)) rfl) ?_
 refine .g 1 3 rfl ?_
 refine TE.obj 2 (.row 5 1 ((putK p 0).flatMap bdv)) rfl (by unfold putK; rw [List.take_zero, List.flatMap_nil, List.append_nil]) ?_
 refine TE.set 3 (.ow 2 (8 + 32 * 0) 1) rfl rfl ?_
 refine .g 1 3 rfl ?_
 refine TE.setv 4 (.int .i64 ((0 : Nat) : Int)) rfl (congrArg _ (by first | rfl | (dsimp only; first | done | rfl | omega))) ?_
 refine .lo (T := Nat) 0 3 rfl (fun k => k ≤ p.path.length) (fun k => p.path.length - k) [] [] (fun k => [(1, .d (.el p.dv)), (3, .ow 2 (8 + 32 * k) 1), (4, .d (.v (.int .i64 ((k : Nat) : Int))))]) (fun k => [(2, .row 5 1 ((putK p k).flatMap bdv))]) (0) rfl rfl (Nat.zero_le _) rfl rfl rfl (fun k hI => ?_)
 refine .q 5 3 rfl rfl (fun h1 => ?_) (fun h1 => ?_)
 ·skip
  have hk : k < p.path.length := by have q := of_decide_eq_true h1; (try dsimp only at q); omega
  refine .t 4 3 rfl rfl (.idx (p.path[k]) rfl rfl rfl rfl et52 (fun _ => rfl) (Int.natCast_nonneg _) (get_nat hk)) ?_
  refine .t 1 3 rfl rfl (.ap 3 rfl (putK_cells p hI) (h_one _) (by omega) (by omega)) ?_
  refine .t 2 4 rfl rfl (.bv (.int .i64 ((k + 1 : Nat) : Int)) rfl (congrArg _ (by (try dsimp only); rw [IntKind.wrap_i64]; omega))) ?_
  refine .g 1 4 rfl ?_
  refine TE.obj 3 (.row 5 1 ((putK p (k + 1)).flatMap bdv)) rfl (congrArg (AO.row _ _) (putK_step p hk)) ?_
  refine TE.set 3 (.ow 3 (8 + 32 * (k + 1)) 1) rfl (congrArg (fun n => AV.ow _ n 1) (by omega)) ?_
  refine TE.setv 4 (.int .i64 ((k + 1 : Nat) : Int)) rfl (congrArg _ (by first | rfl | (dsimp only; first | done | rfl | omega))) ?_
  exact .rd 0 4 (swp 2 3) (swp_inj 2 3) rfl (k + 1) (by omega) (by omega) rfl rfl rfl
 ·skip
  have hk : ¬ (k < p.path.length) := by have q := of_decide_eq_false h1; (try dsimp only at q); omega
  have e : k = p.path.length := by have : k ≤ p.path.length := hI; omega
  subst e
  clear hI
  refine .t 3 4 rfl rfl (.cv (u64w p.en) rfl (rfl)) ?_
  refine .t 0 4 rfl rfl (.cf (rnum_pf (u64w p.en) (u64w_bd _).1 (u64w_bd _).2) rfl) ?_
  refine .t 0 4 rfl rfl (.ap 4 rfl (putK_cells p (Nat.le_refl _)) (flat_one (fun _ => rfl) _) (by rw [numB_len]; omega) (by rw [numB_len]; omega)) ?_
  refine .g 1 5 rfl ?_
  refine TE.obj 4 (.row 5 1 ((putK p p.path.length ++ numB (u64w p.en)).flatMap bdv)) rfl (congrArg (AO.row _ _) (List.flatMap_append ..).symm) ?_
  refine TE.set 3 (.ow 4 (16 + 32 * p.path.length) 1) rfl (congrArg (fun n => AV.ow _ n 1) (by rw [numB_len]; omega)) ?_
  refine .d 0 5 rfl ?_
  refine .t 4 5 (E := ⟨some (34, _), [(4, .dead), (5, _)]⟩) [4, 5] rfl rfl (fun _ _ => .ap 5 rfl (putQ_cells p) (h_one _) (by omega) (by omega)) ?_
  refine .t 3 6 (E := ⟨some (38, _), [(5, .dead), (6, _)]⟩) [5, 6] rfl rfl (fun _ _ => .ap 6 rfl (putR_cells p) (h_one _) (by omega) (by omega)) ?_
  refine .y 1 7 rfl (by kernel_rfl) ?_
  refine TE.obj 6 (.row 5 1 ((putB p).flatMap bdv)) rfl (congrArg (AO.row _ _) (by rw [← putB_app]; simp only [List.flatMap_append]; rfl)) ?_
  refine TE.set 2 (.ow 6 (putB p).length 1) rfl (congrArg (fun n => AV.ow _ n 1) (by rw [putB_len]; omega)) ?_
  exact .z 0 7 rfl (TE.retof rfl rfl rfl (by rw [flat_length (sz := 1) (fun _ => rfl)]) (by decide) (pl_flat (fun b Y hY => by simp [bdv] at hY; subst hY; exact pl_v _) _))
end Go.Proofs.YtdjcclcejmeheaaGreat

