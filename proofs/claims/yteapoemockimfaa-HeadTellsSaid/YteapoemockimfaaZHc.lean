/-
  Heads' bytes.
-/
import Derived.Test.YteapoemockimfaaZHb
import Derived.Test.YteapoemockimfaaZGb
import Derived.Test.YteapoemockimfaaZEv
namespace Go.Proofs.Yteapoemockimfaa
set_option linter.unusedVariables false
set_option linter.unusedSimpArgs false
open Go.RowKit Pl
set_option maxRecDepth 100000
set_option maxHeartbeats 3200000
theorem num_s (s : RS) (hs : s.1.length ≤ 1099511627776) : PM Try.prog 38 [.ptr 0 0] (.mbox 0 98 (rdC (s).1 (s).2)) (.mbox 0 98 (rdC (rdS s 8).1 (rdS s 8).2)) (.d (.v (.int .u64 (rdN s)))) := num_pm s.1 s.2 hs
theorem hash_s (s : RS) (hs : s.1.length ≤ 1099511627776) : PM Try.prog 39 [.ptr 0 0] (.mbox 0 98 (rdC (s).1 (s).2)) (.mbox 0 98 (rdC (rdS s 32).1 (rdS s 32).2)) (.d (.ag (hdv (rdH s)))) := hash_pm s.1 s.2 hs
theorem puth_pc (h : Hd) (ho : h.ok) : PC Try.prog 10 [.ag h.dv] (.tp [slT bdv 1 (if rightH h = true then putH h else []), .v (.int .i64 (if rightH h = true then 0 else 23))]) := by
 refine PC.enter (fn := Try.f10) Try.func10 rfl Try.ntmps10 rfl (fun w0 K0 => .w ?_)
 refine .g 3 1 rfl ?_
 refine TE.frzb 1 rfl rfl rfl rfl ?_
 refine .t 0 2 rfl rfl (.lm (h.dv) rfl) ?_
 refine .t 0 2 rfl rfl (.cf (right_pf h) rfl) ?_
 refine .q 1 2 rfl rfl (fun h1 => ?_) (fun h1 => ?_)
 ·skip
  have hR : ¬ rightH h = true := by simpa using h1
  refine .g 2 2 rfl ?_
  rw [if_neg hR, if_neg hR]
  refine TE.sub 2 (slT bdv 1 []) rfl rfl (nil_sub _ _) ?_
  exact .z 0 2 rfl (TE.rettc rfl rfl rfl)
 ·skip
  have hR : rightH h = true := by simpa using h1
  refine .d 0 2 rfl ?_
  refine .v 0 2 [] rfl rfl (fun _ _ => .lm (h.dv) rfl) ?_
  refine .v 0 2 [] rfl rfl (fun _ _ => .cf (msg_pf h) rfl) ?_
  refine .v 1 2 [] rfl rfl (fun _ _ => .lm (sgdv h.r h.s) rfl) ?_
  refine .v 0 2 [] rfl rfl (fun _ _ => .cf (sgp_pf h.r h.s ho.1 ho.2) rfl) ?_
  refine .t 0 2 (E := ⟨some (12, _), [(2, _)]⟩) [2] rfl rfl (fun _ _ => .ba 2 rfl) ?_
  refine .v 0 3 [2] rfl rfl (fun _ _ => .cf ((putH_flat h ▸ join_pf [msgB h, putF h.r h.s] (putJ_hd h) (Nat.le_of_ble_eq_true rfl))) rfl) ?_
  refine .y 2 3 rfl (by kernel_rfl) ?_
  rw [if_pos hR, if_pos hR]
  exact .z 0 3 rfl (TE.rettc rfl rfl rfl)
theorem rbytes_po (h : Hd) (ho : h.ok) : PO Try.prog 21 [.ag h.dv] 5 1 (putH h).length ((putH h).flatMap bdv) := by
 refine PO.enter (fn := Try.f21) Try.func21 rfl Try.ntmps21 rfl (fun w0 => .w ?_)
 refine .g 2 1 rfl ?_
 refine TE.frzb 1 rfl rfl rfl rfl ?_
 refine .d 0 2 rfl ?_
 refine .v 0 2 [] rfl rfl (fun _ _ => .lm (h.dv) rfl) ?_
 refine .t 0 2 (E := ⟨some (4, _), [(2, _)]⟩) [2] rfl rfl (fun _ _ => .co 2 (rmsg_po h) rfl) ?_
 refine .v 1 3 [] rfl rfl (fun _ _ => .lm (sgdv h.r h.s) rfl) ?_
 refine .v 0 3 [] rfl rfl (fun _ _ => .cf (rsgp_pf h.r h.s ho.1 ho.2) rfl) ?_
 refine .t 0 3 (E := ⟨some (8, _), [(2, .dead), (3, _)]⟩) [2, 3] rfl rfl (fun _ _ => .append 3 rfl rfl rfl (by rw [flat_length (sz := 1) (fun _ => rfl)]) rfl ap29 rfl rfl trivial (flat_one (fun _ => rfl) _) (by rw [msgB_len, putF_len]; decide) (by rw [msgB_len, putF_len]; decide)) ?_
 refine .y 1 4 rfl (by kernel_rfl) ?_
 refine TE.obj 3 (.row 5 1 ((putH h).flatMap bdv)) rfl (congrArg (AO.row _ _) (by unfold putH; rw [List.flatMap_append])) ?_
 refine TE.set 2 (.ow 3 (putH h).length 1) rfl (congrArg (fun n => AV.ow _ n 1) (by unfold putH; rw [List.length_append])) ?_
 exact .z 0 4 rfl (TE.retof rfl rfl rfl (by rw [flat_length (sz := 1) (fun _ => rfl)]) (by decide) (pl_flat (fun b Y hY => by simp [bdv] at hY; subst hY; exact pl_v _) _))
theorem rputh_pc (h : Hd) (ho : h.ok) : PC Try.prog 11 [.ag h.dv] (.tp [slT bdv 1 (if rightH h = true then putH h else []), .v (.int .i64 (if rightH h = true then 0 else 23))]) := by
 refine PC.enter (fn := Try.f11) Try.func11 rfl Try.ntmps11 rfl (fun w0 K0 => .w ?_)
 refine .g 3 1 rfl ?_
 refine TE.frzb 1 rfl rfl rfl rfl ?_
 refine .t 0 2 rfl rfl (.lm (h.dv) rfl) ?_
 refine .t 0 2 rfl rfl (.cf (rright_pf h) rfl) ?_
 refine .q 1 2 rfl rfl (fun h1 => ?_) (fun h1 => ?_)
 ·skip
  have hR : ¬ rightH h = true := by simpa using h1
  refine .g 2 2 rfl ?_
  rw [if_neg hR, if_neg hR]
  refine TE.sub 2 (slT bdv 1 []) rfl rfl (nil_sub _ _) ?_
  exact .z 0 2 rfl (TE.rettc rfl rfl rfl)
 ·skip
  have hR : rightH h = true := by simpa using h1
  refine .t 0 2 rfl rfl (.lm (h.dv) rfl) ?_
  refine .t 0 2 rfl rfl (.cf ((rbytes_po h ho).pf) rfl) ?_
  rw [if_pos hR, if_pos hR]
  exact .z 2 2 rfl (TE.rettc rfl rfl rfl)
theorem near_pf (n : Int) (hn : u64I n) : PF Try.prog 37 [.v (.int .u64 n)] (.v (.int .i64 (nearI n))) := by
 refine PF.enter (fn := Try.f37) Try.func37 rfl Try.ntmps37 rfl (fun w0 => .w ?_)
 refine .q 3 1 rfl rfl (fun h1 => ?_) (fun h1 => ?_)
 ·skip
  have hb : 1152921504606846976 < n := of_decide_eq_true h1
  have e : nearI n = -1 := if_pos hb
  rw [e]
  exact .z 1 1 rfl (TE.retf rfl rfl rfl (by first | trivial | exact pl_v _))
 ·skip
  have hb : ¬ 1152921504606846976 < n := of_decide_eq_false h1
  have e : nearI n = n := if_neg hb
  refine .t 1 1 rfl rfl (.cv (n) rfl (by rw [IntKind.wrap_i64]; have := hn.1; omega)) ?_
  rw [e]
  exact .z 1 1 rfl (TE.retf rfl rfl rfl (by first | trivial | exact pl_v _))
end Go.Proofs.Yteapoemockimfaa

