/-
  A story's next versions and decisions, as the functions give them.
-/
import Derived.Test.YtkkgjmfnlabbdaaDw
import Derived.Test.YtkkgjmfnlabbdaaWi
namespace Go.Proofs.Ytkkgjmfnlabbdaa
set_option linter.unusedVariables false
set_option linter.unusedSimpArgs false
open Go.RowKit Pl

structure Sto (l w : List UInt8) (kn : List Kn) (ww : List Pe) : Prop where
  dir : KI l kn
  wait : WI l w kn ww
  hm : l.length + w.length ≤ 200
theorem Sto.of (l w : List UInt8) (hl : l.length ≤ 100) (hw : w.length ≤ 100) : Sto l w (storyK 0 [] l) (storyW (storyK 0 [] l) 0 [] w) := ⟨KI.of l (by omega), WI.of l w (by omega), by omega⟩
def lastN (l w : List UInt8) (nm : List UInt8) : Nat := cntN l nm + cntN w nm
def lastK (l w : List UInt8) (nm : List UInt8) : Int := if lastN l w nm = 0 then 0 else keyF nm (lastN l w nm : Int) false
theorem lastK_bd (l w nm) : isU64 (lastK l w nm) := by
  unfold lastK; split
  · exact ⟨by decide, by decide⟩
  · exact keyF_bd _ _ _
section
variable {l w : List UInt8} {kn : List Kn} {ww : List Pe}
theorem Sto.lk (s : Sto l w kn ww) : kn.length ≤ 140737488355328 := by rw [s.dir.len]; have := s.hm; omega
theorem Sto.lw (s : Sto l w kn ww) : ww.length ≤ 140737488355328 := by rw [s.wait.len]; have := s.hm; omega
theorem Sto.vers (s : Sto l w kn ww) : ∀ k ∈ kn, k.ver < 1073741825 := fun k hk => by have := (s.dir.mem k hk).2.1; have := s.hm; omega
theorem Sto.le (s : Sto l w kn ww) (nm : List UInt8) : lastN l w nm ≤ 200 := by have := cntN_le l nm; have := cntN_le w nm; have := s.hm; unfold lastN; omega
theorem Sto.nextR (s : Sto l w kn ww) (nm : List UInt8) : nextR kn ww nm = ((lastN l w nm : Int), lastK l w nm) := Prod.ext (s.wait.nx nm) (s.wait.ky nm)
theorem Sto.nextP (s : Sto l w kn ww) (nm : List UInt8) : nextP kn ww nm = ((lastN l w nm : Int), lastK l w nm) := (nextP_eq s.dir.srt s.vers ww nm).trans (s.nextR nm)
theorem Sto.wrap (s : Sto l w kn ww) (nm : List UInt8) : i64w ((lastN l w nm : Int) + 1) = ((lastN l w nm + 1 : Nat) : Int) := by have := s.le nm; rw [i64w_small (by omega) (by omega)]; omega
theorem nx_pf (s : Sto l w kn ww) (nm : List UInt8) : PF Try.prog 15 [slT Kn.dv 4 kn, slT Pe.dv 9 ww, .v (strV nm)] (.tp [.v (.int .i64 ((lastN l w nm + 1 : Nat) : Int)), .v (.int .u64 (lastK l w nm))]) := by
  have := next_any kn ww nm s.lk s.lw; rwa [s.nextP, s.wrap] at this
theorem rnx_pf (s : Sto l w kn ww) (nm : List UInt8) : PF Try.prog 11 [slT Kn.dv 4 kn, slT Pe.dv 9 ww, .v (strV nm)] (.tp [.v (.int .i64 ((lastN l w nm + 1 : Nat) : Int)), .v (.int .u64 (lastK l w nm))]) := by
  have := rnext_any kn ww nm s.lk s.lw; rwa [s.nextR, s.wrap] at this
theorem dec_pf (s : Sto l w kn ww) {u : Up} {a b : Int} (hu : u.ok) (h : decideR kn ww u = (a, b)) : PF Try.prog 13 [slT Kn.dv 4 kn, slT Pe.dv 9 ww, .ag u.dv] (.tp [.v (.int .i64 a), .v (.int .i64 b)]) := by
  have := decide_any kn ww u s.lk s.lw hu (by rw [s.nextP]; exact lastK_bd _ _ _); rwa [decideP_eq s.dir.srt s.vers, h] at this
theorem rdec_pf (s : Sto l w kn ww) {u : Up} {a b : Int} (hu : u.ok) (h : decideR kn ww u = (a, b)) : PF Try.prog 14 [slT Kn.dv 4 kn, slT Pe.dv 9 ww, .ag u.dv] (.tp [.v (.int .i64 a), .v (.int .i64 b)]) := by
  have := rdecide_any kn ww u s.lk s.lw hu (by rw [s.nextR]; exact lastK_bd _ _ _); rwa [h] at this
theorem upd_pf (s : Sto l w kn ww) (b : UInt8) (v : Int) (c h : Int) (h0 : 1 ≤ v) (h1 : v ≤ 1000) (c0 : 0 ≤ c) (c1 : c < 256) (k0 : 0 ≤ h) : PF Try.prog 12 [.v (strV (nameL b.toNat)), .v (.int .i64 v), .v (.int .u8 c), .v (.int .u8 h)] (.ag (seatU (nameL b.toNat) v c h).dv) :=
  seatUpd_pf _ _ _ _ (by have := (nameL_len (b.toNat : Int)).2; omega) h0 (by omega) c0 c1 k0
theorem okU (b : UInt8) (v c h : Int) (h0 : 1 ≤ v) (h1 : v ≤ 1000) (c0 : 0 ≤ c) : (seatU (nameL b.toNat) v c h).ok := seatU_ok _ _ _ _ (by have := (nameL_len (b.toNat : Int)).2; omega) h0 (by omega) c0
theorem name8_pf (b : UInt8) : PF Try.prog 10 [.v (.int .u8 b.toNat)] (.v (strV (nameL b.toNat))) := name_pf _ (Int.natCast_nonneg _) (by have := UInt8.toNat_lt b; omega)
theorem s_next (s : Sto l w kn ww) (b : UInt8) (c : Int) (hc : 0 ≤ c) : decideR kn ww (seatU (nameL b.toNat) ((lastN l w (nameL b.toNat) + 1 : Nat) : Int) c 0) = (0, 0) := dec_next s.dir s.wait (by have := s.hm; omega) b rfl c hc
theorem s_late (s : Sto l w kn ww) (b : UInt8) (v c h : Int) (hv : ((lastN l w (nameL b.toNat) + 1 : Nat) : Int) < v) (hv2 : v ≤ 1000) (hc : 0 ≤ c) (hh : ¬ h % 8 = 7) : decideR kn ww (seatU (nameL b.toNat) v c h) = (0, 27) := by
  have hl := nameL_len (b.toNat : Int)
  refine dec_late s.dir s.wait (by have := s.hm; omega) (rightU_of ?_ ?_ ?_ ?_ ?_ ?_ ?_) ?_
  · rw [seatU_nm]; exact hl.1
  · rw [seatU_nm]; exact hl.2
  · rw [seatU_ver]; omega
  · rw [seatU_ver]; omega
  · rw [seatU_key]; exact keyF_pos _ _ _
  · rw [seatU_key]; exact keyF_lt _ _ _
  · unfold seatU; rw [if_neg hh]; show c % 2 = 0 ∨ c % 2 = 1; omega
  · rw [seatU_nm, seatU_ver]; unfold lastN at hv; omega
end
theorem p0 : storyW [] 0 [] [0] = [⟨seatU [97] 1 0 0, 0, 0, false⟩] := by
  have e1 : nameL (((0 : UInt8).toNat : Nat) : Int) = [97] := rfl
  have e2 : i64w ((nextR [] [] [97]).1 + 1) = 1 := rfl
  simp only [storyW, storyP, e1, e2, List.nil_append]
  rfl
theorem n0 : nameL (((0 : UInt8).toNat : Nat) : Int) = [97] := rfl
theorem S0 : Sto [] [] [] [] := Sto.of [] [] (by decide) (by decide)
theorem S1 : Sto [] [0] [] [⟨seatU [97] 1 0 0, 0, 0, false⟩] := p0 ▸ Sto.of [] [0] (by decide) (by decide)
theorem lN0 : lastN [] [0] [97] = 1 := rfl
theorem lN1 : lastN [] [] [97] = 0 := rfl
theorem k1 : decideR [] [] (seatU [97] 1 0 0) = (0, 0) := by have := s_next S0 0 0 (Int.le_refl _); rw [n0, lN1] at this; exact this
theorem k3 : decideR [] [⟨seatU [97] 1 0 0, 0, 0, false⟩] (seatU [97] 3 0 0) = (0, 27) := by have := s_late S1 0 3 0 0 (by rw [n0, lN0]; decide) (by decide) (by decide) (by decide); rw [n0] at this; exact this
theorem k4 : decideR [] [⟨seatU [97] 1 0 0, 0, 0, false⟩] (seatU [97] 2 0 0) = (0, 0) := by have := s_next S1 0 0 (Int.le_refl _); rw [n0, lN0] at this; exact this
theorem k2 : decideR [] [⟨seatU [97] 1 0 0, 0, 0, false⟩] (seatU [97] 1 0 0) = (1, 0) := by
  have := dec_wait S1.dir S1.wait (p := ⟨seatU [97] 1 0 0, 0, 0, false⟩) (by simp) (u := seatU [97] 1 0 0) (rightU_of ?_ ?_ ?_ ?_ ?_ ?_ ?_) rfl rfl
  · rw [this]; unfold same; rw [if_pos rfl]
  · rw [seatU_nm]; decide
  · rw [seatU_nm]; decide
  · rw [seatU_ver]; decide
  · rw [seatU_ver]; decide
  · rw [seatU_key]; exact keyF_pos _ _ _
  · rw [seatU_key]; exact keyF_lt _ _ _
  · unfold seatU; rw [if_neg (by decide)]; exact .inl rfl
theorem ok1 (v : Int) (h0 : 1 ≤ v) (h1 : v ≤ 1000) : (seatU [97] v 0 0).ok := okU 0 v 0 0 h0 h1 (Int.le_refl _)
theorem upd1 (v : Int) (h0 : 1 ≤ v) (h1 : v ≤ 1000) : PF Try.prog 12 [.v (strV [97]), .v (.int .i64 v), .v (.int .u8 0), .v (.int .u8 0)] (.ag (seatU [97] v 0 0).dv) := upd_pf S0 0 v 0 0 h0 h1 (Int.le_refl _) (by decide) (Int.le_refl _)
theorem nx1 : PF Try.prog 15 [slT Kn.dv 4 [], slT Pe.dv 9 [⟨seatU [97] 1 0 0, 0, 0, false⟩], .v (strV [97])] (.tp [.v (.int .i64 2), .v (.int .u64 (keyF [97] 1 false))]) := by
  have e : lastK [] [0] [97] = keyF [97] 1 false := by unfold lastK; rw [lN0, if_neg (by decide)]; rfl
  have := nx_pf S1 [97]; rw [lN0, e] at this; exact this
def sdv (s : List UInt8) : List DV := [.v (strV s)]
def and3 (x : Int) : Int := IntKind.i64.wrap (BitVec.ofInt IntKind.i64.bits x &&& BitVec.ofInt IntKind.i64.bits 3).toNat
theorem and3_bd (x : Int) : 0 ≤ and3 x ∧ and3 x ≤ 3 := by
  unfold and3
  have h : (BitVec.ofInt IntKind.i64.bits x &&& BitVec.ofInt IntKind.i64.bits 3).toNat ≤ 3 := by
    rw [BitVec.toNat_and]
    exact Nat.le_trans Nat.and_le_right (by decide)
  generalize (BitVec.ofInt IntKind.i64.bits x &&& BitVec.ofInt IntKind.i64.bits 3).toNat = m at *
  rw [IntKind.wrap_i64]; omega
theorem nameL_eq (a b : Int) : nameL a = nameL b ↔ a % 6 = b % 6 := by
  constructor
  · have ha : a % 6 = 0 ∨ a % 6 = 1 ∨ a % 6 = 2 ∨ a % 6 = 3 ∨ a % 6 = 4 ∨ a % 6 = 5 := by omega
    have hb : b % 6 = 0 ∨ b % 6 = 1 ∨ b % 6 = 2 ∨ b % 6 = 3 ∨ b % 6 = 4 ∨ b % 6 = 5 := by omega
    unfold nameL
    rcases ha with h | h | h | h | h | h <;> rcases hb with k | k | k | k | k | k <;> simp [h, k]
  · intro h; unfold nameL; rw [h]
theorem cnt_next {l : List UInt8} {i : Nat} (h : i < l.length) (k : UInt8) : cntN (l.take (i + 1)) (nameL k.toNat) = cntN (l.take i) (nameL k.toNat) + if (l[i].toNat : Int) % 6 = (k.toNat : Int) % 6 then 1 else 0 := by
  rw [take_snoc' h, cntN_snoc]
  by_cases e : (l[i].toNat : Int) % 6 = (k.toNat : Int) % 6
  · rw [if_pos e, if_pos ((nameL_eq _ _).2 e)]
  · rw [if_neg e, if_neg (fun q => e ((nameL_eq _ _).1 q))]
theorem Up.inn.ok {u : Up} (h : u.inn) (hn : u.nm.length ≤ 40) : u.ok := ⟨by omega, h.ver, h.key, h.cls, h.r, h.s⟩
end Go.Proofs.Ytkkgjmfnlabbdaa
