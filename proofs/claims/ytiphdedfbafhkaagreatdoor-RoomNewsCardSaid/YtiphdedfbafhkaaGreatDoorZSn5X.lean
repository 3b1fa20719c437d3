/- Contracts that the closing theorem wants (Sn5X). No condition beyond each law's own. -/
import Derived.Test.YtiphdedfbafhkaaGreatDoorZSnX
import Derived.Test.YtiphdedfbafhkaaGreatDoorZRgA
namespace Go.Proofs.YtiphdedfbafhkaaGreatDoor
open Go.RowKit

section
variable {c0 c c' : Nat → Nat} {k K : Nat} {w0 w w' : World} {p q gp sh cid x y : Nat} {cl ca sc : Int} {ids : List Int} {la : List Int} {cs : List Value}
/-- What the region that steps the scan loads. -/
def S9 (x p q : Nat) (ao : Option Addr) (n cap : Nat) (m0 : Int) (w : World) : Prop := w.cell? ⟨x, 0, none⟩ = some (.pointer (some ⟨p, 0, none⟩)) ∧ w.cell? ⟨x, 2, none⟩ = some (.slice ao n cap) ∧ w.cell? ⟨x, 3, none⟩ = some (.int .i64 m0) ∧ w.cell? ⟨p, 0, none⟩ = some (.pointer (some ⟨q, 0, none⟩))
end

noncomputable def Tryz.csn9 : Code := (Tryz.f84.body.bind (regionN 9)).getD .skip

section
variable {c c' : Nat → Nat} {k K : Nat} {w w' : World} {p q gp sh cid : Nat} {cl ca sc : Int} {ids : List Int} {la : List Int}
set_option maxRecDepth 100000 in
set_option maxHeartbeats 2000000 in
theorem snstep_nil_full (hi : Int) (h : SnAt c k w p q gp sh cid cl ca sc ids) (ha : ArenaS c K w q la) (hk : 2 ≤ k ∧ 2 ≤ K ∧ k ≠ K ∧ k + 1 ≠ K ∧ k + 2 ≠ K) (hc : cid < la.length) (hs : 0 ≤ sc ∧ sc < 4611686018427387904) (hil : (ids.length : Int) ≤ 1048576) (hids : ids.length = 0) (hh : -1 ≤ hi ∧ hi ≤ 4611686018427387904) (hsh : sh < 21) (hf : (la.getD cid 0) < hi - 2 ^ sh) :
    Calls Tryz.prog 84 #[.agg #[.pointer (some ⟨p, 0, none⟩), .int .i64 hi, .slice none 0 0, .int .i64 0, .bool false, .bool false, .bool false]] w fun e w' => ∃ ao' cap', e = .returned (.tuple #[.agg #[.pointer (some ⟨p, 0, none⟩), .int .i64 hi, .slice ao' ids.length cap', .int .i64 (la.getD cid 0), .bool true, .bool true, .bool true], .nilIface]) ∧ ∃ c', Stp (fun j => j = k ∨ j = K) c c' w w' ∧ SnAt c' k w' p q gp sh cid cl (la.getD cid 0) (sc + 1) ids ∧ ArenaS c' K w' q la := by
  obtain ⟨mv, hmv⟩ : ∃ mv, mv = (la.getD cid 0) := ⟨_, rfl⟩
  rw [← hmv] at hf ⊢
  have HMV := Lib.hid hmv
  have tf : decide (mv < hi - 2 ^ sh) = true := by simpa using hf
  have hp2 := two_pow_bd sh hsh
  have hw1 : -9223372036854775808 ≤ hi - 2 ^ sh ∧ hi - 2 ^ sh ≤ 9223372036854775807 := by omega
  have WS : wrap64 (hi - 2 ^ sh) = hi - 2 ^ sh := IntWalk.wrap64_in _ hw1
  have V1 : IntKind.i64.wrap (hi - 2 ^ sh) = hi - 2 ^ sh := (IntWalk.i64_left _).trans WS
  clear hp2 hw1 hf
  have hw2 : -9223372036854775808 ≤ sc + 1 ∧ sc + 1 ≤ 9223372036854775807 := by clear WS V1; omega
  have WC : wrap64 (sc + 1) = sc + 1 := IntWalk.wrap64_in _ hw2
  clear hw2
  have Hsh := Lib.hid hsh
  have Hk := Lib.hid hk
  have Hc := Lib.hid hc
  have Hil := Lib.hid hil
  obtain ⟨N, hN⟩ : ∃ N, N = ids.length := ⟨_, rfl⟩
  have HN := Lib.hid hN
  have tN : ((N : Int) == 0) = true := by clear WS V1 WC; simp; omega
  rw [← hN]
  have R1 := Lib.hid (ST.start h ha hk (.pointer (some ⟨p, 0, none⟩)) (.int .i64 hi) (.slice none 0 0) (.int .i64 0) (.bool false) (.bool false) (.bool false))
  generalize hcc : paint (paint c w.heap.size 0) (w.heap.size + 1) 0 = c1 at R1
  clear hcc h ha hk hsh hh hc hs hil hids hN hmv
  obtain ⟨x, hx⟩ : ∃ x, x = w.heap.size := ⟨_, rfl⟩
  obtain ⟨y, hy⟩ : ∃ y, y = w.heap.size + 1 := ⟨_, rfl⟩
  go_enter Tryz.func84, Tryz.ntmps84
  go_wp2_with fail
  rw [← hy, ← hx] at R1
  rw [← hy, ← hx]
  clear hx hy
  refine (sndone_any c1 _ _ _ _ _ _ _ _ _ _).mono ?_
  rintro e w2 ⟨rfl, c2, t2⟩
  have R2 := Lib.hid (R1.out.stpF t2)
  clear t2 R1
  obtain ⟨⟨x0, x1', x2, x3, x4, x5, x6⟩, ⟨f0, f1, f2, f3, f4, f5, f6⟩, lx⟩ := R2.out.xs
  obtain ⟨⟨s0, s1, s2, s3, s4, s5, s6⟩, ⟨g3, g4, g6⟩, lp⟩ := R2.out.ss
  obtain ⟨-, -, ly, nxy, nxp, nyp⟩ := R2.out.ys
  have HLD := Lib.hid (fun (W : World) (hW : Stp (fun _ => False) c2 c2 w2 W) => R2.out.load_c rfl Hc.out hW)
  rw [← HMV.out] at HLD
  go_upto_region 4 with fail
  go_region_held3 (fun w' => w'.cell? ⟨x, 0, none⟩ = some (.pointer (some ⟨p, 0, none⟩)) ∧ w'.cell? ⟨p, 0, none⟩ = some (.pointer (some ⟨q, 0, none⟩)) ∧ w'.cell? ⟨p, 2, none⟩ = some (.int .i64 cid))
    (first | exact ⟨by assumption, by assumption, by assumption⟩ | go_keep)
    (first | (go_at_call 37; refine (HLD.out _ (by first | exact (Stp.refl _ _ _).drew | exact Stp.refl _ _ _)).mono ?_; rintro e w3 ⟨rfl, c3, R3, ⟨x0, s0, s2⟩⟩))
  clear HLD x1' x2 x3 x4 x5 x6 f0 f1 f2 f3 f4 f5 f6 lx s1 s3 s4 s5 s6 g3 g4 g6 lp ly nxy nxp nyp x0 s0 s2 R2
  obtain ⟨⟨x0, x1', x2, x3, x4, x5, x6⟩, ⟨f0, f1, f2, f3, f4, f5, f6⟩, lx⟩ := R3.out.xs
  obtain ⟨⟨s0, s1, s2, s3, s4, s5, s6⟩, ⟨g3, g4, g6⟩, lp⟩ := R3.out.ss
  obtain ⟨-, -, ly, nxy, nxp, nyp⟩ := R3.out.ys
  go_wp2_with fail
  have R4 := Lib.hid (R3.out.put_sc (sc + 1))
  clear R3
  clear x0 x1' x2 x3 x4 x5 x6 f0 f1 f2 f3 f4 f5 f6 lx s0 s1 s2 s3 s4 s5 s6 g3 g4 g6 lp ly nxy nxp nyp
  generalize World.setCell _ _ _ = w4 at R4 ⊢
  refine (R4.out.scan_c Hil.out mv).mono ?_
  rw [← HN.out]
  rintro e w5 ⟨ao', cap', rfl, c5, R5, hIn⟩
  have I5 := Lib.hid hIn
  clear hIn R4
  obtain ⟨⟨x0, x1', x2, x3, x4, x5, x6⟩, ⟨f0, f1, f2, f3, f4, f5, f6⟩, lx⟩ := R5.out.xs
  obtain ⟨⟨s0, s1, s2, s3, s4, s5, s6⟩, ⟨g3, g4, g6⟩, lp⟩ := R5.out.ss
  obtain ⟨-, -, ly, nxy, nxp, nyp⟩ := R5.out.ys
  obtain ⟨⟨h0, h1, h2, h3, h4, h5, h6⟩, -, -, -, -, -⟩ := R5.out.ys
  go_wp2_with fail
  have R6 := Lib.hid (((R5.out.put 2 (.slice ao' N cap')).put 3 (.int .i64 mv)).put 4 (.bool true))
  have T6 := Lib.hid (((Stp.refl (· = 0) c5 w5).setCell (p := ⟨x, 2, none⟩) (.slice ao' N cap') R5.out.bx.1).setCell (p := ⟨x, 3, none⟩) (.int .i64 mv) R5.out.bx.1 |>.setCell (p := ⟨x, 4, none⟩) (.bool true) R5.out.bx.1)
  have I6 := Lib.hid (I5.out.stp T6.out (by omega))
  clear R5 I5 T6 h0 h1 h2 h3 h4 h5 h6
  clear x0 x1' x2 x3 x4 x5 x6 f0 f1 f2 f3 f4 f5 f6 lx s0 s1 s2 s3 s4 s5 s6 g3 g4 g6 lp ly nxy nxp nyp
  generalize World.setCell _ _ _ = w6 at R6 I6 ⊢
  refine (scdone_s c5 _ _ _ _ _ tN).mono ?_
  rintro e w7 ⟨rfl, c7, t7⟩
  have R7 := Lib.hid (R6.out.stpF t7)
  have I7 := Lib.hid (I6.out.stp t7 id)
  clear t7 R6 I6
  obtain ⟨⟨x0, x1', x2, x3, x4, x5, x6⟩, ⟨f0, f1, f2, f3, f4, f5, f6⟩, lx⟩ := R7.out.xs
  obtain ⟨⟨s0, s1, s2, s3, s4, s5, s6⟩, ⟨g3, g4, g6⟩, lp⟩ := R7.out.ss
  obtain ⟨-, -, ly, nxy, nxp, nyp⟩ := R7.out.ys
  go_wp2_with fail
  refine (scleast_s c7 _ _ _ _ _).mono ?_
  rintro e w8 ⟨rfl, c8, t8⟩
  have R8 := Lib.hid (R7.out.stpF t8)
  clear t8 R7 I7
  clear x0 x1' x2 x3 x4 x5 x6 f0 f1 f2 f3 f4 f5 f6 lx s0 s1 s2 s3 s4 s5 s6 g3 g4 g6 lp ly nxy nxp nyp
  obtain ⟨⟨x0, x1', x2, x3, x4, x5, x6⟩, ⟨f0, f1, f2, f3, f4, f5, f6⟩, lx⟩ := R8.out.xs
  obtain ⟨⟨s0, s1, s2, s3, s4, s5, s6⟩, ⟨g3, g4, g6⟩, lp⟩ := R8.out.ss
  obtain ⟨-, -, ly, nxy, nxp, nyp⟩ := R8.out.ys
  have npx := Ne.symm nxp
  go_upto_region 15 with fail
  go_region_held3 (fun w' => w'.cell? ⟨x, 0, none⟩ = some (.pointer (some ⟨p, 0, none⟩)) ∧ w'.cell? ⟨x, 1, none⟩ = some (.int .i64 hi) ∧ w'.cell? ⟨p, 1, none⟩ = some (.int .i64 sh))
    (first | exact ⟨by assumption, by assumption, by assumption⟩ | (refine ⟨?_, ?_, ?_⟩ <;> (repeat (first | assumption | refine (World.cell?_setCell_other _ _ _ _ (by simp)).trans ?_))) | go_keep)
    (first | (go_at_call 30; refine Calls.mono (by first | exact R8.out.slots_c Hsh.out rfl (by first | exact (Stp.refl _ _ _).drew | exact Stp.refl _ _ _) | exact (R8.out.put_ca mv).slots_c Hsh.out rfl (by first | exact (Stp.refl _ _ _).drew | exact Stp.refl _ _ _) | exact (R8.out.put 5 (.bool true)).slots_c Hsh.out rfl (by first | exact (Stp.refl _ _ _).drew | exact Stp.refl _ _ _) | exact ((R8.out.put_ca mv).put 5 (.bool true)).slots_c Hsh.out rfl (by first | exact (Stp.refl _ _ _).drew | exact Stp.refl _ _ _) | exact ((R8.out.put 5 (.bool true)).put_ca mv).slots_c Hsh.out rfl (by first | exact (Stp.refl _ _ _).drew | exact Stp.refl _ _ _)) ?_; rintro e w9 ⟨rfl, c9, R9, ⟨x0, x1', s1⟩, ⟨g4, f5, f6⟩, ⟨s4, x5, x6⟩⟩))
  all_goals
    refine out_w (F := Exit.then _ _ Exit.normal _) (G := fun W => Hid (ST c w k K p q gp sh cid cl mv (sc + 1) ids la x y [.pointer (some ⟨p, 0, none⟩), .int .i64 hi, .slice ao' N cap', .int .i64 mv, .bool true, .bool true, .bool true] c9 W)) ?_ ?_
    · first | exact Lib.hid (((R9.out.put_ca mv).put 5 (.bool true)).put 6 (.bool true)) | exact Lib.hid (((R9.out.put_ca mv).put 6 (.bool true)).put 5 (.bool true)) | exact Lib.hid (((R9.out.put 5 (.bool true)).put_ca mv).put 6 (.bool true)) | exact Lib.hid (((R9.out.put 5 (.bool true)).put 6 (.bool true)).put_ca mv) | exact Lib.hid (((R9.out.put 6 (.bool true)).put_ca mv).put 5 (.bool true)) | exact Lib.hid (((R9.out.put 6 (.bool true)).put 5 (.bool true)).put_ca mv) | exact Lib.hid ((R9.out.put_ca mv).put 6 (.bool true)) | exact Lib.hid ((R9.out.put 6 (.bool true)).put_ca mv) | exact Lib.hid ((R9.out.put 5 (.bool true)).put 6 (.bool true)) | exact Lib.hid ((R9.out.put 6 (.bool true)).put 5 (.bool true)) | exact Lib.hid (R9.out.put 6 (.bool true))
    clear R8 R9 npx ly nxy nxp nyp x0 x1' s1 g4 f5 f6 s4 x5 x6
    clear x2 x3 x4 f0 f1 f2 f3 f4 lx s0 s2 s3 s5 s6 g3 g6 lp
    intro w10 R10
    obtain ⟨⟨x0, x1', x2, x3, x4, x5, x6⟩, ⟨f0, f1, f2, f3, f4, f5, f6⟩, lx⟩ := R10.out.xs
    obtain ⟨⟨s0, s1, s2, s3, s4, s5, s6⟩, ⟨g3, g4, g6⟩, lp⟩ := R10.out.ss
    obtain ⟨-, -, ly, nxy, nxp, nyp⟩ := R10.out.ys
    obtain ⟨⟨h0, h1, h2, h3, h4, h5, h6⟩, ⟨k0, k1, k2, k3, k4, k5, k6⟩, -, -, -, -⟩ := R10.out.ys
    have npx := Ne.symm nxp
    have npy := Ne.symm nyp
    have nyx := Ne.symm nxy
    go_wp2
    obtain ⟨c9', Z1, Z2, Z3⟩ := (R10.out).res (.pointer (some ⟨p, 0, none⟩)) (.int .i64 hi) (.slice ao' N cap') (.int .i64 mv) (.bool true) (.bool true) (.bool true)
    exact bodyPost_ret (v := .tuple #[.agg #[.pointer (some ⟨p, 0, none⟩), .int .i64 hi, .slice ao' N cap', .int .i64 mv, .bool true, .bool true, .bool true], .nilIface]) (by clear Z1 Z2 Z3 R10; simp [results, Tryz.results84, go_sem, *]) rfl ⟨ao', cap', rfl, c9', Z1, Z2, Z3⟩

end
end Go.Proofs.YtiphdedfbafhkaaGreatDoor
