/- Contracts that the closing theorem wants (Jq). No condition beyond each law's own. -/
import Derived.Test.YtiphdedfbafhkaaGreatDoorZRpX
import Derived.Test.YtiphdedfbafhkaaGreatDoorZBA
import Derived.Test.YtiphdedfbafhkaaGreatDoorZRgA
import Derived.Test.YtiphdedfbafhkaaGreatDoorYJn1
import Derived.Test.YtiphdedfbafhkaaGreatDoorZDoc
namespace Go.Proofs.YtiphdedfbafhkaaGreatDoor
open Go.RowKit

section
variable {c c' : Nat → Nat} {K : Nat} {w w' : World} {r ar ck tb : Nat} {la : List Int} {now : Int} {tl : List Tm} {l : List One} {D : List RD} {ao : Option Addr} {cap i : Nat} {d : RD}
set_option maxRecDepth 100000 in
theorem rring_kind (h : RMs c K w r ar ck tb la now tl l D ao cap) (n kd : Int) (hk : kd < 0 ∨ 1 < kd) :
    Calls Tryz.prog 7 #[.pointer (some ⟨r, 0, none⟩), .int .i64 n, .int .i64 kd] w fun e w' => ∃ ev, e = .returned (.tuple #[.int .i64 0, ev]) ∧ ∃ c', Stp (fun _ => False) c c' w w' ∧ RMs c' K w' r ar ck tb la now tl l D ao cap ∧ ErrAt c' w' ev 1 := by
  have H := Lib.hid h
  have g0 : (kd != 0) = true := by simp; omega
  have g1 : (kd != 1) = true := by simp; omega
  clear h hk
  go_enter Tryz.func7, Tryz.ntmps7
  go_wp2_with (go_at_call 50; refine (wrap_some _ _ _ _ _).mono ?_; rintro e w' ⟨rfl, rfl⟩)
  go_ret2
  have t := (Stp.refl (fun _ => False) c w).alloc (.cells #[.string ⟨#[114, 105, 110, 103]⟩, .int .i64 kd, .iface 98 (.int .i64 1)] 181) 1
  exact ⟨_, rfl, _, t, H.out.stpF t, ErrAt.new _ _ _ _ _⟩
set_option maxRecDepth 100000 in
theorem rring_size (h : RMs c K w r ar ck tb la now tl l D ao cap) (n kd : Int) (hk : kd = 0 ∨ kd = 1) (hn : NoPow n) :
    Calls Tryz.prog 7 #[.pointer (some ⟨r, 0, none⟩), .int .i64 n, .int .i64 kd] w fun e w' => ∃ ev, e = .returned (.tuple #[.int .i64 0, ev]) ∧ ∃ c', Stp (fun _ => False) c c' w w' ∧ RMs c' K w' r ar ck tb la now tl l D ao cap ∧ ErrAt c' w' ev 7 := by
  have H := Lib.hid h
  have HN := Lib.hid hn
  clear h hn
  rcases hk with rfl | rfl
  all_goals
    go_enter Tryz.func7, Tryz.ntmps7
    go_wp2_with fail
    refine (of_bad c n HN.out w).mono ?_
    rintro e w1 ⟨ev, rfl, c1, t1, e1⟩
    obtain ⟨tt, vv, rfl⟩ : ∃ tt vv, ev = .iface tt vv := by
      rcases e1 with e1 | ⟨_, _, _, e1, -⟩
      · exact ⟨_, _, e1⟩
      · exact ⟨_, _, e1⟩
    obtain ⟨c2, -, t2⟩ := (t1.alloc (.cells #[.int .i64 0] 65) 0).name
    have E2 := Lib.hid (e1.stp ((Stp.refl (fun _ => False) c1 w1).alloc (.cells #[.int .i64 0] 65) 0) id)
    have T1 := Lib.hid t1
    have E1 := Lib.hid e1
    clear t1 e1
    go_wp2
    go_ret2
    first
      | exact ⟨_, rfl, _, T1.out, H.out.stpF T1.out, E1.out⟩
      | exact ⟨_, rfl, _, T1.out.alloc _ 0, H.out.stpF (T1.out.alloc _ 0), E2.out⟩
set_option maxRecDepth 100000 in
theorem rring_many (h : RMs c K w r ar ck tb la now tl l D ao cap) (n kd : Int) (hk : kd = 0 ∨ kd = 1) (sh : Nat) (hsh : sh < 21) (hn : n = ((2 ^ sh : Nat) : Int)) (ht : Tab w) (hD : 8 ≤ D.length) :
    Calls Tryz.prog 7 #[.pointer (some ⟨r, 0, none⟩), .int .i64 n, .int .i64 kd] w fun e w' => ∃ ev, e = .returned (.tuple #[.int .i64 0, ev]) ∧ ∃ c', Stp (fun _ => False) c c' w w' ∧ RMs c' K w' r ar ck tb la now tl l D ao cap ∧ ErrAt c' w' ev 8 := by
  subst hn
  have H := Lib.hid h
  have HT := Lib.hid ht
  have g8 : decide ((8 : Int) ≤ (D.length : Int)) = true := by simp; omega
  have g9 : (8 : Int) ≤ (D.length : Int) := by omega
  clear h ht hD
  rcases hk with rfl | rfl
  all_goals
    go_enter Tryz.func7, Tryz.ntmps7
    go_wp2_with fail
    refine (of_pow c sh hsh w HT.out).mono ?_
    rintro e w1 ⟨rfl, c1, s1⟩
    obtain ⟨c2, -, A2⟩ := (s1.alloc (.cells #[.int .i64 sh] 65) 0).name
    have H2 := Lib.hid (H.out.stpF A2.out)
    have r3 := H2.out.rm.rb.cell 3
    simp at r3
    clear s1
    go_wp2_with (go_at_call 50; refine (wrap_some _ _ _ _ _).mono ?_; rintro e w' ⟨rfl, rfl⟩)
    go_ret2
    exact ⟨_, rfl, paint c2 (w1.heap.size + 1) 1, Stp.allocG A2.out (by simp), H.out.stpF (Stp.allocG A2.out (by simp)), ErrAt.newAt (by simp) (by simp)⟩
theorem rwaiting_c (h : RMs c K w r ar ck tb la now tl l D ao cap) (hd : D[i]? = some d) (k2 : Nat) (hlen : d.wl.length ≤ 100) :
    Calls Tryz.prog 25 #[.pointer (some ⟨r, 0, none⟩), .int .i64 (i : Int)] w fun e w' => ∃ ao' cap', e = .returned (.slice ao' d.wl.length cap') ∧ ∃ c', Stp (fun _ => False) c c' w w' ∧ Row c' k2 w' 3 1 ao' d.wl.length cap' (d.wl.map (Value.int .i64)) := by
  obtain ⟨-, -, -, -, c4, lg⟩ := ring_cells (h.rg i d hd).gb
  have HA := Lib.hid (rat_c h hd)
  have HC := Lib.hid (clone_in ((h.rg i d hd).wr.toIn) k2 (by omega))
  clear h hd hlen
  go_enter Tryz.func25, Tryz.ntmps25
  go_wp2_with fail
  refine HA.out.mono ?_
  rintro e w1 ⟨rfl, rfl⟩
  go_wp2_with fail
  refine HC.out.mono ?_
  rintro e w2 ⟨ao', cap', rfl, c2, t2, i2⟩
  go_wp2
  go_ret
  exact ⟨_, _, rfl, c2, t2, i2⟩
theorem radd_ok (h : RMs c K w r ar ck tb la now tl l D ao cap) (hl : l.length < 64) :
    Calls Tryz.prog 78 #[.pointer (some ⟨tb, 0, none⟩)] w fun e w' => e = .returned (.tuple #[.int .i64 l.length, .nilIface]) ∧ ∃ c', Stp (JR K) c c' w w' ∧ RMs c' K w' r ar ck tb la now tl (l ++ [⟨0, false, 0⟩]) D ao cap := by
  refine (aadd_ok h.rm.ta (by omega)).mono ?_
  rintro e w1 ⟨rfl, c1, t1, a1⟩
  exact ⟨rfl, c1, t1.mono JR.t, h.go (t1.mono JR.t) (h.rm.table t1 a1)⟩
end

set_option maxRecDepth 100000 in
theorem rcdone_z (c : Nat → Nat) (w : World) :
    Calls Tryz.prog 39 #[.agg #[.bool false, .pointer none, .int .i64 0, .slice none 0 0, .int .i64 0, .bool false, .bool false, .bool false, .pointer none, .int .i64 0, .int .i64 0, .int .i64 0, .int .i64 0, .slice none 0 0, .int .i64 0]] w fun e w' => e = .returned (.bool true) ∧ ∃ c', Stp (fun _ => False) c c' w w' := by
  obtain ⟨c1, -, S1⟩ := ((Stp.refl (fun _ => False) c w).alloc (.cells #[.bool false, .pointer none, .int .i64 0, .slice none 0 0, .int .i64 0, .bool false, .bool false, .bool false, .pointer none, .int .i64 0, .int .i64 0, .int .i64 0, .int .i64 0, .slice none 0 0, .int .i64 0] 38) 0).name
  have HZ := Lib.hid (fun (c : Nat → Nat) (W : World) => show Calls Tryz.prog 82 #[.agg #[.pointer none, .int .i64 0, .slice none 0 0, .int .i64 0, .bool false, .bool false, .bool false]] W fun e w' => e = .returned (.bool true) ∧ ∃ c', Stp (fun _ => False) c c' W w' by
    have S := Lib.hid ((Stp.refl (fun _ => False) c W).alloc (.cells #[.pointer none, .int .i64 0, .slice none 0 0, .int .i64 0, .bool false, .bool false, .bool false] 33) 0)
    go_enter Tryz.func82, Tryz.ntmps82
    go_wp2
    go_ret
    exact ⟨by first | rfl | simp, _, S.out⟩)
  go_enter Tryz.func39, Tryz.ntmps39
  go_wp2_with fail
  refine (HZ.out c1 _).mono ?_
  rintro e w2 ⟨rfl, c2, t2⟩
  go_wp2
  go_ret
  exact ⟨by first | rfl | simp, c2, (S1.out.trans t2)⟩
set_option maxRecDepth 100000 in
theorem rclast_z (c : Nat → Nat) (w : World) :
    Calls Tryz.prog 133 #[.agg #[.bool false, .pointer none, .int .i64 0, .slice none 0 0, .int .i64 0, .bool false, .bool false, .bool false, .pointer none, .int .i64 0, .int .i64 0, .int .i64 0, .int .i64 0, .slice none 0 0, .int .i64 0]] w fun e w' => e = .returned (.int .i64 (-1)) ∧ ∃ c', Stp (fun _ => False) c c' w w' := by
  obtain ⟨c1, -, S1⟩ := ((Stp.refl (fun _ => False) c w).alloc (.cells #[.bool false, .pointer none, .int .i64 0, .slice none 0 0, .int .i64 0, .bool false, .bool false, .bool false, .pointer none, .int .i64 0, .int .i64 0, .int .i64 0, .int .i64 0, .slice none 0 0, .int .i64 0] 38) 0).name
  go_enter Tryz.func133, Tryz.ntmps133
  go_wp2_with fail
  refine (snlast_any c1 none 0 none 0 0 0 false false false _).mono ?_
  rintro e w2 ⟨rfl, c2, t2⟩
  go_wp2
  go_ret
  exact ⟨by first | rfl | simp, c2, (S1.out.trans t2)⟩
end Go.Proofs.YtiphdedfbafhkaaGreatDoor

namespace Go.Proofs.YtiphdedfbafhkaaGreatDoor
open Go.RowKit

section
variable {c c' : Nat → Nat} {K : Nat} {w w' : World} {r ar ck tb : Nat} {la la' : List Int} {now : Int} {tl : List Tm} {l : List One} {D : List RD} {ao ao' : Option Addr} {cap cap' i : Nat} {d : RD}
theorem Tryz.infoPringKm2 : (Tryz.prog.info? 105).map (fun i => (i.zero, i.size, i.bytes)) = some (some (.pointer none), 1, 8) := by kernel_rfl

set_option maxRecDepth 100000 in
set_option maxHeartbeats 4000000 in
theorem rring_m2 (h : RMs c K w r ar ck tb la now tl l D ao cap) (hD : D.length < 8) {j : Int} (hj : (D.length : Int) = j) (sh : Nat) (hsh : sh < 21) (hl : (la.length : Int) + 2 + 2 ^ sh ≤ 2097152) (ht : Tab w) (hc : c 1 = 0) (hK : 2 ≤ K) {n : Int} (hn : n = ((2 ^ sh : Nat) : Int)) :
    Calls Tryz.prog 7 #[.pointer (some ⟨r, 0, none⟩), .int .i64 n, .int .i64 1] w fun e w' => e = .returned (.tuple #[.int .i64 j, .nilIface]) ∧ ∃ (g sp : Nat) (mp bp gp : Nat) (ao' : Option Addr) (cap' : Nat), ∃ c', Stp (fun j => j = K ∨ j = K + 6 ∨ j = K + 10 ∨ K + 20 + 10 * D.length ≤ j) c c' w w' ∧ RMs c' K w' r ar ck tb (la ++ [-1] ++ [-1] ++ List.replicate (2 ^ sh) (-1)) now tl l (D ++ [⟨true, sh, g, .pointer (some ⟨sp, 0, none⟩), mp, bp, gp, la.length, la.length + 1, la.length + 2, 0, 0, 0, [], [], none, 0⟩]) ao' cap' ∧ RingAt c' (kb K D.length + 5) w' sp sh (List.replicate (2 ^ sh) ⟨0, 0⟩) := by
  subst hn hj
  have H := Lib.hid h
  have HT := Lib.hid ht
  have Hc := Lib.hid hc
  have HK := Lib.hid hK
  have Hsh := Lib.hid hsh
  have Hl := Lib.hid hl
  have g8 : decide ((8 : Int) ≤ (D.length : Int)) = false := by simp; omega
  have g9 : wrap64 ((D.length : Int) + 1 - 1) = D.length := by rw [show (D.length : Int) + 1 - 1 = D.length by omega]; exact IntWalk.wrap64_in _ (by constructor <;> omega)
  have g10 : IntKind.i64.wrap ((D.length : Int) + 1 - 1) = D.length := (IntWalk.i64_left _).trans g9
  have g11 : wrap64 (D.length : Int) = D.length := IntWalk.wrap64_in _ (by constructor <;> omega)
  have d2 := Lib.hid (show D.length + 1 ≤ maxLen by have : 8 ≤ maxLen := by decide
                                                    omega)
  have d3 := Lib.hid (show (D.length + 1) * 8 ≤ 140737488355328 by omega)
  clear h ht hc hK hD hsh hl
  go_enter Tryz.func7, Tryz.ntmps7
  go_wp2_with fail
  refine (of_pow c sh Hsh.out w HT.out).mono ?_
  rintro e w1 ⟨rfl, c1, s1⟩
  obtain ⟨c2, -, A2⟩ := (s1.alloc (.cells #[.int .i64 sh] 65) 0).name
  have H2 := Lib.hid (H.out.stpF A2.out)
  have r3 := H2.out.rm.rb.cell 3
  simp at r3
  clear s1
  obtain ⟨c3, hc3, A3⟩ := (A2.out.alloc (.cells #[.int .i64 1, .pointer none, .pointer none, .pointer none, .slice none 0 0] 107) (kb K D.length)).name
  have H3 := Lib.hid (H.out.stpF A3.out)
  have r0 := H3.out.rm.rb.cell 0
  simp at r0
  have lr := H2.out.rm.rb.lt
  have hne : (w1.alloc (.cells #[.int .i64 sh] 65)).heap.size ≠ r := by omega
  go_wp2_with fail
  obtain ⟨sA, aA⟩ := H3.out.rm.aa
  have hT3 : Tab ((w1.alloc (.cells #[.int .i64 sh] 65)).alloc (.cells #[.int .i64 1, .pointer none, .pointer none, .pointer none, .slice none 0 0] 107)) := HT.out.stp A3.out id
  refine (mnew_ok (m := ((2 ^ sh : Nat) : Int)) aA sh Hsh.out Hl.out hT3 (by simp)).mono ?_
  rintro e w4 ⟨mp, bp, gp, rfl, c4, s4, a4, q4⟩
  have X3 := Blk.new c2 (kb K D.length) (w1.alloc (.cells #[.int .i64 sh] 65)) [.int .i64 1, .pointer none, .pointer none, .pointer none, .slice none 0 0] 107
  have hX3 : Blk c3 (kb K D.length) ((w1.alloc (.cells #[.int .i64 sh] 65)).alloc (.cells #[.int .i64 1, .pointer none, .pointer none, .pointer none, .slice none 0 0] 107)) (w1.heap.size + 1) [.int .i64 1, .pointer none, .pointer none, .pointer none, .slice none 0 0] 107 := by
    have e : (w1.alloc (.cells #[.int .i64 sh] 65)).heap.size = w1.heap.size + 1 := by simp
    rw [← e, hc3.out]
    exact X3
  have X4 := Lib.hid (hX3.stp s4 (by unfold kb; omega))
  have H4 := Lib.hid (H3.out.arena s4 ⟨_, a4⟩)
  have Q := Lib.hid q4
  have S4 := Lib.hid ((A3.out.mono (J' := (fun j => j = K ∨ j = K + 6 ∨ j = K + 10 ∨ K + 20 + 10 * D.length ≤ j)) (fun _ h => h.elim)).trans (s4.mono (fun j hj => by omega)))
  have x3 := X4.out.cell 3
  have f3 := X4.out.free 3
  simp at x3
  have hxr : w1.heap.size + 1 ≠ r := by simp at lr; omega
  clear X3 hX3 s4 a4 q4 hT3 aA r3 r0 lr hne
  generalize w1.heap.size + 1 = xb at *
  go_wp2_with fail
  have hT5 : Tab (w4.setCell ⟨xb, 3, none⟩ (.pointer (some ⟨mp, 0, none⟩))) := HT.out.stp (S4.out.setCell (p := ⟨xb, 3, none⟩) _ (by rw [X4.out.1]; unfold kb; omega)) (by rw [Hc.out]; have := HK.out; omega)
  refine (slnew_n c4 (kb K D.length + 5) sh (2 ^ sh) Hsh.out rfl _ hT5).mono ?_
  rintro e w5 ⟨sp, rfl, c5, s5, g5⟩
  have X5 := Lib.hid ((X4.out.set 3 (.pointer (some ⟨mp, 0, none⟩))).stp s5 id)
  have T45 := Lib.hid (((Stp.refl (· = kb K D.length) c4 w4).setCell (p := ⟨xb, 3, none⟩) (.pointer (some ⟨mp, 0, none⟩)) X4.out.1).trans (s5.mono (fun _ h => h.elim)))
  have H5 := Lib.hid (H4.out.stpN T45.out (fun j hj => .inr (by omega)))
  have Q5 := Lib.hid (show SeqIs c5 (K + 11) w5 mp ar bp gp ⟨sh, la.length, la.length + 1, la.length + 2, []⟩ from (Q.out.stp T45.out (by first | omega | (unfold kb; omega)) (by first | omega | (unfold kb; omega)) (by first | omega | (unfold kb; omega))))
  have G5 := Lib.hid g5
  have S5 := Lib.hid (S4.out.trans (T45.out.mono (fun j hj => by unfold kb at hj; omega)))
  have x1 := X5.out.cell 1
  have f1 := X5.out.free 1
  simp at x1
  clear s5 hT5 x3 f3 Q g5
  have T6 := Lib.hid ((Stp.refl (· = kb K D.length) c5 w5).setCell (p := ⟨xb, 1, none⟩) (.pointer (some ⟨sp, 0, none⟩)) X5.out.1)
  have H6 := Lib.hid (H5.out.stpN T6.out (fun j hj => .inr (by omega)))
  have X6 := Lib.hid (X5.out.set 1 (.pointer (some ⟨sp, 0, none⟩)))
  have Q := Lib.hid Q5.out
  have Q6 := Lib.hid (show SeqIs c5 (K + 11) (w5.setCell ⟨xb, 1, none⟩ (.pointer (some ⟨sp, 0, none⟩))) mp ar bp gp ⟨sh, la.length, la.length + 1, la.length + 2, []⟩ from (Q.out.stp T6.out (by first | omega | (unfold kb; omega)) (by first | omega | (unfold kb; omega)) (by first | omega | (unfold kb; omega))))
  have G6 := Lib.hid (G5.out.stp T6.out (by unfold kb; omega))
  have S6 := Lib.hid (S5.out.trans (T6.out.mono (fun j hj => by unfold kb at hj; omega)))
  have r3 := H6.out.rm.rb.cell 3
  simp at r3
  clear Q Q5 G5
  go_wp2_with (at_builtin; refine wpList_append_row _ rfl (.tmp 92) (.tmp 94) 102 rfl (paint c5 (w5.setCell ⟨xb, 1, none⟩ (.pointer (some ⟨sp, 0, none⟩))).heap.size (K + 6)) (K + 6) 105 (.pointer none) 1 8 Tryz.underlying102 Tryz.infoPringKm2 rfl ao D.length cap (D.map fun d => Value.pointer (some ⟨d.g, 0, none⟩)) rfl (H6.out.rr.stp ((Stp.refl (fun _ => False) c5 (w5.setCell ⟨xb, 1, none⟩ (.pointer (some ⟨sp, 0, none⟩)))).alloc (.cells #[.pointer (some ⟨xb, 0, none⟩)] 105) (K + 6)) id) _ 1 [.pointer (some ⟨xb, 0, none⟩)] rfl (Src.oneAt (by simp)) (by simp [Value.oneCell']) d2.out d3.out ?_)
  rintro so2 sc2 w6 r6 s6 -
  have T0 : Stp (· = K + 6) c5 (paint c5 w5.heap.size (K + 6)) (w5.setCell ⟨xb, 1, none⟩ (.pointer (some ⟨sp, 0, none⟩))) ((w5.setCell ⟨xb, 1, none⟩ (.pointer (some ⟨sp, 0, none⟩))).alloc (.cells #[.pointer (some ⟨xb, 0, none⟩)] 105)) := by
    have := (Stp.refl (· = K + 6) c5 (w5.setCell ⟨xb, 1, none⟩ (.pointer (some ⟨sp, 0, none⟩)))).alloc (.cells #[.pointer (some ⟨xb, 0, none⟩)] 105) (K + 6)
    rwa [show (w5.setCell ⟨xb, 1, none⟩ (.pointer (some ⟨sp, 0, none⟩))).heap.size = w5.heap.size by simp [World.setCell]] at this
  have T7 := Lib.hid (T0.trans s6)
  obtain ⟨c7, hc7⟩ : ∃ c7, c7 = paint (paint c5 w5.heap.size (K + 6)) (w5.heap.size + 1) (K + 6) := ⟨_, rfl⟩
  rw [← hc7] at T7 r6
  have R7 := Lib.hid r6
  have X7 := Lib.hid (X6.out.stp T7.out (by unfold kb; omega))
  have B7 := Lib.hid (H6.out.rm.rb.stp T7.out (by omega))
  have Q := Lib.hid Q6.out
  have Q7 := Lib.hid (show SeqIs c7 (K + 11) w6 mp ar bp gp ⟨sh, la.length, la.length + 1, la.length + 2, []⟩ from (Q.out.stp T7.out (by first | omega | (unfold kb; omega)) (by first | omega | (unfold kb; omega)) (by first | omega | (unfold kb; omega))))
  have G7 := Lib.hid (G6.out.stp T7.out (by unfold kb; omega))
  have S7 := Lib.hid (S6.out.trans (T7.out.mono (fun j hj => by omega)))
  have r3 := B7.out.cell 3
  have g3 := B7.out.free 3
  simp at r3
  clear r6 s6 hc7 x1 f1 T0 Q Q6 G6
  go_wp2
  simp only [g11]
  go_ret2
  have T8 := (Stp.refl (· = K) c7 w6).setCell (p := ⟨r, 3, none⟩) (.slice so2 (D.length + 1) sc2) B7.out.1
  have X8 := X7.out.stp T8 (by unfold kb; omega)
  refine ⟨rfl, xb, sp, mp, bp, gp, so2, sc2, c7, S7.out.trans (T8.mono (fun j hj => by omega)), ?_, G7.out.stp T8 (by unfold kb; omega)⟩
  refine RMs.grow H6.out (T7.out.mono (J' := fun j => j = K ∨ j = K + 6) (fun j hj => .inr hj) |>.trans (T8.mono (fun j hj => .inl hj))) (fun _ h => h) (B7.out.set 3 _) (R7.out.stp T8 (by omega)) ⟨X8, Row.nil _ _ _ _ _, ?_, ?_⟩
  · intro e
    have Q := Q7
    exact (Q.out.stp T8 (by first | omega | (unfold kb; omega)) (by first | omega | (unfold kb; omega)) (by first | omega | (unfold kb; omega)))
  · intro e
    cases e
    

theorem Tryz.infoPringKs2 : (Tryz.prog.info? 105).map (fun i => (i.zero, i.size, i.bytes)) = some (some (.pointer none), 1, 8) := by kernel_rfl

set_option maxRecDepth 100000 in
set_option maxHeartbeats 4000000 in
theorem rring_s2 (h : RMs c K w r ar ck tb la now tl l D ao cap) (hD : D.length < 8) {j : Int} (hj : (D.length : Int) = j) (sh : Nat) (hsh : sh < 21) (hl : (la.length : Int) < 2097152) (ht : Tab w) (hc : c 1 = 0) (hK : 2 ≤ K) {n : Int} (hn : n = ((2 ^ sh : Nat) : Int)) :
    Calls Tryz.prog 7 #[.pointer (some ⟨r, 0, none⟩), .int .i64 n, .int .i64 0] w fun e w' => e = .returned (.tuple #[.int .i64 j, .nilIface]) ∧ ∃ (g sp : Nat) (mp gp : Nat) (ao' : Option Addr) (cap' : Nat), ∃ c', Stp (fun j => j = K ∨ j = K + 6 ∨ j = K + 10 ∨ K + 20 + 10 * D.length ≤ j) c c' w w' ∧ RMs c' K w' r ar ck tb (la ++ [-1]) now tl l (D ++ [⟨false, sh, g, .pointer (some ⟨sp, 0, none⟩), mp, 0, gp, la.length, 0, 0, -1, -1, 0, [], [], none, 0⟩]) ao' cap' ∧ RingAt c' (kb K D.length + 5) w' sp sh (List.replicate (2 ^ sh) ⟨0, 0⟩) := by
  subst hn hj
  have H := Lib.hid h
  have HT := Lib.hid ht
  have Hc := Lib.hid hc
  have HK := Lib.hid hK
  have Hsh := Lib.hid hsh
  have Hl := Lib.hid hl
  have g8 : decide ((8 : Int) ≤ (D.length : Int)) = false := by simp; omega
  have g9 : wrap64 ((D.length : Int) + 1 - 1) = D.length := by rw [show (D.length : Int) + 1 - 1 = D.length by omega]; exact IntWalk.wrap64_in _ (by constructor <;> omega)
  have g10 : IntKind.i64.wrap ((D.length : Int) + 1 - 1) = D.length := (IntWalk.i64_left _).trans g9
  have g11 : wrap64 (D.length : Int) = D.length := IntWalk.wrap64_in _ (by constructor <;> omega)
  have d2 := Lib.hid (show D.length + 1 ≤ maxLen by have : 8 ≤ maxLen := by decide
                                                    omega)
  have d3 := Lib.hid (show (D.length + 1) * 8 ≤ 140737488355328 by omega)
  clear h ht hc hK hD hsh hl
  go_enter Tryz.func7, Tryz.ntmps7
  go_wp2_with fail
  refine (of_pow c sh Hsh.out w HT.out).mono ?_
  rintro e w1 ⟨rfl, c1, s1⟩
  obtain ⟨c2, -, A2⟩ := (s1.alloc (.cells #[.int .i64 sh] 65) 0).name
  have H2 := Lib.hid (H.out.stpF A2.out)
  have r3 := H2.out.rm.rb.cell 3
  simp at r3
  clear s1
  obtain ⟨c3, hc3, A3⟩ := (A2.out.alloc (.cells #[.int .i64 0, .pointer none, .pointer none, .pointer none, .slice none 0 0] 107) (kb K D.length)).name
  have H3 := Lib.hid (H.out.stpF A3.out)
  have r0 := H3.out.rm.rb.cell 0
  simp at r0
  have lr := H2.out.rm.rb.lt
  have hne : (w1.alloc (.cells #[.int .i64 sh] 65)).heap.size ≠ r := by omega
  go_wp2_with fail
  obtain ⟨sA, aA⟩ := H3.out.rm.aa
  have hT3 : Tab ((w1.alloc (.cells #[.int .i64 sh] 65)).alloc (.cells #[.int .i64 0, .pointer none, .pointer none, .pointer none, .slice none 0 0] 107)) := HT.out.stp A3.out id
  refine (snnew_ok (m := ((2 ^ sh : Nat) : Int)) aA sh Hsh.out Hl.out hT3 (kb K D.length + 2) (by unfold kb; omega) (by unfold kb; omega) rfl).mono ?_
  rintro e w4 ⟨mp, gp, rfl, c4, s4, a4, q4⟩
  have X3 := Blk.new c2 (kb K D.length) (w1.alloc (.cells #[.int .i64 sh] 65)) [.int .i64 0, .pointer none, .pointer none, .pointer none, .slice none 0 0] 107
  have hX3 : Blk c3 (kb K D.length) ((w1.alloc (.cells #[.int .i64 sh] 65)).alloc (.cells #[.int .i64 0, .pointer none, .pointer none, .pointer none, .slice none 0 0] 107)) (w1.heap.size + 1) [.int .i64 0, .pointer none, .pointer none, .pointer none, .slice none 0 0] 107 := by
    have e : (w1.alloc (.cells #[.int .i64 sh] 65)).heap.size = w1.heap.size + 1 := by simp
    rw [← e, hc3.out]
    exact X3
  have X4 := Lib.hid (hX3.stp s4 (by unfold kb; omega))
  have H4 := Lib.hid (H3.out.arena s4 ⟨_, a4⟩)
  have Q := Lib.hid q4
  have S4 := Lib.hid ((A3.out.mono (J' := (fun j => j = K ∨ j = K + 6 ∨ j = K + 10 ∨ K + 20 + 10 * D.length ≤ j)) (fun _ h => h.elim)).trans (s4.mono (fun j hj => by omega)))
  have x3 := X4.out.cell 2
  have f3 := X4.out.free 2
  simp at x3
  have hxr : w1.heap.size + 1 ≠ r := by simp at lr; omega
  clear X3 hX3 s4 a4 q4 hT3 aA r3 r0 lr hne
  generalize w1.heap.size + 1 = xb at *
  go_wp2_with fail
  have hT5 : Tab (w4.setCell ⟨xb, 2, none⟩ (.pointer (some ⟨mp, 0, none⟩))) := HT.out.stp (S4.out.setCell (p := ⟨xb, 2, none⟩) _ (by rw [X4.out.1]; unfold kb; omega)) (by rw [Hc.out]; have := HK.out; omega)
  refine (slnew_n c4 (kb K D.length + 5) sh (2 ^ sh) Hsh.out rfl _ hT5).mono ?_
  rintro e w5 ⟨sp, rfl, c5, s5, g5⟩
  have X5 := Lib.hid ((X4.out.set 2 (.pointer (some ⟨mp, 0, none⟩))).stp s5 id)
  have T45 := Lib.hid (((Stp.refl (· = kb K D.length) c4 w4).setCell (p := ⟨xb, 2, none⟩) (.pointer (some ⟨mp, 0, none⟩)) X4.out.1).trans (s5.mono (fun _ h => h.elim)))
  have H5 := Lib.hid (H4.out.stpN T45.out (fun j hj => .inr (by omega)))
  have Q5 := Lib.hid (show SnAt c5 (kb K D.length + 2) w5 mp ar gp sh la.length (-1) (-1) 0 [] from (Q.out.stp T45.out (by unfold kb; omega) (by unfold kb; omega)))
  have G5 := Lib.hid g5
  have S5 := Lib.hid (S4.out.trans (T45.out.mono (fun j hj => by unfold kb at hj; omega)))
  have x1 := X5.out.cell 1
  have f1 := X5.out.free 1
  simp at x1
  clear s5 hT5 x3 f3 Q g5
  have T6 := Lib.hid ((Stp.refl (· = kb K D.length) c5 w5).setCell (p := ⟨xb, 1, none⟩) (.pointer (some ⟨sp, 0, none⟩)) X5.out.1)
  have H6 := Lib.hid (H5.out.stpN T6.out (fun j hj => .inr (by omega)))
  have X6 := Lib.hid (X5.out.set 1 (.pointer (some ⟨sp, 0, none⟩)))
  have Q := Lib.hid Q5.out
  have Q6 := Lib.hid (show SnAt c5 (kb K D.length + 2) (w5.setCell ⟨xb, 1, none⟩ (.pointer (some ⟨sp, 0, none⟩))) mp ar gp sh la.length (-1) (-1) 0 [] from (Q.out.stp T6.out (by unfold kb; omega) (by unfold kb; omega)))
  have G6 := Lib.hid (G5.out.stp T6.out (by unfold kb; omega))
  have S6 := Lib.hid (S5.out.trans (T6.out.mono (fun j hj => by unfold kb at hj; omega)))
  have r3 := H6.out.rm.rb.cell 3
  simp at r3
  clear Q Q5 G5
  go_wp2_with (at_builtin; refine wpList_append_row _ rfl (.tmp 92) (.tmp 94) 102 rfl (paint c5 (w5.setCell ⟨xb, 1, none⟩ (.pointer (some ⟨sp, 0, none⟩))).heap.size (K + 6)) (K + 6) 105 (.pointer none) 1 8 Tryz.underlying102 Tryz.infoPringKs2 rfl ao D.length cap (D.map fun d => Value.pointer (some ⟨d.g, 0, none⟩)) rfl (H6.out.rr.stp ((Stp.refl (fun _ => False) c5 (w5.setCell ⟨xb, 1, none⟩ (.pointer (some ⟨sp, 0, none⟩)))).alloc (.cells #[.pointer (some ⟨xb, 0, none⟩)] 105) (K + 6)) id) _ 1 [.pointer (some ⟨xb, 0, none⟩)] rfl (Src.oneAt (by simp)) (by simp [Value.oneCell']) d2.out d3.out ?_)
  rintro so2 sc2 w6 r6 s6 -
  have T0 : Stp (· = K + 6) c5 (paint c5 w5.heap.size (K + 6)) (w5.setCell ⟨xb, 1, none⟩ (.pointer (some ⟨sp, 0, none⟩))) ((w5.setCell ⟨xb, 1, none⟩ (.pointer (some ⟨sp, 0, none⟩))).alloc (.cells #[.pointer (some ⟨xb, 0, none⟩)] 105)) := by
    have := (Stp.refl (· = K + 6) c5 (w5.setCell ⟨xb, 1, none⟩ (.pointer (some ⟨sp, 0, none⟩)))).alloc (.cells #[.pointer (some ⟨xb, 0, none⟩)] 105) (K + 6)
    rwa [show (w5.setCell ⟨xb, 1, none⟩ (.pointer (some ⟨sp, 0, none⟩))).heap.size = w5.heap.size by simp [World.setCell]] at this
  have T7 := Lib.hid (T0.trans s6)
  obtain ⟨c7, hc7⟩ : ∃ c7, c7 = paint (paint c5 w5.heap.size (K + 6)) (w5.heap.size + 1) (K + 6) := ⟨_, rfl⟩
  rw [← hc7] at T7 r6
  have R7 := Lib.hid r6
  have X7 := Lib.hid (X6.out.stp T7.out (by unfold kb; omega))
  have B7 := Lib.hid (H6.out.rm.rb.stp T7.out (by omega))
  have Q := Lib.hid Q6.out
  have Q7 := Lib.hid (show SnAt c7 (kb K D.length + 2) w6 mp ar gp sh la.length (-1) (-1) 0 [] from (Q.out.stp T7.out (by unfold kb; omega) (by unfold kb; omega)))
  have G7 := Lib.hid (G6.out.stp T7.out (by unfold kb; omega))
  have S7 := Lib.hid (S6.out.trans (T7.out.mono (fun j hj => by omega)))
  have r3 := B7.out.cell 3
  have g3 := B7.out.free 3
  simp at r3
  clear r6 s6 hc7 x1 f1 T0 Q Q6 G6
  go_wp2
  simp only [g11]
  go_ret2
  have T8 := (Stp.refl (· = K) c7 w6).setCell (p := ⟨r, 3, none⟩) (.slice so2 (D.length + 1) sc2) B7.out.1
  have X8 := X7.out.stp T8 (by unfold kb; omega)
  refine ⟨rfl, xb, sp, mp, gp, so2, sc2, c7, S7.out.trans (T8.mono (fun j hj => by omega)), ?_, G7.out.stp T8 (by unfold kb; omega)⟩
  refine RMs.grow H6.out (T7.out.mono (J' := fun j => j = K ∨ j = K + 6) (fun j hj => .inr hj) |>.trans (T8.mono (fun j hj => .inl hj))) (fun _ h => h) (B7.out.set 3 _) (R7.out.stp T8 (by omega)) ⟨X8, Row.nil _ _ _ _ _, ?_, ?_⟩
  · intro e
    cases e
    
  · intro e
    have Q := Q7
    exact (Q.out.stp T8 (by unfold kb; omega) (by unfold kb; omega))
end
end Go.Proofs.YtiphdedfbafhkaaGreatDoor

namespace Go.Proofs.YtiphdedfbafhkaaGreatDoor
open Go.RowKit

theorem rwake_same (l : List One) (id : Int) : rwakeT l id = wakeT l id := rfl
theorem rsig_same : ∀ (ws : List Int) (dl : List Tm) (l : List One) (n : Nat), rsigT ws dl l n = sigT ws dl l n
  | [], _, _, _ => rfl
  | who :: ws, dl, l, n => by
    simp only [rsigT, sigT, rwake_same]
    exact rsig_same ws _ _ _
theorem rwakes_same : ∀ (ws : List Int) (l : List One), rwakesT ws l = wakesT ws l
  | [], _ => rfl
  | who :: ws, l => by
    simp only [rwakesT, wakesT, rwake_same]
    exact rwakes_same ws _

/-- Both rooms. -/
structure JW (c : Nat → Nat) (w : World) (k r p : Nat) (ar ck tb tp : Nat) (la : List Int) (now : Int) (tl dl : List Tm) (l : List One) (D : List RD) (ao : Option Addr) (cap : Nat) (ro : Option Addr) (rcap : Nat) (R : List DR) : Prop where
  code : RMs c 300 w r ar ck tb la now tl l D ao cap
  doc : DWR c w p tp now dl l ro rcap R
  law : J14 k la now tl dl l D R
  tab : Tab w
  deb : c 1 = 0
  sls : ∀ (i : Nat) (d : RD), D[i]? = some d → ∃ sp zs, d.sl = .pointer (some ⟨sp, 0, none⟩) ∧ RingAt c (kb 300 i + 5) w sp d.sh zs
/-- Both rooms, whatever is in them. -/
def JE (c : Nat → Nat) (w : World) (k r p : Nat) : Prop := ∃ ar ck tb tp la now tl dl l D ao cap ro rcap R, JW c w k r p ar ck tb tp la now tl dl l D ao cap ro rcap R

section
variable {c c' : Nat → Nat} {w w' : World} {k r p ar ck tb tp : Nat} {la la' : List Int} {now now' : Int} {tl dl tl' dl' : List Tm} {l l' : List One} {D D' : List RD} {ao ao' : Option Addr} {cap cap' : Nat} {ro ro' : Option Addr} {rcap rcap' : Nat} {R R' : List DR}
theorem RMs.stpD {J : Nat → Prop} (h : RMs c 300 w r ar ck tb la now tl l D ao cap) (t : Stp J c c' w w') (hJ : ∀ j, J j → j < 300) : RMs c' 300 w' r ar ck tb la now tl l D ao cap := by
  have g : ∀ j, 300 ≤ j → ¬ J j := fun j h1 h2 => by have := hJ j h2; omega
  exact ⟨h.rm.stp t (g _ (by omega)) (g _ (by omega)) (g _ (by omega)) (g _ (by omega)) (g _ (by omega)), h.rr.stp t (g _ (by omega)), fun i d hd => (h.rg i d hd).stp t (g _ (by unfold kb; omega)) (g _ (by unfold kb; omega)) (g _ (by unfold kb; omega)) (g _ (by unfold kb; omega)) (g _ (by omega)) (g _ (by omega)) (g _ (by omega))⟩
theorem DWR.stpC {J : Nat → Prop} (h : DWR c w p tp now dl l ro rcap R) (hR : R.length ≤ 8) (t : Stp J c c' w w') (hJ : ∀ j, J j → 300 ≤ j ∨ j ≤ 2) : DWR c' w' p tp now dl l ro rcap R :=
  h.stpB t (fun j hj => ⟨by have := hJ j hj; unfold JD; omega, by have := hJ j hj; omega, fun i hi => by have := hJ j hj; unfold dk; omega⟩)
theorem JW.deb' {J : Nat → Prop} (h : JW c w k r p ar ck tb tp la now tl dl l D ao cap ro rcap R) (t : Stp J c c' w w') : c' 1 = 0 :=
  (t.col _ (World.block_lt_of_cell? w _ (h.tab 0 (by decide)))).trans h.deb
theorem JW.tab' {J : Nat → Prop} (h : JW c w k r p ar ck tb tp la now tl dl l D ao cap ro rcap R) (t : Stp J c c' w w') (h0 : ¬ J 0) : Tab w' := h.tab.stp t (by rw [h.deb]; exact h0)
theorem JW.r8 (h : JW c w k r p ar ck tb tp la now tl dl l D ao cap ro rcap R) : R.length ≤ 8 := by rw [h.law.len]; exact h.law.d8
/-- What is neither's changes. -/
theorem JW.stp {J : Nat → Prop} (h : JW c w k r p ar ck tb tp la now tl dl l D ao cap ro rcap R) (t : Stp J c c' w w') (hJ : ∀ j, J j → j = 1 ∨ j = 2) : JW c' w' k r p ar ck tb tp la now tl dl l D ao cap ro rcap R :=
  ⟨h.code.stpD t (fun j hj => by have := hJ j hj; omega), h.doc.stpC h.r8 t (fun j hj => by have := hJ j hj; omega), h.law, h.tab' t (fun q => by have := hJ _ q; omega), h.deb' t, fun i d hd => by
    obtain ⟨sp, zs, h1, h2⟩ := h.sls i d hd
    exact ⟨sp, zs, h1, h2.stp t (fun q => by have := hJ _ q; unfold kb at this; omega)⟩⟩
theorem JW.stpF (h : JW c w k r p ar ck tb tp la now tl dl l D ao cap ro rcap R) (t : Stp (fun _ => False) c c' w w') : JW c' w' k r p ar ck tb tp la now tl dl l D ao cap ro rcap R := h.stp t (fun _ h => h.elim)
/-- The code's room takes a step; the slots stay. -/
theorem JW.stepC {J : Nat → Prop} (h : JW c w k r p ar ck tb tp la now tl dl l D ao cap ro rcap R) (t : Stp J c c' w w') (hJ : ∀ j, J j → 300 ≤ j ∨ j = 1 ∨ j = 2) (hS : ∀ i, i < D.length → ¬ J (kb 300 i + 5)) : DWR c' w' p tp now dl l ro rcap R ∧ Tab w' ∧ c' 1 = 0 ∧ ∀ (i : Nat) (d : RD), D[i]? = some d → ∃ sp zs, d.sl = .pointer (some ⟨sp, 0, none⟩) ∧ RingAt c' (kb 300 i + 5) w' sp d.sh zs :=
  ⟨h.doc.stpC h.r8 t (fun j hj => by have := hJ j hj; omega), h.tab' t (fun q => by have := hJ _ q; omega), h.deb' t, fun i d hd => by
    obtain ⟨sp, zs, h1, h2⟩ := h.sls i d hd
    exact ⟨sp, zs, h1, h2.stp t (hS i (List.getElem?_eq_some_iff.1 hd).1)⟩⟩
/-- The document's room takes a step. -/
theorem JW.stepD {J : Nat → Prop} (h : RMs c 300 w r ar ck tb la now tl l D ao cap) (ht : Tab w) (hd : c 1 = 0) (hs : ∀ (i : Nat) (d : RD), D[i]? = some d → ∃ sp zs, d.sl = .pointer (some ⟨sp, 0, none⟩) ∧ RingAt c (kb 300 i + 5) w sp d.sh zs) (t : Stp J c c' w w') (hJ : ∀ j, J j → 1 ≤ j ∧ j < 300) : RMs c' 300 w' r ar ck tb la now tl l D ao cap ∧ Tab w' ∧ c' 1 = 0 ∧ ∀ (i : Nat) (d : RD), D[i]? = some d → ∃ sp zs, d.sl = .pointer (some ⟨sp, 0, none⟩) ∧ RingAt c' (kb 300 i + 5) w' sp d.sh zs :=
  ⟨h.stpD t (fun j hj => (hJ j hj).2), ht.stp t (by rw [hd]; exact fun q => by have := (hJ _ q).1; omega), (t.col _ (World.block_lt_of_cell? w _ (ht 0 (by decide)))).trans hd, fun i d he => by
    obtain ⟨sp, zs, h1, h2⟩ := hs i d he
    exact ⟨sp, zs, h1, h2.stp t (fun q => by have := (hJ _ q).2; unfold kb at this; omega)⟩⟩
/-- The slots are not touched by what sets a ring. -/
theorem sls_set {i : Nat} {d d' : RD} (hs : ∀ (i : Nat) (d : RD), D[i]? = some d → ∃ sp zs, d.sl = .pointer (some ⟨sp, 0, none⟩) ∧ RingAt c (kb 300 i + 5) w sp d.sh zs) (hd : D[i]? = some d) (h1 : d'.sl = d.sl) (h2 : d'.sh = d.sh) : ∀ (j : Nat) (e : RD), (D.set i d')[j]? = some e → ∃ sp zs, e.sl = .pointer (some ⟨sp, 0, none⟩) ∧ RingAt c (kb 300 j + 5) w sp e.sh zs := fun j e he => by
  by_cases hj : i = j
  · subst hj
    rw [List.getElem?_set_self (List.getElem?_eq_some_iff.1 hd).1] at he
    cases he
    rw [h1, h2]
    exact hs i d hd
  · rw [List.getElem?_set_ne hj] at he
    exact hs j e he
theorem sls_snoc {d : RD} (hs : ∀ (i : Nat) (d : RD), D[i]? = some d → ∃ sp zs, d.sl = .pointer (some ⟨sp, 0, none⟩) ∧ RingAt c (kb 300 i + 5) w sp d.sh zs) {sp : Nat} {zs : List Ev} (h1 : d.sl = .pointer (some ⟨sp, 0, none⟩)) (h2 : RingAt c (kb 300 D.length + 5) w sp d.sh zs) : ∀ (j : Nat) (e : RD), (D ++ [d])[j]? = some e → ∃ sp zs, e.sl = .pointer (some ⟨sp, 0, none⟩) ∧ RingAt c (kb 300 j + 5) w sp e.sh zs := fun j e he => by
  by_cases hj : j < D.length
  · rw [List.getElem?_append_left hj] at he
    exact hs j e he
  · have hlt := (List.getElem?_eq_some_iff.1 he).1
    simp at hlt
    obtain rfl : j = D.length := by omega
    simp at he
    subst he
    exact ⟨sp, zs, h1, h2⟩
theorem JE.stpF (h : JE c w k r p) (t : Stp (fun _ => False) c c' w w') : JE c' w' k r p := by
  obtain ⟨ar, ck, tb, tp, la, now, tl, dl, l, D, ao, cap, ro, rcap, R, h⟩ := h
  exact ⟨ar, ck, tb, tp, la, now, tl, dl, l, D, ao, cap, ro, rcap, R, h.stpF t⟩
theorem DWs.p2 {rs : Value} (h : DWs c w p tp now dl l rs) : w.cell? ⟨p, 2, none⟩ = some (.pointer (some ⟨tp, 0, none⟩)) := by
  obtain ⟨kk, lo, lcap, hk, h⟩ := h
  exact h.cells.2.2.1
theorem DWs.add {rs : Value} (h : DWs c w p tp now dl l rs) (hl : l.length < 64) :
    Calls Tryz.prog 90 #[.pointer (some ⟨tp, 0, none⟩)] w fun e w' => e = .returned (.int .i64 0) ∧ ∃ c', Stp JD c c' w w' ∧ DWs c' w' p tp now dl (l ++ [⟨0, false, 0⟩]) rs := by
  obtain ⟨kk, lo, lcap, hk, h⟩ := h
  refine (r05add_ok h.tb (by omega)).mono ?_
  rintro e w1 ⟨rfl, c1, t1, r1⟩
  exact ⟨rfl, c1, t1.mono (fun j hj => by unfold JD; omega), kk, lo, lcap, hk, h.hb.stp t1 (by decide), h.tm.stp t1 (by omega), r1⟩
theorem DWs.full {rs : Value} (h : DWs c w p tp now dl l rs) (hl : 64 ≤ l.length) :
    Calls Tryz.prog 90 #[.pointer (some ⟨tp, 0, none⟩)] w fun e w' => e = .returned (.int .i64 8) ∧ w = w' := by
  obtain ⟨kk, lo, lcap, hk, h⟩ := h
  exact r05add_full h.tb (by omega)
end
end Go.Proofs.YtiphdedfbafhkaaGreatDoor

namespace Go.Proofs.YtiphdedfbafhkaaGreatDoor
open Go.RowKit

def oneAt (l : List One) (a : Int) : One := l.getD a.toNat ⟨0, false, 0⟩
/-- Who is woken. -/
def wokenT (x : One) : One := if x.state = 2 then x else if x.state = 1 then { x with state := 0, wakes := x.wakes + 1 } else { x with token := true, wakes := x.wakes + 1 }
def OnesOK (l : List One) (L : List Int) : Prop := ∀ a ∈ L, 0 ≤ a ∧ a < l.length
theorem one_get {l : List One} {a : Int} (h : 0 ≤ a ∧ a < l.length) : l[a.toNat]? = some (oneAt l a) ∧ ((a.toNat : Nat) : Int) = a := by
  refine ⟨?_, by omega⟩
  unfold oneAt List.getD
  rw [List.getElem?_eq_getElem (show a.toNat < l.length by omega)]
  rfl
theorem wrong_one {l : List One} {a : Int} (h : 0 ≤ a ∧ a < l.length) : wrongAt l a = if (oneAt l a).state = 2 then 17 else 0 := by
  obtain ⟨h1, h2⟩ := one_get h
  have := wrong_at h1
  rw [h2] at this
  exact this
theorem wake_one {l : List One} {a : Int} (h : 0 ≤ a ∧ a < l.length) : (wakeT l a).1 = l.set a.toNat (wokenT (oneAt l a)) ∧ ((wakeT l a).2.1 = true ↔ (oneAt l a).state = 1) := by
  have hw := wrong_one h
  have h1 := (one_get h).1
  unfold wakeT wokenT
  by_cases h2 : (oneAt l a).state = 2
  · rw [if_pos h2] at hw
    rw [if_pos (by rw [hw]; decide), if_pos h2]
    refine ⟨(set_same h1).symm, ?_⟩
    simp [h2]
  · rw [if_neg h2] at hw
    rw [if_neg (by rw [hw]; decide), if_neg h2]
    have e : l.getD a.toNat ⟨0, false, 0⟩ = oneAt l a := rfl
    rw [e]
    by_cases h3 : (oneAt l a).state = 1
    · rw [if_pos h3, if_pos h3]
      exact ⟨rfl, by simp [h3]⟩
    · rw [if_neg h3, if_neg h3]
      exact ⟨rfl, by simp [h3]⟩
theorem oneAt_set {l : List One} {a b : Int} (ha : 0 ≤ a ∧ a < l.length) (hb : 0 ≤ b) (x : One) : oneAt (l.set a.toNat x) b = if b = a then x else oneAt l b := by
  unfold oneAt List.getD
  by_cases h : b = a
  · subst h
    rw [List.getElem?_set_self (by omega), if_pos rfl]
    rfl
  · rw [List.getElem?_set_ne (by omega), if_neg h]
/-- A signal: who waits is woken, the others are not; how many were parked. -/
theorem sig_ones : ∀ (L : List Int) (tl : List Tm) (l : List One) (n : Nat), L.Nodup → OnesOK l L → (∀ b, 0 ≤ b → oneAt (sigT L tl l n).2.1 b = if b ∈ L then wokenT (oneAt l b) else oneAt l b) ∧ (sigT L tl l n).2.2 = n + L.countP (fun a => (oneAt l a).state == 1)
  | [], tl, l, n, _, _ => ⟨fun b _ => by simp [sigT], by simp [sigT]⟩
  | a :: L, tl, l, n, hn, ho => by
    have ha := ho a (by simp)
    obtain ⟨w1, w2⟩ := wake_one ha
    obtain ⟨hna, hnL⟩ := List.nodup_cons.1 hn
    have hlen : (wakeT l a).1.length = l.length := by rw [w1, List.length_set]
    obtain ⟨q1, q2⟩ := sig_ones L (tl.filter (stays a)) (wakeT l a).1 (n + if (wakeT l a).2.1 = true then 1 else 0) hnL (fun b hb => by rw [hlen]; exact ho b (by simp [hb]))
    simp only [sigT]
    refine ⟨fun b hb => ?_, ?_⟩
    · rw [q1 b hb, w1, oneAt_set ha hb]
      by_cases h1 : b = a
      · subst h1
        rw [if_neg hna, if_pos rfl, if_pos (by simp)]
      · rw [if_neg h1]
        by_cases h2 : b ∈ L
        · rw [if_pos h2, if_pos (by simp [h2])]
        · rw [if_neg h2, if_neg (by simp [h1, h2])]
    · rw [q2, List.countP_cons]
      have hc : L.countP (fun b => (oneAt (wakeT l a).1 b).state == 1) = L.countP (fun b => (oneAt l b).state == 1) := by
        refine List.countP_congr (fun b hb => ?_)
        have hb0 := (ho b (by simp [hb])).1
        rw [w1, oneAt_set ha hb0, if_neg (by rintro rfl; exact hna hb)]
      rw [hc]
      by_cases h3 : (oneAt l a).state = 1
      · rw [if_pos (w2.2 h3)]
        simp [h3]; omega
      · rw [if_neg (fun h => h3 (w2.1 h))]
        simp [h3]
theorem enl_wl {l : List One} {wl : List Int} (h : wl.Nodup ∧ ∀ x ∈ wl, 0 ≤ x ∧ x < l.length) (who : Int) : (enlT l wl who).1.Nodup ∧ ∀ x ∈ (enlT l wl who).1, 0 ≤ x ∧ x < l.length := by
  unfold enlT
  split
  · exact h
  · split
    · exact h
    · rename_i h1 h2
      obtain ⟨j, y, rfl, hj, -⟩ := right_of (Decidable.not_not.1 h1)
      have hlt := (List.getElem?_eq_some_iff.1 hj).1
      refine ⟨List.nodup_append.2 ⟨h.1, by simp, fun x hx y hy => ?_⟩, fun x hx => ?_⟩
      · simp at hy
        subst hy
        intro q
        subst q
        exact h2 hx
      · rcases List.mem_append.1 hx with q | q
        · exact h.2 x q
        · simp at q
          omega
/-- How many of the first so many are parked. -/
def cntP (l : List One) (L : List Int) (j : Nat) : Nat := (L.take j).countP (fun a => (oneAt l a).state == 1)
theorem cntP_succ {l : List One} {L : List Int} {j : Nat} {a : Int} (h : L[j]? = some a) : cntP l L (j + 1) = cntP l L j + if (oneAt l a).state = 1 then 1 else 0 := by
  obtain ⟨hj, he⟩ := List.getElem?_eq_some_iff.1 h
  unfold cntP
  rw [List.take_add_one, h, List.countP_append]
  by_cases h3 : (oneAt l a).state = 1
  · simp [h3]
  · simp [h3]
theorem cntP_le (l : List One) (L : List Int) (j : Nat) : cntP l L j ≤ L.length := by
  unfold cntP
  refine Nat.le_trans List.countP_le_length ?_
  rw [List.length_take]
  omega
theorem nodup_ne {L : List Int} (h : L.Nodup) {i j : Nat} {a b : Int} (hi : L[i]? = some a) (hj : L[j]? = some b) (hij : i ≠ j) : a ≠ b := fun e => by
  subst e
  obtain ⟨h1, e1⟩ := List.getElem?_eq_some_iff.1 hi
  obtain ⟨h2, e2⟩ := List.getElem?_eq_some_iff.1 hj
  exact hij ((List.getElem_inj h).1 (e1.trans e2.symm))
end Go.Proofs.YtiphdedfbafhkaaGreatDoor

namespace Go.Proofs.YtiphdedfbafhkaaGreatDoor
open Go.RowKit

section
variable {c c' : Nat → Nat} {K : Nat} {w w' : World} {r ar ck tb : Nat} {la : List Int} {now : Int} {tl : List Tm} {l : List One} {D : List RD} {ao : Option Addr} {cap i : Nat} {d : RD}
theorem rsignal_none (h : RMs c K w r ar ck tb la now tl l D ao cap) (n : Int) (hn : n < 0 ∨ (D.length : Int) ≤ n) :
    Calls Tryz.prog 10 #[.pointer (some ⟨r, 0, none⟩), .int .i64 n] w fun e w' => ∃ ev, e = .returned (.tuple #[.int .i64 0, ev]) ∧ ∃ c', Stp (fun _ => False) c c' w w' ∧ ErrAt c' w' ev 3 := by
  have HA := Lib.hid (rat_bad h n hn)
  clear h hn
  go_enter Tryz.func10, Tryz.ntmps10
  go_wp2_with fail
  refine HA.out.mono ?_
  rintro e w1 ⟨tt, vv, rfl, c1, t1, e1⟩
  have T1 := Lib.hid t1
  have E1 := Lib.hid e1
  clear t1 e1
  go_wp2
  go_ret2
  exact ⟨_, rfl, c1, T1.out, E1.out⟩
theorem renlist_none (h : RMs c K w r ar ck tb la now tl l D ao cap) (n who : Int) (hn : n < 0 ∨ (D.length : Int) ≤ n) :
    Calls Tryz.prog 16 #[.pointer (some ⟨r, 0, none⟩), .int .i64 n, .int .i64 who] w fun e w' => ∃ ev, e = .returned ev ∧ ∃ c', Stp (fun _ => False) c c' w w' ∧ ErrAt c' w' ev 3 := by
  have HA := Lib.hid (rat_bad h n hn)
  clear h hn
  go_enter Tryz.func16, Tryz.ntmps16
  go_wp2_with fail
  refine HA.out.mono ?_
  rintro e w1 ⟨tt, vv, rfl, c1, t1, e1⟩
  have T1 := Lib.hid t1
  have E1 := Lib.hid e1
  clear t1 e1
  go_wp2
  go_ret
  exact ⟨_, rfl, c1, T1.out, E1.out⟩
end
section
variable {c c' : Nat → Nat} {w w' : World} {p tp : Nat} {now : Int} {dl : List Tm} {l : List One} {ro : Option Addr} {rcap : Nat} {R : List DR}
theorem r14signal_none (h : DWR c w p tp now dl l ro rcap R) (k : Int) (hk : k < 0 ∨ (R.length : Int) ≤ k) :
    Calls Tryz.prog 92 #[.pointer (some ⟨p, 0, none⟩), .int .i64 k] w fun e w' => e = .returned (.tuple #[.int .i64 0, .int .i64 3]) ∧ w = w' := by
  obtain ⟨r4, lp⟩ := h.r4
  have t : decide (k < 0) = true ∨ (decide (k < 0) = false ∧ decide ((R.length : Int) ≤ k) = true) := by
    simp only [decide_eq_true_eq, decide_eq_false_iff_not]; omega
  clear h hk
  rcases t with g0 | ⟨g0, g1⟩
  all_goals
    go_enter Tryz.func92, Tryz.ntmps92
    go_wp2
    go_ret2
    exact ⟨rfl, rfl⟩
end
end Go.Proofs.YtiphdedfbafhkaaGreatDoor
