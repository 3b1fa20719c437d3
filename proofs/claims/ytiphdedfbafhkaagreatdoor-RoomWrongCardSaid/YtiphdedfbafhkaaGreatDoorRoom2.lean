/- Contracts of a room's Ring, at, Enlist, Signal, as the example wants them. No condition beyond each contract's own. -/
import Derived.Test.YtiphdedfbafhkaaGreatDoorRoom1
import Derived.Test.YtiphdedfbafhkaaGreatDoorMNew
import Derived.Test.YtiphdedfbafhkaaGreatDoorSlots2
namespace Go.Proofs.YtiphdedfbafhkaaGreatDoor
open Go.RowKit

theorem Tryz.infoPring : (Tryz.prog.info? 105).map (fun i => (i.zero, i.size, i.bytes)) = some (some (.pointer none), 1, 8) := by kernel_rfl

/-- A ring's struct, of colour K + 5; who waits, of colour K + 7. -/
structure RG (c : Nat → Nat) (K : Nat) (w : World) (g : Nat) (v1 v2 v3 : Value) (wl : List Int) (ao : Option Addr) (cap : Nat) : Prop where
  gb : Blk c (K + 5) w g [.int .i64 1, v1, v2, v3, .slice ao wl.length cap] 107
  wr : Row c (K + 7) w 3 1 ao wl.length cap (wl.map (Value.int .i64))

/-- A room with one ring. -/
structure R1 (c : Nat → Nat) (K : Nat) (w : World) (r ar ck tb g : Nat) (a : Addr) (rc : Nat) (la : List Int) (now : Int) (tl : List Tm) (l : List One) (v1 v2 v3 : Value) (wl : List Int) (ao : Option Addr) (cap : Nat) : Prop where
  rm : RM c K w r ar ck tb (.slice (some a) 1 rc) la now tl l
  rr : Row c (K + 6) w 105 1 (some a) 1 rc [.pointer (some ⟨g, 0, none⟩)]
  rg : RG c K w g v1 v2 v3 wl ao cap

section
variable {c c' : Nat → Nat} {K : Nat} {w w' : World} {r ar ck tb : Nat}

set_option maxRecDepth 100000 in
set_option maxHeartbeats 2000000 in
theorem rmring_c (h : RM c K w r ar ck tb (.slice none 0 0) [] 0 [] []) (ht : Tab w) (hc : c 1 = 0) (hK : 2 ≤ K) :
    Calls Tryz.prog 7 #[.pointer (some ⟨r, 0, none⟩), .int .i64 2, .int .i64 1] w fun e w' => e = .returned (.tuple #[.int .i64 0, .nilIface]) ∧ ∃ g a rc la v1 v2 v3, ∃ c', Stp (K ≤ ·) c c' w w' ∧ R1 c' K w' r ar ck tb g a rc la 0 [] [] v1 v2 v3 [] none 0 := by
  have H := Lib.hid h
  have HT := Lib.hid ht
  have Hc := Lib.hid hc
  have HK := Lib.hid hK
  clear h ht hc hK
  go_enter Tryz.func7, Tryz.ntmps7
  go_wp2_with fail
  refine (of_pow c 1 (by decide) w HT.out).mono ?_
  rintro e w1 ⟨rfl, c1, s1⟩
  obtain ⟨c2, -, A2⟩ := (s1.alloc (.cells #[.int .i64 1] 65) 0).name
  have H2 := Lib.hid (H.out.stpF A2.out)
  have r3 := H2.out.rb.cell 3
  simp at r3
  clear s1
  obtain ⟨c3, hc3, A3⟩ := (A2.out.alloc (.cells #[.int .i64 1, .pointer none, .pointer none, .pointer none, .slice none 0 0] 107) (K + 5)).name
  have H3 := Lib.hid (H.out.stpF A3.out)
  have r0 := H3.out.rb.cell 0
  simp at r0
  have lr := H2.out.rb.lt
  have hne : (w1.alloc (.cells #[.int .i64 1] 65)).heap.size ≠ r := by omega
  go_wp2_with fail
  obtain ⟨sA, aA⟩ := H3.out.aa
  have hT3 : Tab ((w1.alloc (.cells #[.int .i64 1] 65)).alloc (.cells #[.int .i64 1, .pointer none, .pointer none, .pointer none, .slice none 0 0] 107)) := HT.out.stp A3.out id
  refine (mnew_ok (m := 2) aA 1 (by decide) (by simp) hT3 (by decide)).mono ?_
  rintro e w4 ⟨mp, bp, gp, rfl, c4, s4, a4, q4⟩
  have X3 := Blk.new c2 (K + 5) (w1.alloc (.cells #[.int .i64 1] 65)) [.int .i64 1, .pointer none, .pointer none, .pointer none, .slice none 0 0] 107
  have hX3 : Blk c3 (K + 5) ((w1.alloc (.cells #[.int .i64 1] 65)).alloc (.cells #[.int .i64 1, .pointer none, .pointer none, .pointer none, .slice none 0 0] 107)) (w1.heap.size + 1) [.int .i64 1, .pointer none, .pointer none, .pointer none, .slice none 0 0] 107 := by
    have e : (w1.alloc (.cells #[.int .i64 1] 65)).heap.size = w1.heap.size + 1 := by simp
    rw [← e, hc3.out]
    exact X3
  have X4 := Lib.hid (hX3.stp s4 (by omega))
  have H4 := Lib.hid (show RM c4 K w4 r ar ck tb (.slice none 0 0) _ 0 [] [] from ⟨H3.out.rb.stp s4 (by omega), ⟨_, a4⟩, H3.out.ca.stp s4 (by omega) (by omega), H3.out.ta.stp s4 (by omega)⟩)
  have S4 := Lib.hid ((A3.out.mono (J' := (K ≤ ·)) (fun _ h => h.elim)).trans (s4.mono (fun j hj => by omega)))
  have x3 := X4.out.cell 3
  have f3 := X4.out.free 3
  simp at x3
  have hxr : w1.heap.size + 1 ≠ r := by simp at lr; omega
  clear X3 hX3 s4 a4 q4 hT3 aA r3 r0 lr hne
  generalize w1.heap.size + 1 = xb at *
  go_wp2_with fail
  have hT5 : Tab (w4.setCell ⟨xb, 3, none⟩ (.pointer (some ⟨mp, 0, none⟩))) := HT.out.stp (S4.out.setCell (p := ⟨xb, 3, none⟩) _ (by rw [X4.out.1]; omega)) (by rw [Hc.out]; have := HK.out; omega)
  refine (slnew_n c4 (K + 8) 1 2 (by decide) (by decide) _ hT5).mono ?_
  rintro e w5 ⟨sp, rfl, c5, s5, -⟩
  have X5 := Lib.hid ((X4.out.set 3 (.pointer (some ⟨mp, 0, none⟩))).stp s5 id)
  have T45 := Lib.hid (((Stp.refl (· = K + 5) c4 w4).setCell (p := ⟨xb, 3, none⟩) (.pointer (some ⟨mp, 0, none⟩)) X4.out.1).trans (s5.mono (fun _ h => h.elim)))
  have H5 := Lib.hid (H4.out.stp T45.out (by omega) (by omega) (by omega) (by omega) (by omega))
  have S5 := Lib.hid (S4.out.trans (T45.out.mono (fun j hj => by omega)))
  have x1 := X5.out.cell 1
  have f1 := X5.out.free 1
  simp at x1
  clear s5 hT5 x3 f3
  have T6 := Lib.hid ((Stp.refl (· = K + 5) c5 w5).setCell (p := ⟨xb, 1, none⟩) (.pointer (some ⟨sp, 0, none⟩)) X5.out.1)
  have H6 := Lib.hid (H5.out.stp T6.out (by omega) (by omega) (by omega) (by omega) (by omega))
  have X6 := Lib.hid (X5.out.set 1 (.pointer (some ⟨sp, 0, none⟩)))
  have S6 := Lib.hid (S5.out.trans (T6.out.mono (fun j hj => by omega)))
  have r3 := H6.out.rb.cell 3
  simp at r3
  have d2 := Lib.hid (show (0 : Nat) + 1 ≤ maxLen by decide)
  have d3 := Lib.hid (show (0 + 1) * 8 ≤ 140737488355328 by decide)
  go_wp2_with (at_builtin; refine wpList_append_row _ rfl (.tmp 92) (.tmp 94) 102 rfl (paint c5 (w5.setCell ⟨xb, 1, none⟩ (.pointer (some ⟨sp, 0, none⟩))).heap.size (K + 6)) (K + 6) 105 (.pointer none) 1 8 Tryz.underlying102 Tryz.infoPring rfl none 0 0 [] rfl (Row.nil _ _ _ _ _) _ 1 [.pointer (some ⟨xb, 0, none⟩)] rfl (Src.oneAt (by simp)) (by simp [Value.oneCell']) d2.out d3.out ?_)
  rintro so2 sc2 w6 r6 s6 -
  obtain ⟨a, rfl⟩ : ∃ a, so2 = some a := by
    cases so2 with
    | some a => exact ⟨a, rfl⟩
    | none => have h1 := r6.2.1; have h2 := r6.2.2.2; simp only at h2; omega
  have T0 : Stp (· = K + 6) c5 (paint c5 w5.heap.size (K + 6)) (w5.setCell ⟨xb, 1, none⟩ (.pointer (some ⟨sp, 0, none⟩))) ((w5.setCell ⟨xb, 1, none⟩ (.pointer (some ⟨sp, 0, none⟩))).alloc (.cells #[.pointer (some ⟨xb, 0, none⟩)] 105)) := by
    have := (Stp.refl (· = K + 6) c5 (w5.setCell ⟨xb, 1, none⟩ (.pointer (some ⟨sp, 0, none⟩)))).alloc (.cells #[.pointer (some ⟨xb, 0, none⟩)] 105) (K + 6)
    rwa [show (w5.setCell ⟨xb, 1, none⟩ (.pointer (some ⟨sp, 0, none⟩))).heap.size = w5.heap.size by simp [World.setCell]] at this
  have T7 := Lib.hid (T0.trans s6)
  obtain ⟨c7, hc7⟩ : ∃ c7, c7 = paint (paint c5 w5.heap.size (K + 6)) (w5.heap.size + 1) (K + 6) := ⟨_, rfl⟩
  rw [← hc7] at T7 r6
  have R7 := Lib.hid (show Row c7 (K + 6) w6 105 1 (some a) 1 sc2 [.pointer (some ⟨xb, 0, none⟩)] by simpa using r6)
  have H7 := Lib.hid (H6.out.stp T7.out (by omega) (by omega) (by omega) (by omega) (by omega))
  have X7 := Lib.hid (X6.out.stp T7.out (by omega))
  have S7 := Lib.hid (S6.out.trans (T7.out.mono (fun j hj => by omega)))
  have r3 := H7.out.rb.cell 3
  have g3 := H7.out.rb.free 3
  simp at r3
  clear r6 s6 hc7 x1 f1 T0
  go_wp2
  go_ret2
  have T8 := (Stp.refl (· = K) c7 w6).setCell (p := ⟨r, 3, none⟩) (.slice (some a) 1 sc2) H7.out.rb.1
  refine ⟨rfl, xb, a, sc2, _, _, _, _, c7, S7.out.trans (T8.mono (fun j hj => by omega)), ⟨H7.out.rb.set 3 (.slice (some a) 1 sc2), H7.out.aa.imp fun _ b => b.stp T8 (by omega), H7.out.ca.stp T8 (by omega) (by omega), H7.out.ta.stp T8 (by omega)⟩, R7.out.stp T8 (by omega), X7.out.stp T8 (by omega), Row.nil _ _ _ _ _⟩
end
end Go.Proofs.YtiphdedfbafhkaaGreatDoor
