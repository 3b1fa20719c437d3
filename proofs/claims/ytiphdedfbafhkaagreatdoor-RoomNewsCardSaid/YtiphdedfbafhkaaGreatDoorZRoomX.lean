/- Contracts that the closing theorem wants (RoomX). No condition beyond each law's own. -/
import Derived.Test.YtiphdedfbafhkaaGreatDoorZAct
import Derived.Test.YtiphdedfbafhkaaGreatDoorZKcX
import Derived.Test.YtiphdedfbafhkaaGreatDoorZBB
import Derived.Test.YtiphdedfbafhkaaGreatDoorZMulY
import Derived.Deep.LoopGhost
namespace Go.Proofs.YtiphdedfbafhkaaGreatDoor
open Go.RowKit

/-- A room: its block of colour K, its clock K + 1 and K + 2, its actors K + 3, its arena K + 10. -/
structure RM (c : Nat → Nat) (K : Nat) (w : World) (r ar ck tb : Nat) (rs : Value) (la : List Int) (now : Int) (tl : List Tm) (l : List One) : Prop where
  rb : Blk c K w r [.pointer (some ⟨ar, 0, none⟩), .pointer (some ⟨ck, 0, none⟩), .pointer (some ⟨tb, 0, none⟩), rs] 104
  aa : ∃ s, ArenaAt c (K + 10) w ar la s
  ca : ClockAt c (K + 1) w ck now tl
  ta : TableAt c (K + 3) w tb l

/-- What the clock, the actors and what they hand back may turn. -/
def JR (K : Nat) (j : Nat) : Prop := j = K + 1 ∨ j = K + 2 ∨ j = K + 3 ∨ j = K + 4

section
variable {c c' : Nat → Nat} {K : Nat} {w w' : World} {r ar ck tb : Nat} {rs : Value} {la : List Int} {now : Int} {tl tl' : List Tm} {l l' : List One}

theorem RM.stp {J : Nat → Prop} (h : RM c K w r ar ck tb rs la now tl l) (s : Stp J c c' w w') (h0 : ¬ J K) (h1 : ¬ J (K + 1)) (h2 : ¬ J (K + 2)) (h3 : ¬ J (K + 3)) (h4 : ¬ J (K + 10)) : RM c' K w' r ar ck tb rs la now tl l :=
  ⟨h.rb.stp s h0, h.aa.imp fun _ a => a.stp s h4, h.ca.stp s h1 h2, h.ta.stp s h3⟩

theorem RM.stpF (h : RM c K w r ar ck tb rs la now tl l) (s : Stp (fun _ => False) c c' w w') : RM c' K w' r ar ck tb rs la now tl l := h.stp s id id id id id

theorem RM.table (h : RM c K w r ar ck tb rs la now tl l) (s : Stp (· = K + 3) c c' w w') (t : TableAt c' (K + 3) w' tb l') : RM c' K w' r ar ck tb rs la now tl l' :=
  ⟨h.rb.stp s (by omega), h.aa.imp fun _ a => a.stp s (by omega), h.ca.stp s (by omega) (by omega), t⟩

theorem RM.clock {now' : Int} (h : RM c K w r ar ck tb rs la now tl l) (s : Stp (KJ2 (K + 1)) c c' w w') (t : ClockAt c' (K + 1) w' ck now' tl') : RM c' K w' r ar ck tb rs la now' tl' l :=
  ⟨h.rb.stp s (by unfold KJ2; omega), h.aa.imp fun _ a => a.stp s (by unfold KJ2; omega), t, h.ta.stp s (by unfold KJ2; omega)⟩

theorem JR.t : ∀ j, j = K + 3 → JR K j := fun _ h => .inr (.inr (.inl h))
theorem JR.clk : ∀ j, KJ2 (K + 1) j → JR K j := fun _ h => h.elim .inl (fun h => .inr (.inl h))

theorem rmnew_c (c : Nat → Nat) (K : Nat) (w : World) :
    Calls Tryz.prog 32 #[] w fun e w' => ∃ r ar ck tb, e = .returned (.pointer (some ⟨r, 0, none⟩)) ∧ ∃ c', Stp (K ≤ ·) c c' w w' ∧ RM c' K w' r ar ck tb (.slice none 0 0) [] 0 [] [] := by
  go_enter Tryz.func32, Tryz.ntmps32
  go_wp2_with fail
  refine (new_any c (K + 10) w).mono ?_
  rintro e w1 ⟨rfl, c1, s1, a1⟩
  have S1 := Lib.hid s1
  have A1 := Lib.hid a1
  clear s1 a1
  go_wp2_with fail
  obtain ⟨c2, -, T2⟩ := ((Stp.refl (fun _ => False) c1 w1).alloc (.cells #[.int .i64 0, .slice none 0 0] 133) (K + 1)).name
  have C2 := Lib.hid (show ClockAt (paint c1 w1.heap.size (K + 1)) (K + 1) (w1.alloc (.cells #[.int .i64 0, .slice none 0 0] 133)) w1.heap.size 0 [] from ⟨0, none, 0, Blk.new c1 (K + 1) w1 [.int .i64 0, .slice none 0 0] _, Row.nil _ _ _ _ _, rfl⟩)
  refine (anew_any (paint c1 w1.heap.size (K + 1)) (K + 3) _).mono ?_
  rintro e w3 ⟨rfl, c3, s3, t3⟩
  have S2 := Lib.hid ((Stp.refl (fun _ => False) c1 w1).alloc (.cells #[.int .i64 0, .slice none 0 0] 133) (K + 1))
  have S3 := Lib.hid s3
  have T3 := Lib.hid t3
  clear s3 t3 T2
  go_wp2
  go_ret
  have hA := (A1.out.stp S2.out id).stp S3.out (by omega)
  have hC := C2.out.stp S3.out (by omega) (by omega)
  have S4 := (Stp.refl (fun _ => False) c3 w3).alloc (.cells #[.pointer (some ⟨w.heap.size, 0, none⟩), .pointer (some ⟨w1.heap.size, 0, none⟩), .pointer (some ⟨w1.heap.size + 1, 0, none⟩), .slice none 0 0] 104) K
  refine ⟨_, _, _, _, rfl, _, ?_, Blk.new c3 K w3 _ _, ⟨_, hA.stp S4 id⟩, hC.stp S4 id id, ?_⟩
  · exact (((S1.out.mono (fun j hj => by omega)).trans (S2.out.mono (fun _ h => h.elim))).trans (S3.out.mono (fun j hj => by omega))).trans (S4.mono (fun _ h => h.elim))
  · have := T3.out.stp S4 id
    simpa using this

theorem rmact_c (h : RM c K w r ar ck tb rs la now tl l) : Calls Tryz.prog 19 #[.pointer (some ⟨r, 0, none⟩)] w fun e w' => e = .returned (.pointer (some ⟨tb, 0, none⟩)) ∧ w = w' := by
  have c2 := h.rb.cell 2
  simp at c2
  clear h
  go_enter Tryz.func19, Tryz.ntmps19
  go_wp2
  go_ret
  exact ⟨rfl, rfl⟩

theorem rmclk_c (h : RM c K w r ar ck tb rs la now tl l) : Calls Tryz.prog 21 #[.pointer (some ⟨r, 0, none⟩)] w fun e w' => e = .returned (.pointer (some ⟨ck, 0, none⟩)) ∧ w = w' := by
  have c2 := h.rb.cell 1
  simp at c2
  clear h
  go_enter Tryz.func21, Tryz.ntmps21
  go_wp2
  go_ret
  exact ⟨rfl, rfl⟩

theorem rmarena_c (h : RM c K w r ar ck tb rs la now tl l) : Calls Tryz.prog 17 #[.pointer (some ⟨r, 0, none⟩)] w fun e w' => e = .returned (.pointer (some ⟨ar, 0, none⟩)) ∧ w = w' := by
  have c2 := h.rb.cell 0
  simp at c2
  clear h
  go_enter Tryz.func17, Tryz.ntmps17
  go_wp2
  go_ret
  exact ⟨rfl, rfl⟩

theorem rmright_c (h : RM c K w r ar ck tb rs la now tl l) {j : Nat} {x : One} (hj : l[j]? = some x) (hx : x.state ≠ 2) :
    Calls Tryz.prog 60 #[.pointer (some ⟨r, 0, none⟩), .int .i64 j] w fun e w' => e = .returned .nilIface ∧ w = w' := by
  have c2 := h.rb.cell 2
  simp at c2
  have hlt : j < l.length := (List.getElem?_eq_some_iff.1 hj).1
  have g0 : decide ((j : Int) < 0) = false := by simp
  have g1 : decide (l.length ≤ j) = false := by simp; omega
  have g2 : (x.state == 2) = false := by simpa using hx
  have HT := Lib.hid h.ta
  have Hj := Lib.hid hj
  clear h hj hx
  go_enter Tryz.func60, Tryz.ntmps60
  go_wp2_with fail
  refine (alen_any HT.out).mono ?_
  rintro e w1 ⟨rfl, rfl⟩
  go_wp2_with fail
  refine (astate_in HT.out j Hj.out).mono ?_
  rintro e w1 ⟨rfl, rfl⟩
  go_wp2
  go_ret
  exact ⟨rfl, rfl⟩

/-- Park without a deadline of who may be parked. -/
theorem rmpark0_c (h : RM c K w r ar ck tb rs la now tl l) {j : Nat} {x : One} (hj : l[j]? = some x) (hx : x.state ≠ 2) (ht : x.token = false) :
    Calls Tryz.prog 11 #[.pointer (some ⟨r, 0, none⟩), .int .i64 j, .int .i64 0] w fun e w' => e = .returned (.tuple #[.bool true, .nilIface]) ∧ ∃ c', Stp (JR K) c c' w w' ∧ RM c' K w' r ar ck tb rs la now tl (l.set j { x with state := 1 }) := by
  have c2 := h.rb.cell 2
  simp at c2
  have H := Lib.hid h
  have Hj := Lib.hid hj
  have Hx := Lib.hid hx
  have Ht := Lib.hid ht
  clear h hj hx ht
  go_enter Tryz.func11, Tryz.ntmps11
  go_wp2_with fail
  refine (rmright_c H.out Hj.out Hx.out).mono ?_
  rintro e w1 ⟨rfl, rfl⟩
  go_wp2_with fail
  refine (apark_yes H.out.ta j Hj.out Hx.out Ht.out).mono ?_
  rintro e w1 ⟨rfl, c1, s1, t1⟩
  have R1 := Lib.hid (H.out.table s1 t1)
  have S1 := Lib.hid s1
  clear s1 t1 c2
  go_wp2
  go_ret2
  exact ⟨rfl, c1, S1.out.mono JR.t, R1.out⟩

/-- Park with a deadline that is past. -/
theorem rmpark_past (h : RM c K w r ar ck tb rs la now tl l) {j : Nat} {x : One} (hj : l[j]? = some x) (hx : x.state ≠ 2) (d : Int) (h0 : 1 ≤ d) (h1 : d ≤ 1099511627776) (hd : d ≤ now) :
    Calls Tryz.prog 11 #[.pointer (some ⟨r, 0, none⟩), .int .i64 j, .int .i64 d] w fun e w' => e = .returned (.tuple #[.bool false, .nilIface]) ∧ w = w' := by
  have c1 := h.rb.cell 1
  simp at c1
  have H := Lib.hid h
  have Hj := Lib.hid hj
  have Hx := Lib.hid hx
  have g0 : decide (d < 0) = false := by simp; omega
  have g1 : decide ((1099511627776 : Int) < d) = false := by simp; omega
  have g2 : (d == 0) = false := by simp; omega
  have g2' : (d != 0) = true := by simp; omega
  have g3 : decide (d ≤ now) = true := by simpa using hd
  clear h hj hx h0 h1 hd
  go_enter Tryz.func11, Tryz.ntmps11
  go_wp2_with fail
  refine (rmright_c H.out Hj.out Hx.out).mono ?_
  rintro e w1 ⟨rfl, rfl⟩
  go_wp2_with fail
  refine (know_any H.out.ca).mono ?_
  rintro e w1 ⟨rfl, rfl⟩
  go_wp2
  go_ret2
  exact ⟨rfl, rfl⟩

/-- Wake of who is parked. -/
theorem rmwake_parked (h : RM c K w r ar ck tb rs la now tl l) {j : Nat} {x : One} (hj : l[j]? = some x) (hx : x.state = 1) (h0 : 0 ≤ x.wakes) (h1 : x.wakes < 4611686018427387904) (hl : (tl.length : Int) ≤ 1000) :
    Calls Tryz.prog 12 #[.pointer (some ⟨r, 0, none⟩), .int .i64 j] w fun e w' => e = .returned (.tuple #[.bool true, .nilIface]) ∧ ∃ c', Stp (JR K) c c' w w' ∧ RM c' K w' r ar ck tb rs la now (tl.filter (stays j)) (l.set j { x with state := 0, wakes := x.wakes + 1 }) := by
  have c1 := h.rb.cell 1
  simp at c1
  have H := Lib.hid h
  have Hj := Lib.hid hj
  have Hx := Lib.hid hx
  have Hb := Lib.hid (And.intro h0 h1)
  have Hl := Lib.hid hl
  clear h hj hx h0 h1 hl
  go_enter Tryz.func12, Tryz.ntmps12
  go_wp2_with fail
  refine (kdrop_any H.out.ca j Hl.out).mono ?_
  rintro e w2 ⟨rfl, k2, s2, t2⟩
  have R2 := Lib.hid (H.out.clock s2 t2)
  have S2 := Lib.hid (s2.mono (J' := JR K) JR.clk)
  have c2' := R2.out.rb.cell 2
  simp at c2'
  clear s2 t2 c1
  go_wp2_with fail
  refine (awake_parked R2.out.ta j Hj.out Hx.out Hb.out.1 Hb.out.2).mono ?_
  rintro e w3 ⟨rfl, k3, s3, t3⟩
  have R3 := Lib.hid (R2.out.table s3 t3)
  have S3 := Lib.hid (S2.out.trans (s3.mono JR.t))
  clear s3 t3 c2'
  go_wp2
  go_ret2
  exact ⟨rfl, k3, S3.out, R3.out⟩

/-- Wake of who is ready. -/
theorem rmwake_ready (h : RM c K w r ar ck tb rs la now tl l) {j : Nat} {x : One} (hj : l[j]? = some x) (hx : x.state ≠ 2) (hx1 : x.state ≠ 1) (h0 : 0 ≤ x.wakes) (h1 : x.wakes < 4611686018427387904) (hl : (tl.length : Int) ≤ 1000) :
    Calls Tryz.prog 12 #[.pointer (some ⟨r, 0, none⟩), .int .i64 j] w fun e w' => e = .returned (.tuple #[.bool false, .nilIface]) ∧ ∃ c', Stp (JR K) c c' w w' ∧ RM c' K w' r ar ck tb rs la now (tl.filter (stays j)) (l.set j { x with token := true, wakes := x.wakes + 1 }) := by
  have c1 := h.rb.cell 1
  simp at c1
  have H := Lib.hid h
  have Hj := Lib.hid hj
  have Hx := Lib.hid (And.intro hx hx1)
  have Hb := Lib.hid (And.intro h0 h1)
  have Hl := Lib.hid hl
  clear h hj hx hx1 h0 h1 hl
  go_enter Tryz.func12, Tryz.ntmps12
  go_wp2_with fail
  refine (kdrop_any H.out.ca j Hl.out).mono ?_
  rintro e w2 ⟨rfl, k2, s2, t2⟩
  have R2 := Lib.hid (H.out.clock s2 t2)
  have S2 := Lib.hid (s2.mono (J' := JR K) JR.clk)
  have c2' := R2.out.rb.cell 2
  simp at c2'
  clear s2 t2 c1
  go_wp2_with fail
  refine (awake_ready R2.out.ta j Hj.out Hx.out.1 Hx.out.2 Hb.out.1 Hb.out.2).mono ?_
  rintro e w3 ⟨rfl, k3, s3, t3⟩
  have R3 := Lib.hid (R2.out.table s3 t3)
  have S3 := Lib.hid (S2.out.trans (s3.mono JR.t))
  clear s3 t3 c2'
  go_wp2
  go_ret2
  exact ⟨rfl, k3, S3.out, R3.out⟩
end
end Go.Proofs.YtiphdedfbafhkaaGreatDoor

namespace Go.Proofs.YtiphdedfbafhkaaGreatDoor
open Go.RowKit

theorem Tryz.infoPring : (Tryz.prog.info? 105).map (fun i => (i.zero, i.size, i.bytes)) = some (some (.pointer none), 1, 8) := by kernel_rfl

/-- A ring's struct, of colour K + 5; who waits, of colour K + 7. -/
structure RG (c : Nat → Nat) (K : Nat) (w : World) (g : Nat) (v1 v2 v3 : Value) (wl : List Int) (ao : Option Addr) (cap : Nat) : Prop where
  gb : Blk c (K + 5) w g [.int .i64 1, v1, v2, v3, .slice ao wl.length cap] 107
  wr : Row c (K + 7) w 3 1 ao wl.length cap (wl.map (Value.int .i64))

/-- A room with one ring. -/
structure R1 (c : Nat → Nat) (K : Nat) (w : World) (r ar ck tb g : Nat) (a : Addr) (rc : Nat) (la : List Int) (now : Int) (tl : List Tm) (l : List One) (v1 v2 v3 : Value) (wl : List Int) (ao : Option Addr) (cap : Nat) : Prop where
  rm : RM c K w r ar ck tb (.slice (some a) 1 rc) la now tl l
  rr : Row c (K + 6) w 105 1 (some a) 1 rc [.pointer (some ⟨g, 0, none⟩)]
  rg : RG c K w g v1 v2 v3 wl ao cap

section
variable {c c' : Nat → Nat} {K : Nat} {w w' : World} {r ar ck tb : Nat}

set_option maxRecDepth 100000 in
set_option maxHeartbeats 2000000 in
theorem rmring_c (h : RM c K w r ar ck tb (.slice none 0 0) [] 0 [] []) (ht : Tab w) (hc : c 1 = 0) (hK : 2 ≤ K) :
    Calls Tryz.prog 7 #[.pointer (some ⟨r, 0, none⟩), .int .i64 2, .int .i64 1] w fun e w' => e = .returned (.tuple #[.int .i64 0, .nilIface]) ∧ ∃ g a rc la v1 v2 v3, ∃ c', Stp (K ≤ ·) c c' w w' ∧ R1 c' K w' r ar ck tb g a rc la 0 [] [] v1 v2 v3 [] none 0 := by
  have H := Lib.hid h
  have HT := Lib.hid ht
  have Hc := Lib.hid hc
  have HK := Lib.hid hK
  clear h ht hc hK
  go_enter Tryz.func7, Tryz.ntmps7
  go_wp2_with fail
  refine (of_pow c 1 (by decide) w HT.out).mono ?_
  rintro e w1 ⟨rfl, c1, s1⟩
  obtain ⟨c2, -, A2⟩ := (s1.alloc (.cells #[.int .i64 1] 65) 0).name
  have H2 := Lib.hid (H.out.stpF A2.out)
  have r3 := H2.out.rb.cell 3
  simp at r3
  clear s1
  obtain ⟨c3, hc3, A3⟩ := (A2.out.alloc (.cells #[.int .i64 1, .pointer none, .pointer none, .pointer none, .slice none 0 0] 107) (K + 5)).name
  have H3 := Lib.hid (H.out.stpF A3.out)
  have r0 := H3.out.rb.cell 0
  simp at r0
  have lr := H2.out.rb.lt
  have hne : (w1.alloc (.cells #[.int .i64 1] 65)).heap.size ≠ r := by omega
  go_wp2_with fail
  obtain ⟨sA, aA⟩ := H3.out.aa
  have hT3 : Tab ((w1.alloc (.cells #[.int .i64 1] 65)).alloc (.cells #[.int .i64 1, .pointer none, .pointer none, .pointer none, .slice none 0 0] 107)) := HT.out.stp A3.out id
  refine (mnew_ok (m := 2) aA 1 (by decide) (by simp) hT3 (by decide)).mono ?_
  rintro e w4 ⟨mp, bp, gp, rfl, c4, s4, a4, q4⟩
  have X3 := Blk.new c2 (K + 5) (w1.alloc (.cells #[.int .i64 1] 65)) [.int .i64 1, .pointer none, .pointer none, .pointer none, .slice none 0 0] 107
  have hX3 : Blk c3 (K + 5) ((w1.alloc (.cells #[.int .i64 1] 65)).alloc (.cells #[.int .i64 1, .pointer none, .pointer none, .pointer none, .slice none 0 0] 107)) (w1.heap.size + 1) [.int .i64 1, .pointer none, .pointer none, .pointer none, .slice none 0 0] 107 := by
    have e : (w1.alloc (.cells #[.int .i64 1] 65)).heap.size = w1.heap.size + 1 := by simp
    rw [← e, hc3.out]
    exact X3
  have X4 := Lib.hid (hX3.stp s4 (by omega))
  have H4 := Lib.hid (show RM c4 K w4 r ar ck tb (.slice none 0 0) _ 0 [] [] from ⟨H3.out.rb.stp s4 (by omega), ⟨_, a4⟩, H3.out.ca.stp s4 (by omega) (by omega), H3.out.ta.stp s4 (by omega)⟩)
  have S4 := Lib.hid ((A3.out.mono (J' := (K ≤ ·)) (fun _ h => h.elim)).trans (s4.mono (fun j hj => by omega)))
  have x3 := X4.out.cell 3
  have f3 := X4.out.free 3
  simp at x3
  have hxr : w1.heap.size + 1 ≠ r := by simp at lr; omega
  clear X3 hX3 s4 a4 q4 hT3 aA r3 r0 lr hne
  generalize w1.heap.size + 1 = xb at *
  go_wp2_with fail
  have hT5 : Tab (w4.setCell ⟨xb, 3, none⟩ (.pointer (some ⟨mp, 0, none⟩))) := HT.out.stp (S4.out.setCell (p := ⟨xb, 3, none⟩) _ (by rw [X4.out.1]; omega)) (by rw [Hc.out]; have := HK.out; omega)
  refine (slnew_n c4 (K + 8) 1 2 (by decide) (by decide) _ hT5).mono ?_
  rintro e w5 ⟨sp, rfl, c5, s5, -⟩
  have X5 := Lib.hid ((X4.out.set 3 (.pointer (some ⟨mp, 0, none⟩))).stp s5 id)
  have T45 := Lib.hid (((Stp.refl (· = K + 5) c4 w4).setCell (p := ⟨xb, 3, none⟩) (.pointer (some ⟨mp, 0, none⟩)) X4.out.1).trans (s5.mono (fun _ h => h.elim)))
  have H5 := Lib.hid (H4.out.stp T45.out (by omega) (by omega) (by omega) (by omega) (by omega))
  have S5 := Lib.hid (S4.out.trans (T45.out.mono (fun j hj => by omega)))
  have x1 := X5.out.cell 1
  have f1 := X5.out.free 1
  simp at x1
  clear s5 hT5 x3 f3
  have T6 := Lib.hid ((Stp.refl (· = K + 5) c5 w5).setCell (p := ⟨xb, 1, none⟩) (.pointer (some ⟨sp, 0, none⟩)) X5.out.1)
  have H6 := Lib.hid (H5.out.stp T6.out (by omega) (by omega) (by omega) (by omega) (by omega))
  have X6 := Lib.hid (X5.out.set 1 (.pointer (some ⟨sp, 0, none⟩)))
  have S6 := Lib.hid (S5.out.trans (T6.out.mono (fun j hj => by omega)))
  have r3 := H6.out.rb.cell 3
  simp at r3
  have d2 := Lib.hid (show (0 : Nat) + 1 ≤ maxLen by decide)
  have d3 := Lib.hid (show (0 + 1) * 8 ≤ 140737488355328 by decide)
  go_wp2_with (at_builtin; refine wpList_append_row _ rfl (.tmp 92) (.tmp 94) 102 rfl (paint c5 (w5.setCell ⟨xb, 1, none⟩ (.pointer (some ⟨sp, 0, none⟩))).heap.size (K + 6)) (K + 6) 105 (.pointer none) 1 8 Tryz.underlying102 Tryz.infoPring rfl none 0 0 [] rfl (Row.nil _ _ _ _ _) _ 1 [.pointer (some ⟨xb, 0, none⟩)] rfl (Src.oneAt (by simp)) (by simp [Value.oneCell']) d2.out d3.out ?_)
  rintro so2 sc2 w6 r6 s6 -
  obtain ⟨a, rfl⟩ : ∃ a, so2 = some a := by
    cases so2 with
    | some a => exact ⟨a, rfl⟩
    | none => have h1 := r6.2.1; have h2 := r6.2.2.2; simp only at h2; omega
  have T0 : Stp (· = K + 6) c5 (paint c5 w5.heap.size (K + 6)) (w5.setCell ⟨xb, 1, none⟩ (.pointer (some ⟨sp, 0, none⟩))) ((w5.setCell ⟨xb, 1, none⟩ (.pointer (some ⟨sp, 0, none⟩))).alloc (.cells #[.pointer (some ⟨xb, 0, none⟩)] 105)) := by
    have := (Stp.refl (· = K + 6) c5 (w5.setCell ⟨xb, 1, none⟩ (.pointer (some ⟨sp, 0, none⟩)))).alloc (.cells #[.pointer (some ⟨xb, 0, none⟩)] 105) (K + 6)
    rwa [show (w5.setCell ⟨xb, 1, none⟩ (.pointer (some ⟨sp, 0, none⟩))).heap.size = w5.heap.size by simp [World.setCell]] at this
  have T7 := Lib.hid (T0.trans s6)
  obtain ⟨c7, hc7⟩ : ∃ c7, c7 = paint (paint c5 w5.heap.size (K + 6)) (w5.heap.size + 1) (K + 6) := ⟨_, rfl⟩
  rw [← hc7] at T7 r6
  have R7 := Lib.hid (show Row c7 (K + 6) w6 105 1 (some a) 1 sc2 [.pointer (some ⟨xb, 0, none⟩)] by simpa using r6)
  have H7 := Lib.hid (H6.out.stp T7.out (by omega) (by omega) (by omega) (by omega) (by omega))
  have X7 := Lib.hid (X6.out.stp T7.out (by omega))
  have S7 := Lib.hid (S6.out.trans (T7.out.mono (fun j hj => by omega)))
  have r3 := H7.out.rb.cell 3
  have g3 := H7.out.rb.free 3
  simp at r3
  clear r6 s6 hc7 x1 f1 T0
  go_wp2
  go_ret2
  have T8 := (Stp.refl (· = K) c7 w6).setCell (p := ⟨r, 3, none⟩) (.slice (some a) 1 sc2) H7.out.rb.1
  refine ⟨rfl, xb, a, sc2, _, _, _, _, c7, S7.out.trans (T8.mono (fun j hj => by omega)), ⟨H7.out.rb.set 3 (.slice (some a) 1 sc2), H7.out.aa.imp fun _ b => b.stp T8 (by omega), H7.out.ca.stp T8 (by omega) (by omega), H7.out.ta.stp T8 (by omega)⟩, R7.out.stp T8 (by omega), X7.out.stp T8 (by omega), Row.nil _ _ _ _ _⟩
end
end Go.Proofs.YtiphdedfbafhkaaGreatDoor

namespace Go.Proofs.YtiphdedfbafhkaaGreatDoor
open Go.RowKit

theorem sindex_no {c : Nat → Nat} {k : Nat} {w : World} {ao : Option Addr} {n cap : Nat} {l : List Int} (h : In c k w 1 ao n cap (l.map (Value.int .i64))) (v : Int) (hno : ∀ x ∈ l, (v == x) = false) :
    Calls Tryz.prog 116 #[.slice ao n cap, .int .i64 v] w fun e w' => e = .returned (.int .i64 (-1)) ∧ w' = w := by
  have H := Lib.hid h
  have Hno := Lib.hid hno
  have Hl := Lib.hid (show l.length = n by simpa using h.1)
  have hcap : n ≤ 9223372036854775807 := by have h1 := h.2.1; have h2 := h.2.2.1; simp only [maxLen] at h2; omega
  clear h hno
  go_enter Tryz.func116, Tryz.ntmps116
  go_wp2
  go_loopg [8] n (fun gh i wr => wr = w ∧ ∃ j : Nat, i = .int .i64 j ∧ j + gh = n)
  case atStart => exact ⟨rfl, 0, rfl, by omega⟩
  case round =>
    obtain ⟨hw, j, rfl, hj⟩ := hrel
    subst hw
    by_cases hlt : j < n
    · obtain ⟨a, ha, y0⟩ := H.out.ints (j := j) hlt
      subst ha
      have hx := Hno.out (l.getD j 0) (by have := Hl.out; simp [List.getD, show j < l.length by omega])
      generalize l.getD j 0 = y at *
      go_wp2
      go_roundg (gk - 1)
      case rel => exact ⟨rfl, j + 1, by go_num, by omega⟩
      case measure => omega
    · go_wp2
      go_ret
      exact ⟨rfl, rfl⟩

theorem scontains_no {c : Nat → Nat} {k : Nat} {w : World} {ao : Option Addr} {n cap : Nat} {l : List Int} (h : In c k w 1 ao n cap (l.map (Value.int .i64))) (v : Int) (hno : ∀ x ∈ l, (v == x) = false) :
    Calls Tryz.prog 68 #[.slice ao n cap, .int .i64 v] w fun e w' => e = .returned (.bool false) ∧ w' = w := by
  have H := Lib.hid h
  have Hno := Lib.hid hno
  clear h hno
  go_enter Tryz.func68, Tryz.ntmps68
  go_wp2_with fail
  refine (sindex_no H.out v Hno.out).mono ?_
  rintro e w1 ⟨rfl, rfl⟩
  go_wp2
  go_ret
  exact ⟨rfl, rfl⟩

section
variable {c c' : Nat → Nat} {K : Nat} {w w' : World} {r ar ck tb g : Nat} {a : Addr} {rc : Nat} {la : List Int} {now now' : Int} {tl tl' : List Tm} {l l' : List One} {v1 v2 v3 : Value} {wl : List Int} {ao : Option Addr} {cap : Nat}

theorem R1.go (h : R1 c K w r ar ck tb g a rc la now tl l v1 v2 v3 wl ao cap) (s : Stp (JR K) c c' w w') (m : RM c' K w' r ar ck tb (.slice (some a) 1 rc) la now' tl' l') : R1 c' K w' r ar ck tb g a rc la now' tl' l' v1 v2 v3 wl ao cap :=
  ⟨m, h.rr.stp s (by unfold JR; omega), h.rg.gb.stp s (by unfold JR; omega), h.rg.wr.stp s (by unfold JR; omega)⟩

theorem rmat_c (h : R1 c K w r ar ck tb g a rc la now tl l v1 v2 v3 wl ao cap) :
    Calls Tryz.prog 55 #[.pointer (some ⟨r, 0, none⟩), .int .i64 0] w fun e w' => e = .returned (.tuple #[.pointer (some ⟨g, 0, none⟩), .nilIface]) ∧ w = w' := by
  have c3 := h.rm.rb.cell 3
  simp at c3
  obtain ⟨a', ha, hs, hc, -, -, -⟩ := h.rr.cell (j := 0) (v := .pointer (some ⟨g, 0, none⟩)) rfl
  cases ha
  have e0 : a.add 0 = a := by simp [Addr.add]
  rw [e0] at hc
  clear h
  go_enter Tryz.func55, Tryz.ntmps55
  go_wp2
  go_ret2
  exact ⟨rfl, rfl⟩

set_option maxRecDepth 100000 in
set_option maxHeartbeats 1000000 in
theorem rmenlist_c (h : R1 c K w r ar ck tb g a rc la now tl l v1 v2 v3 wl ao cap) {j : Nat} {x : One} (hj : l[j]? = some x) (hx : x.state ≠ 2) (hno : ∀ z ∈ wl, (((j : Nat) : Int) == z) = false) (hlen : wl.length ≤ 100) :
    Calls Tryz.prog 16 #[.pointer (some ⟨r, 0, none⟩), .int .i64 0, .int .i64 j] w fun e w' => e = .returned .nilIface ∧ ∃ ao' cap' c', Stp (K ≤ ·) c c' w w' ∧ R1 c' K w' r ar ck tb g a rc la now tl l v1 v2 v3 (wl ++ [(j : Int)]) ao' cap' := by
  have H := Lib.hid h
  have Hj := Lib.hid hj
  have Hx := Lib.hid hx
  have Hno := Lib.hid hno
  have d2 := Lib.hid (show wl.length + 1 ≤ maxLen by simp only [maxLen]; omega)
  have d3 := Lib.hid (show (wl.length + 1) * 8 ≤ 140737488355328 by omega)
  clear h hj hx hno hlen
  go_enter Tryz.func16, Tryz.ntmps16
  go_wp2_with fail
  refine (rmat_c H.out).mono ?_
  rintro e w1 ⟨rfl, rfl⟩
  go_wp2_with fail
  refine (rmright_c H.out.rm Hj.out Hx.out).mono ?_
  rintro e w1 ⟨rfl, rfl⟩
  have g4 := H.out.rg.gb.cell 4
  have f4 := H.out.rg.gb.free 4
  simp at g4
  go_wp2_with fail
  refine (scontains_no H.out.rg.wr.toIn (j : Int) Hno.out).mono ?_
  rintro e w1 ⟨rfl, rfl⟩
  go_wp2_with (at_builtin; refine wpList_append_row _ rfl (.tmp 36) (.tmp 38) 29 rfl (paint c w1.heap.size (K + 7)) (K + 7) 3 (.int .i64 0) 1 8 Tryz.underlying29 Tryz.infoIntK rfl ao wl.length cap (wl.map (Value.int .i64)) rfl (H.out.rg.wr.alloc _ (K + 7)) _ 1 [.int .i64 (j : Int)] rfl (Src.one _ _ _) (by simp [Value.oneCell']) d2.out d3.out ?_)
  rintro so2 sc2 w6 r6 s6 -
  have T7 := Lib.hid (((Stp.refl (· = K + 7) c w1).alloc (.cells #[.int .i64 (j : Int)] 3) (K + 7)).trans s6)
  obtain ⟨c7, hc7⟩ : ∃ c7, c7 = paint (paint c w1.heap.size (K + 7)) (w1.heap.size + 1) (K + 7) := ⟨_, rfl⟩
  rw [← hc7] at T7 r6
  have R7 := Lib.hid r6
  have G7 := Lib.hid (H.out.rg.gb.stp T7.out (by omega))
  have g4' := G7.out.cell 4
  have f4' := G7.out.free 4
  simp at g4'
  clear r6 s6 hc7 g4 f4
  go_wp2
  go_ret
  have T8 := (Stp.refl (· = K + 5) c7 w6).setCell (p := ⟨g, 4, none⟩) (.slice so2 (wl.length + 1) sc2) G7.out.1
  have T := T7.out.mono (J' := fun j => j = K + 5 ∨ j = K + 7) (fun j hj => .inr hj) |>.trans (T8.mono (fun j hj => .inl hj))
  refine ⟨rfl, so2, sc2, c7, T.mono (fun j hj => by omega), H.out.rm.stp T (by omega) (by omega) (by omega) (by omega) (by omega), H.out.rr.stp T (by omega), ?_, ?_⟩
  · simpa using G7.out.set 4 (.slice so2 (wl.length + 1) sc2)
  · simpa using R7.out.stp T8 (by omega)

set_option maxRecDepth 100000 in
set_option maxHeartbeats 1000000 in
/-- Signal where the first of two is parked, the second ready. -/
theorem rmsignal_c (h : R1 c K w r ar ck tb g a rc la now [] [⟨1, false, 0⟩, ⟨0, false, 0⟩] v1 v2 v3 [0, 1] ao cap) :
    Calls Tryz.prog 10 #[.pointer (some ⟨r, 0, none⟩), .int .i64 0] w fun e w' => e = .returned (.tuple #[.int .i64 1, .nilIface]) ∧ ∃ c', Stp (K ≤ ·) c c' w w' ∧ RM c' K w' r ar ck tb (.slice (some a) 1 rc) la now [] [⟨0, false, 1⟩, ⟨0, true, 1⟩] := by
  have H := Lib.hid h
  obtain ⟨a0, ha, hs, hc0, -, -, -⟩ := h.rg.wr.cell (j := 0) (v := .int .i64 0) rfl
  cases ha
  obtain ⟨a1, ha, hs1, hc1, -, -, -⟩ := h.rg.wr.cell (j := 1) (v := .int .i64 1) rfl
  cases ha
  have e0 : a0.add 0 = a0 := by simp [Addr.add]
  rw [e0] at hc0
  have HC1 := Lib.hid h.rg.wr
  have hg4 := h.rg.gb.cell 4
  simp at hg4
  clear h e0 hs hs1
  go_enter Tryz.func10, Tryz.ntmps10
  go_wp2_with fail
  refine (rmat_c H.out).mono ?_
  rintro e w1 ⟨rfl, rfl⟩
  go_wp2
  refine wp_loop_rounds 3 ?_
  rw [rounds_succ]
  go_wp2_with fail
  refine (rmwake_parked (j := 0) H.out.rm rfl rfl (by decide) (by decide) (by decide)).mono ?_
  rintro e w2 ⟨rfl, c2, s2, m2⟩
  have H2 := Lib.hid (H.out.go s2 m2)
  have S2 := Lib.hid s2
  obtain ⟨a2, ha, -, hc2, -, hadd, -⟩ := H2.out.rg.wr.cell (j := 1) (v := .int .i64 1) rfl
  cases ha
  have hc2' := hc2
  rw [hadd] at hc2'
  clear s2 m2 hc0 hc1 hg4 hadd
  go_wp2
  rw [rounds_succ]
  go_wp2_with fail
  refine (rmwake_ready (j := 1) H2.out.rm rfl (by decide) (by decide) (by decide) (by decide) (by decide)).mono ?_
  rintro e w3 ⟨rfl, c3, s3, m3⟩
  have H3 := Lib.hid (H2.out.go s3 m3)
  have S3 := Lib.hid (S2.out.trans s3)
  have g4 := H3.out.rg.gb.cell 4
  have f4 := H3.out.rg.gb.free 4
  simp at g4
  clear s3 m3 hc2 hc2'
  go_wp2
  rw [rounds_succ]
  go_wp2
  go_ret2
  have T8 := (Stp.refl (· = K + 5) c3 w3).setCell (p := ⟨g, 4, none⟩) (.slice none 0 0) H3.out.rg.gb.1
  exact ⟨rfl, c3, (S3.out.mono (fun j hj => by unfold JR at hj; omega)).trans (T8.mono (fun j hj => by omega)), H3.out.rm.stp T8 (by omega) (by omega) (by omega) (by omega) (by omega)⟩
end
end Go.Proofs.YtiphdedfbafhkaaGreatDoor

namespace Go.Proofs.YtiphdedfbafhkaaGreatDoor
open Go.RowKit

set_option maxRecDepth 100000 in
set_option maxHeartbeats 2000000 in
theorem awake14k (K : Nat) (hK : 2 ≤ K) (c : Nat → Nat) (w : World) (ht : Tab w) (hc : c 1 = 0) :
    Calls Tryz.prog 34 #[] w fun e w' => e = .returned (.bool true) ∧ ∃ c', Stp (K ≤ ·) c c' w w' := by
  have HT := Lib.hid ht
  have Hc := Lib.hid hc
  have HK := Lib.hid hK
  clear ht hc hK
  go_enter Tryz.func34, Tryz.ntmps34
  go_wp2_with fail
  refine (rmnew_c c K w).mono ?_
  rintro e w1 ⟨r, ar, ck, tb, rfl, c1, s1, m1⟩
  have S1 := Lib.hid s1
  have M1 := Lib.hid m1
  have T1 := Lib.hid (HT.out.stp s1 (by rw [Hc.out]; have := HK.out; omega))
  have hc1 : c1 1 = 0 := by rw [s1.col _ (World.block_lt_of_cell? w _ (HT.out 0 (by decide))), Hc.out]
  have Hc1 := Lib.hid hc1
  clear s1 m1 hc1
  go_wp2_with fail
  refine (rmring_c M1.out T1.out Hc1.out HK.out).mono ?_
  rintro e w2 ⟨rfl, g, a, rc, la, v1, v2, v3, c2, s2, m2⟩
  have S2 := Lib.hid (S1.out.trans s2)
  have M2 := Lib.hid m2
  clear s2 m2
  go_wp2_with fail
  refine (rmact_c M2.out.rm).mono ?_
  rintro e w3 ⟨rfl, rfl⟩
  go_wp2_with fail
  refine (aadd_ok M2.out.rm.ta (by decide)).mono ?_
  rintro e w3 ⟨rfl, c3, s3, t3⟩
  have M3 := Lib.hid (M2.out.go (s3.mono JR.t) (M2.out.rm.table s3 t3))
  have S3 := Lib.hid (S2.out.trans (s3.mono (fun j hj => by omega)))
  clear s3 t3
  go_wp2_with fail
  refine (rmact_c M3.out.rm).mono ?_
  rintro e w4 ⟨rfl, rfl⟩
  go_wp2_with fail
  refine (aadd_ok M3.out.rm.ta (by decide)).mono ?_
  rintro e w4 ⟨rfl, c4, s4, t4⟩
  have M4 := Lib.hid (M3.out.go (s4.mono JR.t) (M3.out.rm.table s4 t4))
  have S4 := Lib.hid (S3.out.trans (s4.mono (fun j hj => by omega)))
  clear s4 t4
  go_wp2_with fail
  refine (rmenlist_c (j := 0) M4.out rfl (by decide) (by simp) (by decide)).mono ?_
  rintro e w5 ⟨rfl, ao5, cap5, c5, s5, m5⟩
  have S5 := Lib.hid (S4.out.trans s5)
  have M5 := Lib.hid m5
  clear s5 m5
  go_wp2_with fail
  refine (rmenlist_c (j := 1) M5.out rfl (by decide) (by decide) (by decide)).mono ?_
  rintro e w6 ⟨rfl, ao6, cap6, c6, s6, m6⟩
  have S6 := Lib.hid (S5.out.trans s6)
  have M6 := Lib.hid m6
  clear s6 m6
  go_wp2_with fail
  refine (rmpark0_c (j := 0) M6.out.rm rfl (by decide) rfl).mono ?_
  rintro e w7 ⟨rfl, c7, s7, m7⟩
  have S7 := Lib.hid (S6.out.trans (s7.mono (fun j hj => by unfold JR at hj; omega)))
  have M7 := Lib.hid (show R1 c7 K w7 r ar ck tb g a rc la 0 [] [⟨1, false, 0⟩, ⟨0, false, 0⟩] v1 v2 v3 [0, 1] ao6 cap6 from M6.out.go s7 m7)
  clear s7 m7
  go_wp2_with fail
  refine (rmsignal_c M7.out).mono ?_
  rintro e w8 ⟨rfl, c8, s8, m8⟩
  have S8 := Lib.hid (S7.out.trans s8)
  have M8 := Lib.hid m8
  clear s8 m8
  go_wp2_with fail
  refine (rmact_c M8.out).mono ?_
  rintro e w9 ⟨rfl, rfl⟩
  go_wp2_with fail
  refine (astate_in M8.out.ta 0 rfl).mono ?_
  rintro e w9 ⟨rfl, rfl⟩
  go_wp2_with fail
  refine (rmact_c M8.out).mono ?_
  rintro e w9 ⟨rfl, rfl⟩
  go_wp2_with fail
  refine (atoken_in M8.out.ta 1 rfl).mono ?_
  rintro e w9 ⟨rfl, rfl⟩
  go_wp2
  go_ret
  exact ⟨rfl, c8, S8.out⟩
end Go.Proofs.YtiphdedfbafhkaaGreatDoor
