/- Contracts of a room's New, Actors, Clock, Arena, right, Park, Wake: for every room that is such (RM). No condition beyond each contract's own. -/
import Derived.Test.YtiphdedfbafhkaaGreatDoorActor3
import Derived.Test.YtiphdedfbafhkaaGreatDoorClock8
import Derived.Test.YtiphdedfbafhkaaGreatDoorClock9
import Derived.Test.YtiphdedfbafhkaaGreatDoorClock2
import Derived.Test.YtiphdedfbafhkaaGreatDoorCells3
namespace Go.Proofs.YtiphdedfbafhkaaGreatDoor
open Go.RowKit

/-- A room: its block of colour K, its clock K + 1 and K + 2, its actors K + 3, its arena K + 10. -/
structure RM (c : Nat → Nat) (K : Nat) (w : World) (r ar ck tb : Nat) (rs : Value) (la : List Int) (now : Int) (tl : List Tm) (l : List One) : Prop where
  rb : Blk c K w r [.pointer (some ⟨ar, 0, none⟩), .pointer (some ⟨ck, 0, none⟩), .pointer (some ⟨tb, 0, none⟩), rs] 104
  aa : ∃ s, ArenaAt c (K + 10) w ar la s
  ca : ClockAt c (K + 1) w ck now tl
  ta : TableAt c (K + 3) w tb l

/-- What the clock, the actors and what they hand back may turn. -/
def JR (K : Nat) (j : Nat) : Prop := j = K + 1 ∨ j = K + 2 ∨ j = K + 3 ∨ j = K + 4

section
variable {c c' : Nat → Nat} {K : Nat} {w w' : World} {r ar ck tb : Nat} {rs : Value} {la : List Int} {now : Int} {tl tl' : List Tm} {l l' : List One}

theorem RM.stp {J : Nat → Prop} (h : RM c K w r ar ck tb rs la now tl l) (s : Stp J c c' w w') (h0 : ¬ J K) (h1 : ¬ J (K + 1)) (h2 : ¬ J (K + 2)) (h3 : ¬ J (K + 3)) (h4 : ¬ J (K + 10)) : RM c' K w' r ar ck tb rs la now tl l :=
  ⟨h.rb.stp s h0, h.aa.imp fun _ a => a.stp s h4, h.ca.stp s h1 h2, h.ta.stp s h3⟩

theorem RM.stpF (h : RM c K w r ar ck tb rs la now tl l) (s : Stp (fun _ => False) c c' w w') : RM c' K w' r ar ck tb rs la now tl l := h.stp s id id id id id

theorem RM.table (h : RM c K w r ar ck tb rs la now tl l) (s : Stp (· = K + 3) c c' w w') (t : TableAt c' (K + 3) w' tb l') : RM c' K w' r ar ck tb rs la now tl l' :=
  ⟨h.rb.stp s (by omega), h.aa.imp fun _ a => a.stp s (by omega), h.ca.stp s (by omega) (by omega), t⟩

theorem RM.clock {now' : Int} (h : RM c K w r ar ck tb rs la now tl l) (s : Stp (KJ2 (K + 1)) c c' w w') (t : ClockAt c' (K + 1) w' ck now' tl') : RM c' K w' r ar ck tb rs la now' tl' l :=
  ⟨h.rb.stp s (by unfold KJ2; omega), h.aa.imp fun _ a => a.stp s (by unfold KJ2; omega), t, h.ta.stp s (by unfold KJ2; omega)⟩

theorem JR.t : ∀ j, j = K + 3 → JR K j := fun _ h => .inr (.inr (.inl h))
theorem JR.clk : ∀ j, KJ2 (K + 1) j → JR K j := fun _ h => h.elim .inl (fun h => .inr (.inl h))

theorem rmnew_c (c : Nat → Nat) (K : Nat) (w : World) :
    Calls Tryz.prog 32 #[] w fun e w' => ∃ r ar ck tb, e = .returned (.pointer (some ⟨r, 0, none⟩)) ∧ ∃ c', Stp (K ≤ ·) c c' w w' ∧ RM c' K w' r ar ck tb (.slice none 0 0) [] 0 [] [] := by
  go_enter Tryz.func32, Tryz.ntmps32
  go_wp2_with fail
  refine (new_any c (K + 10) w).mono ?_
  rintro e w1 ⟨rfl, c1, s1, a1⟩
  have S1 := Lib.hid s1
  have A1 := Lib.hid a1
  clear s1 a1
  go_wp2_with fail
  obtain ⟨c2, -, T2⟩ := ((Stp.refl (fun _ => False) c1 w1).alloc (.cells #[.int .i64 0, .slice none 0 0] 133) (K + 1)).name
  have C2 := Lib.hid (show ClockAt (paint c1 w1.heap.size (K + 1)) (K + 1) (w1.alloc (.cells #[.int .i64 0, .slice none 0 0] 133)) w1.heap.size 0 [] from ⟨0, none, 0, Blk.new c1 (K + 1) w1 [.int .i64 0, .slice none 0 0] _, Row.nil _ _ _ _ _, rfl⟩)
  refine (anew_any (paint c1 w1.heap.size (K + 1)) (K + 3) _).mono ?_
  rintro e w3 ⟨rfl, c3, s3, t3⟩
  have S2 := Lib.hid ((Stp.refl (fun _ => False) c1 w1).alloc (.cells #[.int .i64 0, .slice none 0 0] 133) (K + 1))
  have S3 := Lib.hid s3
  have T3 := Lib.hid t3
  clear s3 t3 T2
  go_wp2
  go_ret
  have hA := (A1.out.stp S2.out id).stp S3.out (by omega)
  have hC := C2.out.stp S3.out (by omega) (by omega)
  have S4 := (Stp.refl (fun _ => False) c3 w3).alloc (.cells #[.pointer (some ⟨w.heap.size, 0, none⟩), .pointer (some ⟨w1.heap.size, 0, none⟩), .pointer (some ⟨w1.heap.size + 1, 0, none⟩), .slice none 0 0] 104) K
  refine ⟨_, _, _, _, rfl, _, ?_, Blk.new c3 K w3 _ _, ⟨_, hA.stp S4 id⟩, hC.stp S4 id id, ?_⟩
  · exact (((S1.out.mono (fun j hj => by omega)).trans (S2.out.mono (fun _ h => h.elim))).trans (S3.out.mono (fun j hj => by omega))).trans (S4.mono (fun _ h => h.elim))
  · have := T3.out.stp S4 id
    simpa using this

theorem rmact_c (h : RM c K w r ar ck tb rs la now tl l) : Calls Tryz.prog 19 #[.pointer (some ⟨r, 0, none⟩)] w fun e w' => e = .returned (.pointer (some ⟨tb, 0, none⟩)) ∧ w = w' := by
  have c2 := h.rb.cell 2
  simp at c2
  clear h
  go_enter Tryz.func19, Tryz.ntmps19
  go_wp2
  go_ret
  exact ⟨rfl, rfl⟩

theorem rmclk_c (h : RM c K w r ar ck tb rs la now tl l) : Calls Tryz.prog 21 #[.pointer (some ⟨r, 0, none⟩)] w fun e w' => e = .returned (.pointer (some ⟨ck, 0, none⟩)) ∧ w = w' := by
  have c2 := h.rb.cell 1
  simp at c2
  clear h
  go_enter Tryz.func21, Tryz.ntmps21
  go_wp2
  go_ret
  exact ⟨rfl, rfl⟩

theorem rmarena_c (h : RM c K w r ar ck tb rs la now tl l) : Calls Tryz.prog 17 #[.pointer (some ⟨r, 0, none⟩)] w fun e w' => e = .returned (.pointer (some ⟨ar, 0, none⟩)) ∧ w = w' := by
  have c2 := h.rb.cell 0
  simp at c2
  clear h
  go_enter Tryz.func17, Tryz.ntmps17
  go_wp2
  go_ret
  exact ⟨rfl, rfl⟩

theorem rmright_c (h : RM c K w r ar ck tb rs la now tl l) {j : Nat} {x : One} (hj : l[j]? = some x) (hx : x.state ≠ 2) :
    Calls Tryz.prog 60 #[.pointer (some ⟨r, 0, none⟩), .int .i64 j] w fun e w' => e = .returned .nilIface ∧ w = w' := by
  have c2 := h.rb.cell 2
  simp at c2
  have hlt : j < l.length := (List.getElem?_eq_some_iff.1 hj).1
  have g0 : decide ((j : Int) < 0) = false := by simp
  have g1 : decide (l.length ≤ j) = false := by simp; omega
  have g2 : (x.state == 2) = false := by simpa using hx
  have HT := Lib.hid h.ta
  have Hj := Lib.hid hj
  clear h hj hx
  go_enter Tryz.func60, Tryz.ntmps60
  go_wp2_with fail
  refine (alen_any HT.out).mono ?_
  rintro e w1 ⟨rfl, rfl⟩
  go_wp2_with fail
  refine (astate_in HT.out j Hj.out).mono ?_
  rintro e w1 ⟨rfl, rfl⟩
  go_wp2
  go_ret
  exact ⟨rfl, rfl⟩

/-- Park without a deadline of who may be parked. -/
theorem rmpark0_c (h : RM c K w r ar ck tb rs la now tl l) {j : Nat} {x : One} (hj : l[j]? = some x) (hx : x.state ≠ 2) (ht : x.token = false) :
    Calls Tryz.prog 11 #[.pointer (some ⟨r, 0, none⟩), .int .i64 j, .int .i64 0] w fun e w' => e = .returned (.tuple #[.bool true, .nilIface]) ∧ ∃ c', Stp (JR K) c c' w w' ∧ RM c' K w' r ar ck tb rs la now tl (l.set j { x with state := 1 }) := by
  have c2 := h.rb.cell 2
  simp at c2
  have H := Lib.hid h
  have Hj := Lib.hid hj
  have Hx := Lib.hid hx
  have Ht := Lib.hid ht
  clear h hj hx ht
  go_enter Tryz.func11, Tryz.ntmps11
  go_wp2_with fail
  refine (rmright_c H.out Hj.out Hx.out).mono ?_
  rintro e w1 ⟨rfl, rfl⟩
  go_wp2_with fail
  refine (apark_yes H.out.ta j Hj.out Hx.out Ht.out).mono ?_
  rintro e w1 ⟨rfl, c1, s1, t1⟩
  have R1 := Lib.hid (H.out.table s1 t1)
  have S1 := Lib.hid s1
  clear s1 t1 c2
  go_wp2
  go_ret2
  exact ⟨rfl, c1, S1.out.mono JR.t, R1.out⟩

/-- Park with a deadline that is past. -/
theorem rmpark_past (h : RM c K w r ar ck tb rs la now tl l) {j : Nat} {x : One} (hj : l[j]? = some x) (hx : x.state ≠ 2) (d : Int) (h0 : 1 ≤ d) (h1 : d ≤ 1099511627776) (hd : d ≤ now) :
    Calls Tryz.prog 11 #[.pointer (some ⟨r, 0, none⟩), .int .i64 j, .int .i64 d] w fun e w' => e = .returned (.tuple #[.bool false, .nilIface]) ∧ w = w' := by
  have c1 := h.rb.cell 1
  simp at c1
  have H := Lib.hid h
  have Hj := Lib.hid hj
  have Hx := Lib.hid hx
  have g0 : decide (d < 0) = false := by simp; omega
  have g1 : decide ((1099511627776 : Int) < d) = false := by simp; omega
  have g2 : (d == 0) = false := by simp; omega
  have g2' : (d != 0) = true := by simp; omega
  have g3 : decide (d ≤ now) = true := by simpa using hd
  clear h hj hx h0 h1 hd
  go_enter Tryz.func11, Tryz.ntmps11
  go_wp2_with fail
  refine (rmright_c H.out Hj.out Hx.out).mono ?_
  rintro e w1 ⟨rfl, rfl⟩
  go_wp2_with fail
  refine (know_any H.out.ca).mono ?_
  rintro e w1 ⟨rfl, rfl⟩
  go_wp2
  go_ret2
  exact ⟨rfl, rfl⟩

/-- Park with a deadline that is to come. -/
theorem rmpark_d (h : RM c K w r ar ck tb rs la now tl l) {j : Nat} {x : One} (hj : l[j]? = some x) (hx : x.state ≠ 2) (ht : x.token = false) (d : Int) (h0 : 1 ≤ d) (h1 : d ≤ 1099511627776) (hd : now < d) (hl : tl.length < 64) (hj64 : j < 64) :
    Calls Tryz.prog 11 #[.pointer (some ⟨r, 0, none⟩), .int .i64 j, .int .i64 d] w fun e w' => e = .returned (.tuple #[.bool true, .nilIface]) ∧ ∃ c', Stp (JR K) c c' w w' ∧ RM c' K w' r ar ck tb rs la now (insT ⟨d, j⟩ (tl.filter (stays j))) (l.set j { x with state := 1 }) := by
  have c1 := h.rb.cell 1
  have c2 := h.rb.cell 2
  simp at c1 c2
  have H := Lib.hid h
  have Hj := Lib.hid hj
  have Hx := Lib.hid hx
  have Ht := Lib.hid ht
  have g0 : decide (d < 0) = false := by simp; omega
  have g1 : decide ((1099511627776 : Int) < d) = false := by simp; omega
  have g2 : (d == 0) = false := by simp; omega
  have g2' : (d != 0) = true := by simp; omega
  have g3 : decide (d ≤ now) = false := by simpa using hd
  have Hd := Lib.hid (And.intro hd h1)
  have Hl := Lib.hid hl
  have Hj64 := Lib.hid hj64
  clear h hj hx ht h0 h1 hd hl hj64
  go_enter Tryz.func11, Tryz.ntmps11
  go_wp2_with fail
  refine (rmright_c H.out Hj.out Hx.out).mono ?_
  rintro e w1 ⟨rfl, rfl⟩
  go_wp2_with fail
  refine (know_any H.out.ca).mono ?_
  rintro e w1 ⟨rfl, rfl⟩
  go_wp2_with fail
  refine (apark_yes H.out.ta j Hj.out Hx.out Ht.out).mono ?_
  rintro e w1 ⟨rfl, k1, s1, t1⟩
  have R1 := Lib.hid (H.out.table s1 t1)
  have S1 := Lib.hid (s1.mono (J' := JR K) JR.t)
  have c1' := R1.out.rb.cell 1
  simp at c1'
  clear s1 t1 c2 c1
  go_wp2_with fail
  refine (kdrop_any R1.out.ca j (by have := Hl.out; omega)).mono ?_
  rintro e w2 ⟨rfl, k2, s2, t2⟩
  have R2 := Lib.hid (R1.out.clock s2 t2)
  have S2 := Lib.hid (S1.out.trans (s2.mono JR.clk))
  have c2' := R2.out.rb.cell 1
  simp at c2'
  clear s2 t2 c1'
  go_wp2_with fail
  refine (kset_any R2.out.ca d j Hd.out.1 Hd.out.2 (by omega) (by have := Hj64.out; omega) (Nat.lt_of_le_of_lt (List.length_filter_le _ _) Hl.out)).mono ?_
  rintro e w3 ⟨rfl, k3, s3, t3⟩
  have R3 := Lib.hid (R2.out.clock s3 t3)
  have S3 := Lib.hid (S2.out.trans (s3.mono JR.clk))
  clear s3 t3 c2'
  go_wp2
  go_ret2
  exact ⟨rfl, k3, S3.out, R3.out⟩

/-- Wake of who is parked. -/
theorem rmwake_parked (h : RM c K w r ar ck tb rs la now tl l) {j : Nat} {x : One} (hj : l[j]? = some x) (hx : x.state = 1) (h0 : 0 ≤ x.wakes) (h1 : x.wakes < 4611686018427387904) (hl : (tl.length : Int) ≤ 1000) :
    Calls Tryz.prog 12 #[.pointer (some ⟨r, 0, none⟩), .int .i64 j] w fun e w' => e = .returned (.tuple #[.bool true, .nilIface]) ∧ ∃ c', Stp (JR K) c c' w w' ∧ RM c' K w' r ar ck tb rs la now (tl.filter (stays j)) (l.set j { x with state := 0, wakes := x.wakes + 1 }) := by
  have c1 := h.rb.cell 1
  simp at c1
  have H := Lib.hid h
  have Hj := Lib.hid hj
  have Hx := Lib.hid hx
  have Hb := Lib.hid (And.intro h0 h1)
  have Hl := Lib.hid hl
  clear h hj hx h0 h1 hl
  go_enter Tryz.func12, Tryz.ntmps12
  go_wp2_with fail
  refine (kdrop_any H.out.ca j Hl.out).mono ?_
  rintro e w2 ⟨rfl, k2, s2, t2⟩
  have R2 := Lib.hid (H.out.clock s2 t2)
  have S2 := Lib.hid (s2.mono (J' := JR K) JR.clk)
  have c2' := R2.out.rb.cell 2
  simp at c2'
  clear s2 t2 c1
  go_wp2_with fail
  refine (awake_parked R2.out.ta j Hj.out Hx.out Hb.out.1 Hb.out.2).mono ?_
  rintro e w3 ⟨rfl, k3, s3, t3⟩
  have R3 := Lib.hid (R2.out.table s3 t3)
  have S3 := Lib.hid (S2.out.trans (s3.mono JR.t))
  clear s3 t3 c2'
  go_wp2
  go_ret2
  exact ⟨rfl, k3, S3.out, R3.out⟩

/-- Wake of who is ready. -/
theorem rmwake_ready (h : RM c K w r ar ck tb rs la now tl l) {j : Nat} {x : One} (hj : l[j]? = some x) (hx : x.state ≠ 2) (hx1 : x.state ≠ 1) (h0 : 0 ≤ x.wakes) (h1 : x.wakes < 4611686018427387904) (hl : (tl.length : Int) ≤ 1000) :
    Calls Tryz.prog 12 #[.pointer (some ⟨r, 0, none⟩), .int .i64 j] w fun e w' => e = .returned (.tuple #[.bool false, .nilIface]) ∧ ∃ c', Stp (JR K) c c' w w' ∧ RM c' K w' r ar ck tb rs la now (tl.filter (stays j)) (l.set j { x with token := true, wakes := x.wakes + 1 }) := by
  have c1 := h.rb.cell 1
  simp at c1
  have H := Lib.hid h
  have Hj := Lib.hid hj
  have Hx := Lib.hid (And.intro hx hx1)
  have Hb := Lib.hid (And.intro h0 h1)
  have Hl := Lib.hid hl
  clear h hj hx hx1 h0 h1 hl
  go_enter Tryz.func12, Tryz.ntmps12
  go_wp2_with fail
  refine (kdrop_any H.out.ca j Hl.out).mono ?_
  rintro e w2 ⟨rfl, k2, s2, t2⟩
  have R2 := Lib.hid (H.out.clock s2 t2)
  have S2 := Lib.hid (s2.mono (J' := JR K) JR.clk)
  have c2' := R2.out.rb.cell 2
  simp at c2'
  clear s2 t2 c1
  go_wp2_with fail
  refine (awake_ready R2.out.ta j Hj.out Hx.out.1 Hx.out.2 Hb.out.1 Hb.out.2).mono ?_
  rintro e w3 ⟨rfl, k3, s3, t3⟩
  have R3 := Lib.hid (R2.out.table s3 t3)
  have S3 := Lib.hid (S2.out.trans (s3.mono JR.t))
  clear s3 t3 c2'
  go_wp2
  go_ret2
  exact ⟨rfl, k3, S3.out, R3.out⟩
end
end Go.Proofs.YtiphdedfbafhkaaGreatDoor
