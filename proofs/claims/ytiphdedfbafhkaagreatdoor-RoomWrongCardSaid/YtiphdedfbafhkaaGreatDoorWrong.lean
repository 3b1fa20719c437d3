/- The walk of the law RoomWrong. No condition but that the table of math/bits holds what the program lays there. -/
import Derived.Test.YtiphdedfbafhkaaGreatDoorRoom4
import Derived.Test.YtiphdedfbafhkaaGreatDoorSlots2
namespace Go.Proofs.YtiphdedfbafhkaaGreatDoor
open Go.RowKit

theorem lawis2 (w : World) : Calls Tryz.prog 14 #[.iface 98 (.int .i64 2), .int .i64 2] w fun e w' => e = .returned (.bool true) ∧ w = w' :=
  lawis (Err.num (fun _ => 0) w 2 (by decide)) 2

section
variable {c : Nat → Nat} {K : Nat} {w : World} {r ar ck tb : Nat} {rs : Value} {la : List Int} {now : Int} {tl : List Tm} {l : List One}

theorem rmclaim_nil (n who : Int) (w : World) :
    Calls Tryz.prog 8 #[.pointer none, .int .i64 n, .int .i64 who] w fun e w' => e = .returned (.tuple #[.agg #[.bool false, .pointer none, .int .i64 0, .slice none 0 0, .int .i64 0, .bool false, .bool false, .bool false, .pointer none, .int .i64 0, .int .i64 0, .int .i64 0, .int .i64 0, .slice none 0 0, .int .i64 0], .iface 98 (.int .i64 2)]) ∧ w' = w.alloc (.cells #[.bool false, .pointer none, .int .i64 0, .slice none 0 0, .int .i64 0, .bool false, .bool false, .bool false, .pointer none, .int .i64 0, .int .i64 0, .int .i64 0, .int .i64 0, .slice none 0 0, .int .i64 0] 38) := by
  go_enter Tryz.func8, Tryz.ntmps8
  go_wp2
  exact bodyPost_ret (v := .tuple #[.agg #[.bool false, .pointer none, .int .i64 0, .slice none 0 0, .int .i64 0, .bool false, .bool false, .bool false, .pointer none, .int .i64 0, .int .i64 0, .int .i64 0, .int .i64 0, .slice none 0 0, .int .i64 0], .iface 98 (.int .i64 2)]) (by simp [results, Tryz.results8, go_sem]) rfl ⟨rfl, rfl⟩

theorem rmring_kind (c : Nat → Nat) (r : Nat) (w : World) :
    Calls Tryz.prog 7 #[.pointer (some ⟨r, 0, none⟩), .int .i64 2, .int .i64 2] w fun e w' => ∃ t v, e = .returned (.tuple #[.int .i64 0, .iface t v]) ∧ ∃ c', Stp (fun _ => False) c c' w w' ∧ ErrAt c' w' (.iface t v) 1 := by
  go_enter Tryz.func7, Tryz.ntmps7
  go_wp2_with (go_at_call 50; refine (wrap_some _ _ _ _ _).mono ?_; rintro e w' ⟨rfl, rfl⟩)
  go_ret2
  exact ⟨_, _, rfl, _, (Stp.refl _ c w).alloc _ 1, ErrAt.new _ _ _ _ _⟩

theorem rmat_none (h : RM c K w r ar ck tb (.slice none 0 0) la now tl l) (n : Int) :
    Calls Tryz.prog 55 #[.pointer (some ⟨r, 0, none⟩), .int .i64 n] w fun e w' => ∃ t v, e = .returned (.tuple #[.pointer none, .iface t v]) ∧ ∃ c', Stp (fun _ => False) c c' w w' ∧ ErrAt c' w' (.iface t v) 3 := by
  have c3 := h.rb.cell 3
  simp at c3
  clear h
  by_cases hn : n < 0
  · have g0 : decide (n < 0) = true := by simpa using hn
    clear hn
    go_enter Tryz.func55, Tryz.ntmps55
    go_wp2_with (go_at_call 50; refine (wrap_some _ _ _ _ _).mono ?_; rintro e w' ⟨rfl, rfl⟩)
    go_ret2
    exact ⟨_, _, rfl, _, (Stp.refl _ c w).alloc _ 1, ErrAt.new _ _ _ _ _⟩
  · have g0 : decide (n < 0) = false := by simpa using hn
    have g1 : decide ((0 : Int) ≤ n) = true := by simp; omega
    have g2 : (0 : Int) ≤ n := by omega
    clear hn
    go_enter Tryz.func55, Tryz.ntmps55
    go_wp2_with (go_at_call 50; refine (wrap_some _ _ _ _ _).mono ?_; rintro e w' ⟨rfl, rfl⟩)
    go_ret2
    exact ⟨_, _, rfl, _, (Stp.refl _ c w).alloc _ 1, ErrAt.new _ _ _ _ _⟩

theorem rmpub_none (h : RM c K w r ar ck tb (.slice none 0 0) la now tl l) (n a : Int) :
    Calls Tryz.prog 33 #[.pointer (some ⟨r, 0, none⟩), .int .i64 n, .int .i64 a] w fun e w' => ∃ t v, e = .returned (.tuple #[.int .i64 0, .iface t v]) ∧ ∃ c', Stp (fun _ => False) c c' w w' ∧ ErrAt c' w' (.iface t v) 3 := by
  have H := Lib.hid h
  clear h
  go_enter Tryz.func33, Tryz.ntmps33
  go_wp2_with fail
  refine (rmat_none H.out n).mono ?_
  rintro e w1 ⟨t, v, rfl, c1, s1, e1⟩
  have S1 := Lib.hid s1
  have E1 := Lib.hid e1
  clear s1 e1
  go_wp2
  go_ret2
  exact ⟨t, v, rfl, c1, S1.out, E1.out⟩

theorem rmright_none (h : RM c K w r ar ck tb rs la now tl []) (who : Int) :
    Calls Tryz.prog 60 #[.pointer (some ⟨r, 0, none⟩), .int .i64 who] w fun e w' => ∃ t v, e = .returned (.iface t v) ∧ ∃ c', Stp (fun _ => False) c c' w w' ∧ ErrAt c' w' (.iface t v) 3 := by
  have c2 := h.rb.cell 2
  simp at c2
  have H := Lib.hid h
  clear h
  by_cases hn : who < 0
  · have g0 : decide (who < 0) = true := by simpa using hn
    clear hn
    go_enter Tryz.func60, Tryz.ntmps60
    go_wp2_with (go_at_call 50; refine (wrap_some _ _ _ _ _).mono ?_; rintro e w' ⟨rfl, rfl⟩)
    go_ret
    exact ⟨_, _, rfl, _, (Stp.refl _ c w).alloc _ 1, ErrAt.new _ _ _ _ _⟩
  · have g0 : decide (who < 0) = false := by simpa using hn
    have g1 : decide ((0 : Int) ≤ who) = true := by simp; omega
    have g2 : (0 : Int) ≤ who := by omega
    clear hn
    go_enter Tryz.func60, Tryz.ntmps60
    go_wp2_with fail
    refine (alen_any H.out.ta).mono ?_
    rintro e w1 ⟨rfl, rfl⟩
    rw [show ((([] : List One).length : Nat) : Int) = 0 from rfl]
    go_wp2_with (go_at_call 50; refine (wrap_some _ _ _ _ _).mono ?_; rintro e w' ⟨rfl, rfl⟩)
    go_ret
    exact ⟨_, _, rfl, _, (Stp.refl _ c w).alloc _ 1, ErrAt.new _ _ _ _ _⟩

theorem rmpark_range (c : Nat → Nat) (r : Nat) (who a : Int) (w : World) (h : a < 0 ∨ 1099511627776 < a) :
    Calls Tryz.prog 11 #[.pointer (some ⟨r, 0, none⟩), .int .i64 who, .int .i64 a] w fun e w' => ∃ t v, e = .returned (.tuple #[.bool false, .iface t v]) ∧ ∃ c', Stp (fun _ => False) c c' w w' ∧ ErrAt c' w' (.iface t v) 5 := by
  by_cases hn : a < 0
  · have g0 : decide (a < 0) = true := by simpa using hn
    clear hn h
    go_enter Tryz.func11, Tryz.ntmps11
    go_wp2_with (go_at_call 50; refine (wrap_some _ _ _ _ _).mono ?_; rintro e w' ⟨rfl, rfl⟩)
    go_ret2
    exact ⟨_, _, rfl, _, (Stp.refl _ c w).alloc _ 1, ErrAt.new _ _ _ _ _⟩
  · have g0 : decide (a < 0) = false := by simpa using hn
    have g1 : decide ((1099511627776 : Int) < a) = true := by simp; omega
    clear hn h
    go_enter Tryz.func11, Tryz.ntmps11
    go_wp2_with (go_at_call 50; refine (wrap_some _ _ _ _ _).mono ?_; rintro e w' ⟨rfl, rfl⟩)
    go_ret2
    exact ⟨_, _, rfl, _, (Stp.refl _ c w).alloc _ 1, ErrAt.new _ _ _ _ _⟩

theorem rmpark_none (h : RM c K w r ar ck tb rs la now tl []) (who a : Int) (h0 : 0 ≤ a) (h1 : a ≤ 1099511627776) :
    Calls Tryz.prog 11 #[.pointer (some ⟨r, 0, none⟩), .int .i64 who, .int .i64 a] w fun e w' => ∃ t v, e = .returned (.tuple #[.bool false, .iface t v]) ∧ ∃ c', Stp (fun _ => False) c c' w w' ∧ ErrAt c' w' (.iface t v) 3 := by
  have g0 : decide (a < 0) = false := by simp; omega
  have g1 : decide ((1099511627776 : Int) < a) = false := by simp; omega
  have H := Lib.hid h
  clear h h0 h1
  go_enter Tryz.func11, Tryz.ntmps11
  go_wp2_with fail
  refine (rmright_none H.out who).mono ?_
  rintro e w1 ⟨t, v, rfl, c1, s1, e1⟩
  have S1 := Lib.hid s1
  have E1 := Lib.hid e1
  clear s1 e1
  go_wp2
  go_ret2
  exact ⟨t, v, rfl, c1, S1.out, E1.out⟩

theorem rmhalt_none (h : RM c K w r ar ck tb rs la now [] []) (who : Int) :
    Calls Tryz.prog 15 #[.pointer (some ⟨r, 0, none⟩), .int .i64 who] w fun e w' => ∃ ev, e = .returned ev ∧ ∃ c', Stp (JR K) c c' w w' ∧ RM c' K w' r ar ck tb rs la now [] [] ∧ ErrAt c' w' ev 3 := by
  have c1 := h.rb.cell 1
  simp at c1
  have H := Lib.hid h
  clear h
  go_enter Tryz.func15, Tryz.ntmps15
  go_wp2_with fail
  refine (kdrop_any H.out.ca who (by decide)).mono ?_
  rintro e w1 ⟨rfl, k1, s1, t1⟩
  have M1 := Lib.hid (H.out.clock s1 t1)
  have S1 := Lib.hid (s1.mono (J' := JR K) JR.clk)
  have c2 := M1.out.rb.cell 2
  simp at c2
  have hw : wrongAt [] who = 3 := by
    unfold wrongAt
    rw [if_pos]
    by_cases hh : who < 0
    · exact .inl hh
    · exact .inr (by simp; omega)
  clear s1 t1 c1
  go_wp2_with fail
  refine (ahalt_bad M1.out.ta who (by rw [hw]; decide)).mono ?_
  rintro e w2 ⟨ev, rfl, k2, s2, e2⟩
  rw [hw] at e2
  have M2 := Lib.hid (M1.out.stpF s2)
  have S2 := Lib.hid (S1.out.trans (s2.mono (fun _ h => h.elim)))
  have E2 := Lib.hid e2
  clear s2 e2 c2
  go_wp2
  go_ret
  exact ⟨ev, rfl, k2, S2.out, M2.out, E2.out⟩
end

set_option maxRecDepth 100000 in
set_option maxHeartbeats 8000000 in
theorem wrong_walk (n who a : Int) {W : World} (ht : Tab W) :
    Calls Tryz.prog 3 #[.int .i64 n, .int .i64 who, .int .i64 a] W fun e W' => e = .returned (.bool true) ∧ Below W.heap.size W W' := by
  have Ht := Lib.hid ht
  clear ht
  go_enter Tryz.func3, Tryz.ntmps3
  go_wp2_with (first
      | (go_at_call 14; refine (lawis2 _).mono ?_; rintro e w' ⟨rfl, rfl⟩)
      | (go_at_call 29; refine (slsize_nil _).mono ?_; rintro e w' ⟨rfl, rfl⟩)
      | (go_at_call 30; refine (slots_k 0 (by decide) _).mono ?_; rintro e w' ⟨rfl, rfl⟩)
      | (go_at_call 8; refine (rmclaim_nil _ _ _).mono ?_; rintro e w' ⟨rfl, rfl⟩)
      | (go_at_call 7; go_in)
      | (go_at_call 9; go_in)
      | (go_at_call 10; go_in)
      | (go_at_call 11; go_in)
      | (go_at_call 12; go_in)
      | (go_at_call 13; go_in)
      | (go_at_call 15; go_in)
      | (go_at_call 16; go_in)
      | (go_at_call 55; go_in)
      | (go_at_call 17; go_in)
      | (go_at_call 18; go_in)
      | (go_at_call 19; go_in)
      | (go_at_call 20; go_in)
      | (go_at_call 21; go_in)
      | (go_at_call 22; go_in)
      | (go_at_call 23; go_in)
      | (go_at_call 24; go_in)
      | (go_at_call 25; go_in)
      | (go_at_call 26; go_in)
      | (go_at_call 27; go_in)
      | (go_at_call 28; go_in)
      | (go_at_call 31; go_in))
  refine (rmnew_c (fun _ => 0) 2 _).mono ?_
  rintro e w1 ⟨r, ar, ck, tb, rfl, c1, s1, m1⟩
  obtain ⟨WN, hb, s1⟩ : ∃ WN, Below W.heap.size W WN ∧ Stp (2 ≤ ·) (fun _ => 0) c1 WN w1 := by
    refine ⟨_, ?_, s1⟩
    repeat' first
      | exact Below.refl _ _
      | refine Below.alloc ?_ (by simp <;> omega) _
  have hB := Lib.hid hb
  have hTN := Lib.hid (show Tab WN from fun i hi => (hb.cell (World.block_lt_of_cell? W _ (Ht.out i hi))).trans (Ht.out i hi))
  have S1 := Lib.hid s1
  have M1 := Lib.hid m1
  clear s1 m1 hb
  go_wp2_with fail
  refine (rmring_kind c1 r w1).mono ?_
  rintro e w2 ⟨t2, v2, rfl, c2, s2, e2⟩
  have S2 := Lib.hid (S1.out.trans (s2.mono (fun _ h => h.elim)))
  have M2 := Lib.hid (M1.out.stpF s2)
  have E1' := Lib.hid e2
  clear s2 e2
  go_wp2_with fail
  refine (rmpub_none M2.out n a).mono ?_
  rintro e w3 ⟨t3, v3, rfl, c3, s3, e3⟩
  have S3 := Lib.hid (S2.out.trans (s3.mono (fun _ h => h.elim)))
  have M3 := Lib.hid (M2.out.stpF s3)
  have E1 := Lib.hid (E1'.out.stp (J := fun _ => False) s3 id)
  have E2 := Lib.hid e3
  clear s3 e3
  have ha3 : (decide (a < 0) = true) ∨ (decide (a < 0) = false ∧ decide ((1099511627776 : Int) < a) = true) ∨ (decide (a < 0) = false ∧ decide ((1099511627776 : Int) < a) = false) := by
    simp only [decide_eq_true_eq, decide_eq_false_iff_not]; omega
  rcases ha3 with b0 | ⟨b0, b1⟩ | ⟨b0, b1⟩
  · go_wp2_with fail
    refine (rmpark_range c3 r who a w3 (.inl (by simpa using b0))).mono ?_
    rintro e w4 ⟨t4, v4, rfl, c4, s4, e4⟩
    have S4 := Lib.hid (S3.out.trans (s4.mono (fun _ h => h.elim)))
    have M4 := Lib.hid (M3.out.stpF s4)
    have F1 := Lib.hid (E1.out.stp (J := fun _ => False) s4 id)
    have F2 := Lib.hid (E2.out.stp (J := fun _ => False) s4 id)
    have F3 := Lib.hid e4
    have T4 := Lib.hid (hTN.out.stp S4.out (by decide))
    have C4 := Lib.hid (show c4 1 = 0 from S4.out.col _ (World.block_lt_of_cell? WN _ (hTN.out 0 (by decide))))
    clear s4 e4
    go_wp2_with fail
    refine (awake14k 20 (by decide) c4 _ T4.out C4.out).mono ?_
    rintro e w5 ⟨rfl, c5, s5⟩
    have S5 := Lib.hid (S4.out.trans (s5.mono (fun j hj => by omega)))
    have M5 := Lib.hid (M4.out.stp s5 (by decide) (by decide) (by decide) (by decide) (by decide))
    have G1 := Lib.hid ((F1.out.stp s5 (by decide)).err (by decide))
    have G2 := Lib.hid ((F2.out.stp s5 (by decide)).err (by decide))
    have G3 := Lib.hid ((F3.out.stp s5 (by decide)).err (by decide))
    clear s5
    go_wp2_with fail
    refine (lawis G1.out 1).mono ?_
    rintro e w6 ⟨rfl, rfl⟩
    go_wp2_with fail
    refine (lawis G2.out 3).mono ?_
    rintro e w6 ⟨rfl, rfl⟩
    go_wp2_with fail
    refine (lawis G3.out 5).mono ?_
    rintro e w6 ⟨rfl, rfl⟩
    go_wp2_with fail
    refine (rmhalt_none M5.out who).mono ?_
    rintro e w7 ⟨ev, rfl, c7, s7, m7, e7⟩
    have S7 := Lib.hid (S5.out.trans (s7.mono (fun j hj => by unfold JR at hj; omega)))
    have M7 := Lib.hid m7
    have E7 := Lib.hid (e7.err (by decide))
    clear s7 m7 e7
    go_wp2_with fail
    refine (lawis E7.out 3).mono ?_
    rintro e w8 ⟨rfl, rfl⟩
    go_wp2_with fail
    refine (rmarena_c M7.out).mono ?_
    rintro e w8 ⟨rfl, rfl⟩
    obtain ⟨sa, ha⟩ := M7.out.aa
    go_wp2_with fail
    refine (len_any ha).mono ?_
    rintro e w8 ⟨rfl, rfl⟩
    go_wp2
    go_ret
    exact ⟨rfl, hB.out.trans (S7.out.below hB.out.size (fun _ _ => by decide))⟩
  · go_wp2_with fail
    refine (rmpark_range c3 r who a w3 (.inr (by simpa using b1))).mono ?_
    rintro e w4 ⟨t4, v4, rfl, c4, s4, e4⟩
    have S4 := Lib.hid (S3.out.trans (s4.mono (fun _ h => h.elim)))
    have M4 := Lib.hid (M3.out.stpF s4)
    have F1 := Lib.hid (E1.out.stp (J := fun _ => False) s4 id)
    have F2 := Lib.hid (E2.out.stp (J := fun _ => False) s4 id)
    have F3 := Lib.hid e4
    have T4 := Lib.hid (hTN.out.stp S4.out (by decide))
    have C4 := Lib.hid (show c4 1 = 0 from S4.out.col _ (World.block_lt_of_cell? WN _ (hTN.out 0 (by decide))))
    clear s4 e4
    go_wp2_with fail
    refine (awake14k 20 (by decide) c4 _ T4.out C4.out).mono ?_
    rintro e w5 ⟨rfl, c5, s5⟩
    have S5 := Lib.hid (S4.out.trans (s5.mono (fun j hj => by omega)))
    have M5 := Lib.hid (M4.out.stp s5 (by decide) (by decide) (by decide) (by decide) (by decide))
    have G1 := Lib.hid ((F1.out.stp s5 (by decide)).err (by decide))
    have G2 := Lib.hid ((F2.out.stp s5 (by decide)).err (by decide))
    have G3 := Lib.hid ((F3.out.stp s5 (by decide)).err (by decide))
    clear s5
    go_wp2_with fail
    refine (lawis G1.out 1).mono ?_
    rintro e w6 ⟨rfl, rfl⟩
    go_wp2_with fail
    refine (lawis G2.out 3).mono ?_
    rintro e w6 ⟨rfl, rfl⟩
    go_wp2_with fail
    refine (lawis G3.out 5).mono ?_
    rintro e w6 ⟨rfl, rfl⟩
    go_wp2_with fail
    refine (rmhalt_none M5.out who).mono ?_
    rintro e w7 ⟨ev, rfl, c7, s7, m7, e7⟩
    have S7 := Lib.hid (S5.out.trans (s7.mono (fun j hj => by unfold JR at hj; omega)))
    have M7 := Lib.hid m7
    have E7 := Lib.hid (e7.err (by decide))
    clear s7 m7 e7
    go_wp2_with fail
    refine (lawis E7.out 3).mono ?_
    rintro e w8 ⟨rfl, rfl⟩
    go_wp2_with fail
    refine (rmarena_c M7.out).mono ?_
    rintro e w8 ⟨rfl, rfl⟩
    obtain ⟨sa, ha⟩ := M7.out.aa
    go_wp2_with fail
    refine (len_any ha).mono ?_
    rintro e w8 ⟨rfl, rfl⟩
    go_wp2
    go_ret
    exact ⟨rfl, hB.out.trans (S7.out.below hB.out.size (fun _ _ => by decide))⟩
  · go_wp2_with fail
    refine (rmpark_none M3.out who a (by simpa using b0) (by simpa using b1)).mono ?_
    rintro e w4 ⟨t4, v4, rfl, c4, s4, e4⟩
    have S4 := Lib.hid (S3.out.trans (s4.mono (fun _ h => h.elim)))
    have M4 := Lib.hid (M3.out.stpF s4)
    have F1 := Lib.hid (E1.out.stp (J := fun _ => False) s4 id)
    have F2 := Lib.hid (E2.out.stp (J := fun _ => False) s4 id)
    have F3 := Lib.hid e4
    have T4 := Lib.hid (hTN.out.stp S4.out (by decide))
    have C4 := Lib.hid (show c4 1 = 0 from S4.out.col _ (World.block_lt_of_cell? WN _ (hTN.out 0 (by decide))))
    clear s4 e4
    go_wp2_with fail
    refine (awake14k 20 (by decide) c4 _ T4.out C4.out).mono ?_
    rintro e w5 ⟨rfl, c5, s5⟩
    have S5 := Lib.hid (S4.out.trans (s5.mono (fun j hj => by omega)))
    have M5 := Lib.hid (M4.out.stp s5 (by decide) (by decide) (by decide) (by decide) (by decide))
    have G1 := Lib.hid ((F1.out.stp s5 (by decide)).err (by decide))
    have G2 := Lib.hid ((F2.out.stp s5 (by decide)).err (by decide))
    have G3 := Lib.hid ((F3.out.stp s5 (by decide)).err (by decide))
    clear s5
    go_wp2_with fail
    refine (lawis G1.out 1).mono ?_
    rintro e w6 ⟨rfl, rfl⟩
    go_wp2_with fail
    refine (lawis G2.out 3).mono ?_
    rintro e w6 ⟨rfl, rfl⟩
    go_wp2_with fail
    refine (lawis G3.out 3).mono ?_
    rintro e w6 ⟨rfl, rfl⟩
    go_wp2_with fail
    refine (rmhalt_none M5.out who).mono ?_
    rintro e w7 ⟨ev, rfl, c7, s7, m7, e7⟩
    have S7 := Lib.hid (S5.out.trans (s7.mono (fun j hj => by unfold JR at hj; omega)))
    have M7 := Lib.hid m7
    have E7 := Lib.hid (e7.err (by decide))
    clear s7 m7 e7
    go_wp2_with fail
    refine (lawis E7.out 3).mono ?_
    rintro e w8 ⟨rfl, rfl⟩
    go_wp2_with fail
    refine (rmarena_c M7.out).mono ?_
    rintro e w8 ⟨rfl, rfl⟩
    obtain ⟨sa, ha⟩ := M7.out.aa
    go_wp2_with fail
    refine (len_any ha).mono ?_
    rintro e w8 ⟨rfl, rfl⟩
    go_wp2
    go_ret
    exact ⟨rfl, hB.out.trans (S7.out.below hB.out.size (fun _ _ => by decide))⟩
end Go.Proofs.YtiphdedfbafhkaaGreatDoor
