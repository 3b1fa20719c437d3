/- The walk of the law GraphNil. No condition. -/
import Derived.Test.YtmhhhiegioniaaaGraph10
namespace Go.Proofs.Ytmhhhiegioniaaa
open Go.RowKit Go.Deep

set_option maxRecDepth 100000 in
set_option maxHeartbeats 1000000 in
theorem gnil_walk (n : Int) (w : World) : Calls Try.prog 18 #[.int .i64 n] w fun e w' => e = .returned (.bool true) ∧ Below w.heap.size w w' := by
  have hno : hasB [] n = false := by simp [hasB]
  have Hno := Lib.hid hno
  have ha : addEr [] [] [n] = 3 := by rw [addEr, if_pos hno]
  have Ha := Lib.hid ha
  obtain ⟨c1, hc1, A1⟩ := ((Stp.refl (2 ≤ ·) (fun _ => 0) w).alloc (.cells #[.int .i64 n] 3) 80).name
  clear hno ha hc1
  go_enter Try.func18, Try.ntmps18
  go_wp2_with fail
  refine (gradd_nil c1 _ _).mono ?_
  rintro e w1 ⟨ev, rfl, c2, s2, e2⟩
  have S2 := Lib.hid (A1.out.trans (s2.mono (fun _ h => h.elim)))
  have E2 := Lib.hid e2
  clear s2 e2 A1
  go_wp2_with fail
  refine (graph_new c2 2 w1).mono ?_
  rintro e w3 ⟨rfl, c3, s3, g3⟩
  obtain ⟨p, hp⟩ : ∃ p, p = w1.heap.size := ⟨_, rfl⟩
  rw [← hp] at g3 ⊢
  have G3 := Lib.hid (g3.stp ((Stp.refl (fun _ => False) c3 w3).alloc (.cells #[.int .i64 n] 3) 80) (fun _ h => h.elim))
  have S3 := Lib.hid ((S2.out.trans (s3.mono (J' := (2 ≤ ·)) (fun _ h => h.elim))).alloc (.cells #[.int .i64 n] 3) 80)
  have E3 := Lib.hid ((E2.out.stp s3 id).stp ((Stp.refl (fun _ => False) c3 w3).alloc (.cells #[.int .i64 n] 3) 80) id)
  have R3 := Lib.hid (Row.new c3 80 w3 3 1 1 1 [.int .i64 n] rfl (by decide) (by decide)).toIn
  clear g3 s3 S2 E2 hp
  go_wp2_with fail
  refine (gradd_bad (l := [n]) G3.out (by decide) R3.out (by unfold GJ; omega) (by decide) (by rw [Ha.out]; decide)).mono ?_
  rintro e w4 ⟨fv, rfl, c4, s4, g4, e4⟩
  rw [Ha.out] at e4
  have G4 := Lib.hid g4
  have S4 := Lib.hid (S3.out.trans (s4.mono (fun _ h => h.1)))
  have E4 := Lib.hid (E3.out.stp s4 (by unfold GJ; omega))
  have F4 := Lib.hid e4
  clear g4 s4 e4 G3 S3 E3 R3
  go_wp2_with fail
  refine (awake13 c4 w4).mono ?_
  rintro e w5 ⟨rfl, c5, s5⟩
  have G5 := Lib.hid (G4.out.stp s5 (fun _ h => h.elim))
  have S5 := Lib.hid (S4.out.trans (s5.mono (fun _ h => h.elim)))
  have E5 := Lib.hid (E4.out.stp s5 id)
  have F5 := Lib.hid (F4.out.stp s5 id)
  clear s5 G4 S4 E4 F4
  go_wp2_with fail
  refine (lawis13 E5.out (by decide)).mono ?_
  rintro e w' ⟨rfl, rfl⟩
  go_wp2_with fail
  refine (grlink_nil c5 n n _).mono ?_
  rintro e w6 ⟨ev6, rfl, c6, s6, e6⟩
  have G6 := Lib.hid (G5.out.stp s6 (fun _ h => h.elim))
  have S6 := Lib.hid (S5.out.trans (s6.mono (fun _ h => h.elim)))
  have F6 := Lib.hid (F5.out.stp s6 id)
  have E6 := Lib.hid e6
  clear s6 e6 G5 S5 E5 F5
  go_wp2_with fail
  refine (lawis13 E6.out (by decide)).mono ?_
  rintro e w' ⟨rfl, rfl⟩
  go_wp2_with fail
  refine (grdrop_nil c6 n _).mono ?_
  rintro e w7 ⟨ev7, rfl, c7, s7, e7⟩
  have G7 := Lib.hid (G6.out.stp s7 (fun _ h => h.elim))
  have S7 := Lib.hid (S6.out.trans (s7.mono (fun _ h => h.elim)))
  have F7 := Lib.hid (F6.out.stp s7 id)
  have E7 := Lib.hid e7
  clear s7 e7 G6 S6 E6 F6
  go_wp2_with fail
  refine (lawis13 E7.out (by decide)).mono ?_
  rintro e w' ⟨rfl, rfl⟩
  go_wp2_with fail
  refine (ghas_nil n _).mono ?_
  rintro e w' ⟨rfl, rfl⟩
  go_wp2_with fail
  refine (grlen_nil _).mono ?_
  rintro e w' ⟨rfl, rfl⟩
  go_wp2_with fail
  refine (nil_after n _).mono ?_
  rintro e w' ⟨rfl, rfl⟩
  go_wp2_with fail
  refine (nil_behind n _).mono ?_
  rintro e w' ⟨rfl, rfl⟩
  go_wp2_with fail
  refine (nil_reach n _).mono ?_
  rintro e w' ⟨rfl, rfl⟩
  go_wp2_with fail
  refine (nil_ends _).mono ?_
  rintro e w' ⟨rfl, rfl⟩
  go_wp2_with fail
  refine (nil_order c7 _).mono ?_
  rintro e w8 ⟨rfl, c8, s8⟩
  have G8 := Lib.hid (G7.out.stp s8 (fun _ h => h.elim))
  have S8 := Lib.hid (S7.out.trans (s8.mono (fun _ h => h.elim)))
  have F8 := Lib.hid (F7.out.stp s8 id)
  clear s8 G7 S7 E7 F7
  go_wp2_with fail
  refine (nil_depth n _).mono ?_
  rintro e w' ⟨rfl, rfl⟩
  go_wp2_with fail
  refine (lawis13 F8.out (by decide)).mono ?_
  rintro e w' ⟨rfl, rfl⟩
  go_wp2_with fail
  refine (grdrop_none G8.out n Hno.out).mono ?_
  rintro e w9 ⟨ev9, rfl, c9, s9, e9⟩
  have G9 := Lib.hid (G8.out.stp s9 (fun _ h => h.elim))
  have S9 := Lib.hid (S8.out.trans (s9.mono (fun _ h => h.elim)))
  have E9 := Lib.hid e9
  clear s9 e9 G8 S8 F8
  go_wp2_with fail
  refine (lawis13 E9.out (by decide)).mono ?_
  rintro e w' ⟨rfl, rfl⟩
  go_wp2_with fail
  refine (ghas_no G9.out n Hno.out).mono ?_
  rintro e w' ⟨rfl, rfl⟩
  go_wp2_with fail
  refine (grreach_no G9.out n Hno.out).mono ?_
  rintro e w' ⟨rfl, rfl⟩
  go_wp2_with fail
  refine (grdepth_no G9.out n Hno.out).mono ?_
  rintro e w' ⟨rfl, rfl⟩
  go_wp2
  go_ret
  exact ⟨rfl, S9.out.fin⟩
end Go.Proofs.Ytmhhhiegioniaaa
