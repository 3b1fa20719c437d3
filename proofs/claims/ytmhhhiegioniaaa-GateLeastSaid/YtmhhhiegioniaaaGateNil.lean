/- The walk of the law GateNil, and of the example of layer 8: it returns true for all numbers, and turns nothing that was there. No condition. -/
import Derived.Test.YtmhhhiegioniaaaGate2
namespace Go.Proofs.Ytmhhhiegioniaaa
open Go.RowKit

theorem awake8 (c : Nat → Nat) (w : World) :
    Calls Try.prog 32 #[] w fun e w' => e = .returned (.bool true) ∧ ∃ c', Stp (2 ≤ ·) c c' w w' := by
  go_enter Try.func32, Try.ntmps32
  go_wp2_with fail
  refine (new_any c 2 _).mono ?_
  rintro e w1 ⟨rfl, c1, s1, h1⟩
  go_wp2_with fail
  refine (alloc_ok h1 _ (by simp)).mono ?_
  rintro e w2 ⟨rfl, c2, s2, h2⟩
  go_wp2_with fail
  refine (alloc_ok h2 _ (by simp)).mono ?_
  rintro e w3 ⟨rfl, c3, s3, h3⟩
  have S3 := Lib.hid (((s1.trans s2).trans s3).up (by decide))
  have H3 := Lib.hid (h3.stp ((Stp.refl (fun _ => False) c3 w3).alloc (.cells #[.int .i64 0, .int .i64 1] 3) 4) id)
  clear s1 s2 s3 h1 h2 h3
  go_wp2_with fail
  refine (gof_any (k := 3) (l := [0, 1]) (Row.new c3 4 w3 3 1 2 2 [.int .i64 0, .int .i64 1] rfl (by decide) (by decide)).toIn (by decide)).mono ?_
  rintro e w4 ⟨c4, s4, h4⟩
  obtain ⟨_, p, rfl, hg⟩ | ⟨h, _⟩ := h4
  rotate_left
  · exact absurd (by simp [addRef, gaddErr]) h
  have S4 := Lib.hid ((S3.out.trans ((Stp.refl (2 ≤ ·) c3 w3).alloc (.cells #[.int .i64 0, .int .i64 1] 3) 4)).trans (s4.up (by decide)))
  have G4 := Lib.hid (show GroupAt c4 3 w4 p [0, 1] by simpa [addRef, gaddErr] using hg)
  have H4 := Lib.hid (H3.out.stp s4 (by decide))
  clear s4 hg S3 H3
  go_wp2_with fail
  refine (gleast_ok G4.out H4.out (by decide) (by simp) (by decide) (by simp) 9).mono ?_
  rintro e w5 ⟨rfl, c5, s5, h5⟩
  go_wp2_with fail
  refine (gleast_ok (G4.out.stp s5 (by decide)) h5 (by decide) (by simp) (by decide) (by simp) 1).mono ?_
  rintro e w6 ⟨rfl, c6, s6, h6⟩
  have S6 := Lib.hid ((S4.out.trans (s5.up (by decide))).trans (s6.up (by decide)))
  clear s5 s6 h5 h6
  go_wp2_with fail
  go_ret
  exact ⟨by simp [valAt]; decide, c6, S6.out⟩

set_option maxRecDepth 100000 in
set_option maxHeartbeats 1000000 in
theorem gnil_walk (who most : Int) (w : World) :
    Calls Try.prog 10 #[.int .i64 who, .int .i64 most] w fun e w' => e = .returned (.bool true) ∧ Below w.heap.size w w' := by
  go_enter Try.func10, Try.ntmps10
  go_wp2_with fail
  refine (new_any (fun _ => 0) 2 _).mono ?_
  rintro e w1 ⟨rfl, c1, s1, h1⟩
  have S1 := Lib.hid (s1.up (by decide))
  have H1 := Lib.hid (h1.stp ((Stp.refl (fun _ => False) c1 w1).alloc (.cells #[.int .i64 3] 3) 4) id)
  clear s1 h1
  go_wp2_with (first
    | (go_at_call 36; refine (gleast_nil _ _ _).mono ?_; rintro e w' ⟨rfl, rfl⟩)
    | (go_at_call 38; refine (gwho_nil _ _).mono ?_; rintro e w' ⟨rfl, rfl⟩))
  refine (gof_any (k := 3) (l := [3]) (Row.new c1 4 w1 3 1 1 1 [.int .i64 3] rfl (by decide) (by decide)).toIn (by decide)).mono ?_
  rintro e w4 ⟨c4, s4, h4⟩
  obtain ⟨_, p, rfl, hg⟩ | ⟨h, _⟩ := h4
  rotate_left
  · exact absurd (by simp [addRef, gaddErr]) h
  have S4 := Lib.hid ((S1.out.trans ((Stp.refl (2 ≤ ·) c1 w1).alloc (.cells #[.int .i64 3] 3) 4)).trans (s4.up (by decide)))
  have G4 := Lib.hid (show GroupAt c4 3 w4 p [3] by simpa [addRef, gaddErr] using hg)
  have H4 := Lib.hid (H1.out.stp s4 (by decide))
  clear s4 hg S1 H1
  go_wp2_with fail
  refine (gleast_nila _ _ _).mono ?_
  rintro e w' ⟨rfl, rfl⟩
  go_wp2_with fail
  refine (gleast_bad G4.out H4.out (.inr (by simp)) most).mono ?_
  rintro e w5 ⟨ev5, rfl, c5, s5, h5, e5⟩
  have G5 := Lib.hid (G4.out.stp s5 (by decide))
  have S5 := Lib.hid (S4.out.trans (s5.up (by decide)))
  have H5 := Lib.hid h5
  have E5 := Lib.hid e5
  clear s5 h5 e5 S4 G4 H4
  go_wp2_with fail
  refine (gscan_any G5.out 4 (by simp) most).mono ?_
  rintro e w6 ⟨ao6, cap6, rfl, c6, s6, r6⟩
  have S6 := Lib.hid (S5.out.trans (s6.mono (fun _ h => h.elim)))
  have H6 := Lib.hid (H5.out.stp s6 (fun h => h))
  have E6 := Lib.hid (E5.out.stp s6 (fun h => h))
  have R6 := Lib.hid r6
  clear S5 H5 E5 G5 s6 r6
  go_wp2_with fail
  refine (scstep_bad (r := []) R6.out.toIn H6.out (.inr (by simp)) (by decide) most).mono ?_
  rintro e w7 ⟨ev7, rfl, c7, s7, h7, e7⟩
  have S7 := Lib.hid ((S6.out.trans (s7.up (by decide))).trans ((Stp.refl (2 ≤ ·) c7 w7).alloc (.cells #[.slice ao6 1 cap6, .int .i64 most] 55) 0))
  have E7 := Lib.hid ((E6.out.stp s7 (by decide)).stp ((Stp.refl (2 ≤ ·) c7 w7).alloc (.cells #[.slice ao6 1 cap6, .int .i64 most] 55) 0) (by decide))
  have F7 := Lib.hid (e7.stp ((Stp.refl (2 ≤ ·) c7 w7).alloc (.cells #[.slice ao6 1 cap6, .int .i64 most] 55) 0) (by decide))
  have B7 := Lib.hid (Blk.new c7 0 w7 [.slice ao6 1 cap6, .int .i64 most] 55)
  clear S6 H6 E6 R6 s7 h7 e7
  go_wp2_with fail
  refine (awake8 (paint c7 w7.heap.size 0) _).mono ?_
  rintro e w8 ⟨rfl, c8, s8⟩
  have S8 := Lib.hid (S7.out.trans s8)
  have E8 := Lib.hid (E7.out.stp s8 (by decide))
  have F8 := Lib.hid (F7.out.stp s8 (by decide))
  have b8 := B7.out.stp s8 (by decide)
  have d0 := b8.cell 0
  have d1 := b8.cell 1
  simp at d0 d1
  have hlt := b8.lt
  have hlt1 : w7.heap.size < w8.heap.size + 1 := by omega
  have hlt2 : w7.heap.size < w8.heap.size + 1 + 1 := by omega
  have hlt3 : w7.heap.size < w8.heap.size + 1 + 1 + 1 := by omega
  have hlt4 : w7.heap.size < w8.heap.size + 1 + 1 + 1 + 1 := by omega
  have hlt5 : w7.heap.size < w8.heap.size + 1 + 1 + 1 + 1 + 1 := by omega
  clear S7 E7 F7 B7 s8 b8
  go_wp2_with (first
    | (go_at_call 33; refine (gadd_nil _ _).mono ?_; rintro e w' ⟨rfl, rfl⟩)
    | (go_at_call 60; refine (gdrop_nil _ _).mono ?_; rintro e w' ⟨rfl, rfl⟩)
    | (go_at_call 63; refine (glen_nil _).mono ?_; rintro e w' ⟨rfl, rfl⟩)
    | (go_at_call 35; refine (gcells_nil _).mono ?_; rintro e w' ⟨rfl, rfl⟩)
    | (go_at_call 39; refine (gscan_nil _ _).mono ?_; rintro e w' ⟨rfl, rfl⟩)
    | (go_at_call 40; refine (scdone _ _ _ _ _).mono ?_; rintro e w' ⟨rfl, rfl⟩)
    | (go_at_call 41; refine (scleast _ _ _ _ _).mono ?_; rintro e w' ⟨rfl, rfl⟩)
    | (go_at_call 49; (with_reducible refine (is_self 2 (by decide) _).mono ?_); rintro e w' ⟨rfl, rfl⟩))
  refine (lawis (ErrAt.err (ErrAt.stp E8.out (((((Stp.refl (fun _ => False) c8 w8).alloc _ 2).alloc _ 2).alloc _ 2).alloc _ 2) (fun h => h)) (by decide)) 3).mono ?_
  rintro e w' ⟨rfl, rfl⟩
  go_wp2_with fail
  refine (lawis (ErrAt.err (ErrAt.stp F8.out (((((Stp.refl (fun _ => False) c8 w8).alloc _ 2).alloc _ 2).alloc _ 2).alloc _ 2) (fun h => h)) (by decide)) 3).mono ?_
  rintro e w' ⟨rfl, rfl⟩
  go_wp2_with (first
    | (go_at_call 40; refine (scdone _ _ _ _ _).mono ?_; rintro e w' ⟨rfl, rfl⟩)
    | (go_at_call 41; refine (scleast _ _ _ _ _).mono ?_; rintro e w' ⟨rfl, rfl⟩))
  go_ret
  exact ⟨by simp, ((((((S8.out.alloc _ 2).alloc _ 2).alloc _ 2).alloc _ 2).alloc _ 2).alloc _ 2).fin⟩
end Go.Proofs.Ytmhhhiegioniaaa
