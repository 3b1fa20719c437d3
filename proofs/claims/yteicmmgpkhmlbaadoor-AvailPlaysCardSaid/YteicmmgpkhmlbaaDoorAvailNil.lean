/- The walk of the law AvailNil, and of the example of layer 7. No condition but that the table of math/bits holds what the program lays there. -/
import Derived.Test.YteicmmgpkhmlbaaDoorAvail2
namespace Go.Proofs.YteicmmgpkhmlbaaDoor
open Go.RowKit

def cells7 : List Int := showAll (showAll ([] ++ List.replicate (2 ^ 2) (-1)) 0 2 0 1) 0 2 2 1
theorem cells7_eq : cells7 = [0, -1, 0, -1] := rfl
theorem hi7 : HiAt cells7 0 2 0 3 0 := by
  refine ⟨by decide, .inl (by decide), fun s h1 h2 => ?_, fun _ => rfl⟩
  obtain rfl : s = 0 := by omega
  rfl

theorem awake7 (c : Nat → Nat) (w : World) (ht : Tab w) (hc : c 2 = 0) :
    Calls Tryd.prog 49 #[] w fun e w' => e = .returned (.bool true) ∧ ∃ c', Stp (2 ≤ ·) c c' w w' := by
  have Ht := Lib.hid ht
  have Hc := Lib.hid hc
  clear ht hc
  go_enter Tryd.func49, Tryd.ntmps49
  go_wp2_with fail
  refine (new_any c 2 _).mono ?_
  rintro e w1 ⟨rfl, c1, s1, h1⟩
  have S1 := Lib.hid (s1.up (by decide))
  have H1 := Lib.hid h1
  clear s1 h1
  go_wp2_with fail
  refine (of_pow c1 2 (by decide) _ (Ht.out.stp S1.out (by rw [Hc.out]; decide))).mono ?_
  rintro e w2 ⟨rfl, c2, s2⟩
  obtain ⟨c3, -, A3⟩ := (s2.alloc (.cells #[.int .i64 2] 24) 2).name
  have S3 := Lib.hid (S1.out.trans (A3.out.mono (fun _ h => h.elim)))
  have H3 := Lib.hid (H1.out.stp A3.out (fun h => h))
  clear s2 A3 S1 H1
  go_wp2_with fail
  refine (avnew_ok H3.out 3 2 (by decide) (by decide) (by simp)).mono ?_
  rintro e w4 ⟨p, rfl, c4, s4, h4, b4⟩
  have S4 := Lib.hid (S3.out.trans (s4.up (by decide)))
  have H4 := Lib.hid (show ArenaS c4 2 w4 w.heap.size ([] ++ List.replicate (2 ^ 2) (-1)) from ⟨_, h4⟩)
  have B4 := Lib.hid (show BufAt c4 3 w4 p 2 0 from b4)
  clear s4 h4 b4 S3 H3
  go_wp2_with fail
  refine (avshow_ok B4.out H4.out (by decide) (by decide) 0 0 (by decide) (by decide) (by decide) (by decide)).mono ?_
  rintro e w5 ⟨rfl, c5, s5, h5⟩
  have S5 := Lib.hid (S4.out.trans (s5.up (by decide)))
  have H5 := Lib.hid h5
  have B5 := Lib.hid (B4.out.stp s5 (by decide))
  clear s5 h5 S4 H4 B4
  go_wp2_with fail
  refine (avshow_ok B5.out H5.out (by decide) (by decide) 2 2 (by decide) (by decide) (by decide) (by decide)).mono ?_
  rintro e w6 ⟨rfl, c6, s6, h6⟩
  have S6 := Lib.hid (S5.out.trans (s6.up (by decide)))
  have H6 := Lib.hid (show ArenaS c6 2 w6 w.heap.size cells7 from h6)
  have B6 := Lib.hid (B5.out.stp s6 (by decide))
  clear s6 h6 S5 H5 B5
  go_wp2_with fail
  refine (avhigh_ok B6.out H6.out (by decide) (by decide) 0 3 (by decide) (by decide) (by decide) (by decide)).mono ?_
  rintro e w7 ⟨x, rfl, hx, c7, s7, h7⟩
  obtain rfl : x = 0 := hx.uniq hi7
  have S7 := Lib.hid (S6.out.trans (s7.up (by decide)))
  have H7 := Lib.hid h7
  have B7 := Lib.hid (B6.out.stp s7 (by decide))
  clear s7 h7 S6 H6 B6 hx
  go_wp2_with fail
  refine (avis_ok B7.out H7.out (by decide) (by decide) 2 (by decide) (by decide)).mono ?_
  rintro e w8 ⟨rfl, c8, s8, h8⟩
  rw [show shownAt cells7 0 2 2 = true from rfl]
  have S8 := Lib.hid (S7.out.trans (s8.up (by decide)))
  clear s8 h8
  go_wp2
  go_ret
  exact ⟨rfl, c8, S8.out⟩

set_option maxRecDepth 100000 in
set_option maxHeartbeats 1000000 in
theorem avnil_walk (seq : Int) (w : World) (ht : Tab w) :
    Calls Tryd.prog 12 #[.int .i64 seq] w fun e w' => e = .returned (.bool true) ∧ Below w.heap.size w w' := by
  have Ht := Lib.hid ht
  have Hg := Lib.hid (World.block_lt_of_cell? w _ (ht 0 (by decide)))
  clear ht
  go_enter Tryd.func12, Tryd.ntmps12
  go_wp2_with fail
  refine (new_any (fun _ => 0) 2 _).mono ?_
  rintro e w1 ⟨rfl, c1, s1, h1⟩
  have S1 := Lib.hid (s1.up (by decide))
  have H1 := Lib.hid h1
  clear s1 h1
  go_wp2_with fail
  refine (of_pow c1 1 (by decide) _ (Ht.out.stp S1.out (by decide))).mono ?_
  rintro e w2 ⟨rfl, c2, s2⟩
  obtain ⟨c3, -, A3⟩ := (s2.alloc (.cells #[.int .i64 1] 24) 2).name
  have S3 := Lib.hid (S1.out.trans (A3.out.mono (fun _ h => h.elim)))
  have H3 := Lib.hid (H1.out.stp A3.out (fun h => h))
  clear s2 A3 S1 H1
  go_wp2_with (first
    | (go_at_call 43; (with_reducible refine (avnew_nil _ _).mono ?_); rintro e w' ⟨rfl, rfl⟩)
    | (go_at_call 45; (with_reducible refine (avis_nilb _ _ _).mono ?_); rintro e w' ⟨rfl, rfl⟩)
    | (go_at_call 48; refine (avhighest_nilb _ _ _ _).mono ?_; rintro e w' ⟨rfl, rfl⟩))
  obtain ⟨c4, -, A4⟩ := ((Stp.refl (fun _ => False) c3 (w2.alloc (.cells #[.int .i64 1] 24))).alloc (.cells #[.int .i64 1] 24) 2).name
  have S4 := Lib.hid (S3.out.trans (A4.out.mono (fun _ h => h.elim)))
  have H4 := Lib.hid (H3.out.stp A4.out (fun h => h))
  clear A4 S3 H3
  refine (avnew_ok H4.out 3 1 (by decide) (by decide) (by simp)).mono ?_
  rintro e w5 ⟨p, rfl, c5, s5, h5, b5⟩
  have S5 := Lib.hid (S4.out.trans (s5.up (by decide)))
  clear s5 h5 b5 S4 H4
  go_wp2_with fail
  refine (avis_nil (some p) _ _).mono ?_
  rintro e w' ⟨rfl, rfl⟩
  go_wp2_with fail
  refine (awake7 c5 _ (Ht.out.stp S5.out (by decide)) (S5.out.col _ Hg.out)).mono ?_
  rintro e w6 ⟨rfl, c6, s6⟩
  have S6 := Lib.hid (S5.out.trans s6)
  clear s6 S5
  go_wp2_with (first
    | (go_at_call 44; refine (avshow_nilb _ _ _ _).mono ?_; rintro e w' ⟨rfl, rfl⟩)
    | (go_at_call 46; refine (avcell_nil _ _).mono ?_; rintro e w' ⟨rfl, rfl⟩)
    | (go_at_call 47; refine (avround_nil _ _).mono ?_; rintro e w' ⟨rfl, rfl⟩)
    | (go_at_call 23; refine (is_self 2 (by decide) _).mono ?_; rintro e w' ⟨rfl, rfl⟩))
  go_ret
  exact ⟨rfl, S6.out.fin⟩
end Go.Proofs.YteicmmgpkhmlbaaDoor
