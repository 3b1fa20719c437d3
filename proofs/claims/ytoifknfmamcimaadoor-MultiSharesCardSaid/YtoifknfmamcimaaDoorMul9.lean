/- The document's example of a sequencer. No condition but that the table of math/bits holds what the program lays there. -/
import Derived.Test.YtoifknfmamcimaaDoorMul8
namespace Go.Proofs.YtoifknfmamcimaaDoor
open Go.RowKit

theorem awake10k (K : Nat) (hK : 2 ≤ K) (c : Nat → Nat) (w : World) (ht : Tab w) (hc : c 1 = 0) :
    Calls Tryd.prog 21 #[] w fun e w' => e = .returned (.bool true) ∧ ∃ c', Stp (K ≤ ·) c c' w w' := by
  have Ht := Lib.hid ht
  have Hc := Lib.hid hc
  clear ht hc
  go_enter Tryd.func21, Tryd.ntmps21
  go_wp2_with fail
  refine (new_any c K _).mono ?_
  rintro e w1 ⟨rfl, c1, s1, h1⟩
  have S1 := Lib.hid (s1.mono (J' := (K ≤ ·)) (fun _ h => Nat.le_of_eq h.symm))
  have H1 := Lib.hid h1
  have T1 := Lib.hid (Ht.out.stp s1 (by rw [Hc.out]; omega))
  clear s1 h1
  go_wp2_with fail
  refine (mnew_ok H1.out 2 (by decide) (by decide) T1.out (m := 4) (by decide)).mono ?_
  rintro e w2 ⟨p, bp, gp, rfl, c2, s2, h2, q2⟩
  have S2 := Lib.hid (S1.out.trans (s2.mono (fun _ h => Nat.le_of_eq h.symm)))
  have H2 := Lib.hid (show ArenaS c2 K w2 w.heap.size [-1, -1, -1, -1, -1, -1] from ⟨_, h2⟩)
  have Q2 := Lib.hid (show SeqIs c2 (K + 1) w2 p w.heap.size bp gp ⟨2, 0, 1, 2, []⟩ from q2)
  clear s2 h2 q2 S1 H1 T1
  go_wp2_with fail
  refine (mclaim_quick H2.out Q2.out 1 (by decide) (by decide) (v := -1) (u := -1) (by decide) (by decide) rfl rfl (by decide) (by decide) (by decide) (IntWalk.wrap64_in _ (by constructor <;> decide))).mono ?_
  rintro e w3 ⟨rfl, c3, s3, h3, q3⟩
  have S3 := Lib.hid (S2.out.trans (s3.mono (fun _ h => Nat.le_of_eq h.symm)))
  have H3 := Lib.hid (show ArenaS c3 K w3 w.heap.size [0, -1, -1, -1, -1, -1] from h3)
  have Q3 := Lib.hid q3
  clear s3 h3 q3 S2 H2 Q2
  go_wp2_with fail
  refine (mclaim_quick H3.out Q3.out 1 (by decide) (by decide) (v := 0) (u := -1) (by decide) (by decide) rfl rfl (by decide) (by decide) (by decide) (IntWalk.wrap64_in _ (by constructor <;> decide))).mono ?_
  rintro e w4 ⟨rfl, c4, s4, h4, q4⟩
  have S4 := Lib.hid (S3.out.trans (s4.mono (fun _ h => Nat.le_of_eq h.symm)))
  have H4 := Lib.hid (show ArenaS c4 K w4 w.heap.size [1, -1, -1, -1, -1, -1] from h4)
  have Q4 := Lib.hid q4
  clear s4 h4 q4 S3 H3 Q3
  go_wp2_with fail
  refine (mpublish_ok H4.out Q4.out (v := 1) (by decide) rfl 1 1 (by decide) (by decide) (by decide) (by decide) (by decide) (by decide)).mono ?_
  rintro e w5 ⟨rfl, c5, s5, h5, q5⟩
  have S5 := Lib.hid (S4.out.trans (s5.mono (fun _ h => Nat.le_of_eq h.symm)))
  have H5 := Lib.hid (show ArenaS c5 K w5 w.heap.size [1, -1, -1, 0, -1, -1] from h5)
  have Q5 := Lib.hid q5
  clear s5 h5 q5 S4 H4 Q4
  go_wp2_with fail
  refine (mhigh_ok H5.out Q5.out (v := 1) (by decide) rfl 0 (by decide) (by decide) (by decide) (by decide) (by decide)).mono ?_
  rintro e w6 ⟨x, rfl, hx, c6, s6, h6, q6⟩
  have S6 := Lib.hid (S5.out.trans (s6.mono (fun _ h => Nat.le_of_eq h.symm)))
  have H6 := Lib.hid (show ArenaS c6 K w6 w.heap.size [1, -1, -1, 0, -1, -1] from h6)
  have Q6 := Lib.hid q6
  obtain rfl : x = -1 := hx.uniq ⟨by decide, by decide, (fun s a b => by omega), fun _ => by decide⟩
  clear hx s6 h6 q6 S5 H5 Q5
  go_wp2_with fail
  refine (mpublish_ok H6.out Q6.out (v := 1) (by decide) rfl 0 0 (by decide) (by decide) (by decide) (by decide) (by decide) (by decide)).mono ?_
  rintro e w7 ⟨rfl, c7, s7, h7, q7⟩
  have S7 := Lib.hid (S6.out.trans (s7.mono (fun _ h => Nat.le_of_eq h.symm)))
  have H7 := Lib.hid (show ArenaS c7 K w7 w.heap.size [1, -1, 0, 0, -1, -1] from h7)
  have Q7 := Lib.hid q7
  clear s7 h7 q7 S6 H6 Q6
  go_wp2_with fail
  refine (mhigh_ok H7.out Q7.out (v := 1) (by decide) rfl 0 (by decide) (by decide) (by decide) (by decide) (by decide)).mono ?_
  rintro e w8 ⟨x, rfl, hx, c8, s8, h8, q8⟩
  have S8 := Lib.hid (S7.out.trans (s8.mono (fun _ h => Nat.le_of_eq h.symm)))
  have H8 := Lib.hid (show ArenaS c8 K w8 w.heap.size [1, -1, 0, 0, -1, -1] from h8)
  have Q8 := Lib.hid q8
  obtain rfl : x = 1 := hx.uniq ⟨by decide, by decide, (fun s a b => by
    rcases (show s = 0 ∨ s = 1 by omega) with rfl | rfl
    · decide
    · decide), fun h => absurd h (by decide)⟩
  clear hx s8 h8 q8 S7 H7 Q7
  go_wp2
  go_ret
  exact ⟨by first | rfl | simp, c8, S8.out⟩
end Go.Proofs.YtoifknfmamcimaaDoor
