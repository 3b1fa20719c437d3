/- The example of the room's law. No condition but that the table of math/bits holds what the program lays there. -/
import Derived.Test.YtiphdedfbafhkaaGreatDoorRoom3
namespace Go.Proofs.YtiphdedfbafhkaaGreatDoor
open Go.RowKit

set_option maxRecDepth 100000 in
set_option maxHeartbeats 2000000 in
theorem awake14k (K : Nat) (hK : 2 ≤ K) (c : Nat → Nat) (w : World) (ht : Tab w) (hc : c 1 = 0) :
    Calls Tryz.prog 34 #[] w fun e w' => e = .returned (.bool true) ∧ ∃ c', Stp (K ≤ ·) c c' w w' := by
  have HT := Lib.hid ht
  have Hc := Lib.hid hc
  have HK := Lib.hid hK
  clear ht hc hK
  go_enter Tryz.func34, Tryz.ntmps34
  go_wp2_with fail
  refine (rmnew_c c K w).mono ?_
  rintro e w1 ⟨r, ar, ck, tb, rfl, c1, s1, m1⟩
  have S1 := Lib.hid s1
  have M1 := Lib.hid m1
  have T1 := Lib.hid (HT.out.stp s1 (by rw [Hc.out]; have := HK.out; omega))
  have hc1 : c1 1 = 0 := by rw [s1.col _ (World.block_lt_of_cell? w _ (HT.out 0 (by decide))), Hc.out]
  have Hc1 := Lib.hid hc1
  clear s1 m1 hc1
  go_wp2_with fail
  refine (rmring_c M1.out T1.out Hc1.out HK.out).mono ?_
  rintro e w2 ⟨rfl, g, a, rc, la, v1, v2, v3, c2, s2, m2⟩
  have S2 := Lib.hid (S1.out.trans s2)
  have M2 := Lib.hid m2
  clear s2 m2
  go_wp2_with fail
  refine (rmact_c M2.out.rm).mono ?_
  rintro e w3 ⟨rfl, rfl⟩
  go_wp2_with fail
  refine (aadd_ok M2.out.rm.ta (by decide)).mono ?_
  rintro e w3 ⟨rfl, c3, s3, t3⟩
  have M3 := Lib.hid (M2.out.go (s3.mono JR.t) (M2.out.rm.table s3 t3))
  have S3 := Lib.hid (S2.out.trans (s3.mono (fun j hj => by omega)))
  clear s3 t3
  go_wp2_with fail
  refine (rmact_c M3.out.rm).mono ?_
  rintro e w4 ⟨rfl, rfl⟩
  go_wp2_with fail
  refine (aadd_ok M3.out.rm.ta (by decide)).mono ?_
  rintro e w4 ⟨rfl, c4, s4, t4⟩
  have M4 := Lib.hid (M3.out.go (s4.mono JR.t) (M3.out.rm.table s4 t4))
  have S4 := Lib.hid (S3.out.trans (s4.mono (fun j hj => by omega)))
  clear s4 t4
  go_wp2_with fail
  refine (rmenlist_c (j := 0) M4.out rfl (by decide) (by simp) (by decide)).mono ?_
  rintro e w5 ⟨rfl, ao5, cap5, c5, s5, m5⟩
  have S5 := Lib.hid (S4.out.trans s5)
  have M5 := Lib.hid m5
  clear s5 m5
  go_wp2_with fail
  refine (rmenlist_c (j := 1) M5.out rfl (by decide) (by decide) (by decide)).mono ?_
  rintro e w6 ⟨rfl, ao6, cap6, c6, s6, m6⟩
  have S6 := Lib.hid (S5.out.trans s6)
  have M6 := Lib.hid m6
  clear s6 m6
  go_wp2_with fail
  refine (rmpark0_c (j := 0) M6.out.rm rfl (by decide) rfl).mono ?_
  rintro e w7 ⟨rfl, c7, s7, m7⟩
  have S7 := Lib.hid (S6.out.trans (s7.mono (fun j hj => by unfold JR at hj; omega)))
  have M7 := Lib.hid (show R1 c7 K w7 r ar ck tb g a rc la 0 [] [⟨1, false, 0⟩, ⟨0, false, 0⟩] v1 v2 v3 [0, 1] ao6 cap6 from M6.out.go s7 m7)
  clear s7 m7
  go_wp2_with fail
  refine (rmsignal_c M7.out).mono ?_
  rintro e w8 ⟨rfl, c8, s8, m8⟩
  have S8 := Lib.hid (S7.out.trans s8)
  have M8 := Lib.hid m8
  clear s8 m8
  go_wp2_with fail
  refine (rmact_c M8.out).mono ?_
  rintro e w9 ⟨rfl, rfl⟩
  go_wp2_with fail
  refine (astate_in M8.out.ta 0 rfl).mono ?_
  rintro e w9 ⟨rfl, rfl⟩
  go_wp2_with fail
  refine (rmact_c M8.out).mono ?_
  rintro e w9 ⟨rfl, rfl⟩
  go_wp2_with fail
  refine (atoken_in M8.out.ta 1 rfl).mono ?_
  rintro e w9 ⟨rfl, rfl⟩
  go_wp2
  go_ret
  exact ⟨rfl, c8, S8.out⟩
end Go.Proofs.YtiphdedfbafhkaaGreatDoor
