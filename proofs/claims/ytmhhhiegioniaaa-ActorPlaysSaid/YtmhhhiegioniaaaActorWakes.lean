/- The walk of the law ActorWakes: it returns true for all counts of wakes, parked or not, and turns nothing that was there. No condition. -/
import Derived.Test.YtmhhhiegioniaaaActor2
namespace Go.Proofs.Ytmhhhiegioniaaa
open Go.RowKit

theorem awake5 (c : Nat → Nat) (k : Nat) (w : World) :
    Calls Try.prog 29 #[] w fun e w' => e = .returned (.bool true) ∧ ∃ c', Stp (· = k) c c' w w' := by
  go_enter Try.func29, Try.ntmps29
  go_wp2_with fail
  refine (anew_any c k _).mono ?_
  rintro e w1 ⟨rfl, c1, s1, h1⟩
  go_wp2_with fail
  refine (aadd_ok h1 (by simp)).mono ?_
  rintro e w2 ⟨rfl, c2, s2, h2⟩
  go_wp2_with fail
  refine (awake_ready h2 0 (x := ⟨0, false, 0⟩) rfl (by decide) (by decide) (by decide) (by decide)).mono ?_
  rintro e w3 ⟨rfl, c3, s3, h3⟩
  go_wp2_with fail
  refine (apark_token h3 0 (x := ⟨0, true, 1⟩) rfl (by decide) rfl).mono ?_
  rintro e w4 ⟨rfl, c4, s4, h4⟩
  go_wp2_with fail
  refine (apark_yes h4 0 (x := ⟨0, false, 1⟩) rfl (by decide) rfl).mono ?_
  rintro e w5 ⟨rfl, c5, s5, h5⟩
  go_wp2_with (go_at_call 28; refine (astate_in h5 0 (x := ⟨1, false, 1⟩) rfl).mono ?_; rintro e w6 ⟨rfl, rfl⟩)
  go_ret
  exact ⟨rfl, c5, (((s1.trans s2).trans s3).trans s4).trans s5⟩

/-- An actor that was woken so often, parked first or not. -/
def wokenP (i : Nat) : One := ⟨if i = 0 then 1 else 0, decide (2 ≤ i), i⟩
def wokenR (i : Nat) : One := ⟨0, decide (1 ≤ i), i⟩

def WakeRel (f : Nat → One) (c0 : Nat → Nat) (w0 : World) (p n : Nat) (i : Value) (wr : World) : Prop :=
  ∃ c j, i = .int .i64 (j : Nat) ∧ j ≤ n ∧ Stp (· = 2) c0 c w0 wr ∧ TableAt c 2 wr p [f j]

set_option maxRecDepth 100000 in
set_option maxHeartbeats 1000000 in
theorem wakes_ready (m : Nat) (hm : m ≤ 255) (w : World) :
    Calls Try.prog 4 #[.int .u8 m, .bool false] w fun e w' => e = .returned (.bool true) ∧ ∃ c', Stp (2 ≤ ·) (fun _ => 0) c' w w' := by
  go_enter Try.func4, Try.ntmps4
  go_wp2_with fail
  refine (anew_any (fun _ => 0) 2 _).mono ?_
  rintro e w1 ⟨rfl, c1, s1, h1⟩
  go_wp2_with fail
  refine (aadd_ok h1 (by simp)).mono ?_
  rintro e w2 ⟨rfl, c2, s2, h2⟩
  go_wp2_with fail
  obtain ⟨q, hq⟩ : ∃ q : Nat, (m : Int) % 20 = q := ⟨m % 20, by omega⟩
  have hq20 : q < 20 := by omega
  simp only [hq]
  clear hq
  have Hs := Lib.hid (s1.trans s2)
  have H2 := Lib.hid h2
  clear s1 s2 h1 h2
  go_loopw [48] (fun i wr => WakeRel wokenR (fun _ => 0) w w.heap.size q i wr) (fun i _ => q - (intOf i).toNat)
  case atStart => exact ⟨c2, 0, rfl, Nat.zero_le _, Hs.out, H2.out⟩
  case round =>
    obtain ⟨c, j, rfl, hj, st, ht⟩ := hrel
    have Hst := Lib.hid st
    have Ht := Lib.hid ht
    clear st ht Hs H2
    by_cases hlt : j < q
    · go_wp2_with fail
      refine (awake_ready Ht.out 0 (x := wokenR j) rfl (by simp [wokenR]) (by simp [wokenR]) (by simp [wokenR]) (by simp [wokenR]; omega)).mono ?_
      rintro e w3 ⟨rfl, c3, s3, h3⟩
      have h3' : TableAt c3 2 w3 w.heap.size [wokenR (j + 1)] := by simpa [wokenR] using h3
      have H3 := Lib.hid h3'
      have S3 := Lib.hid s3
      clear h3 h3' s3
      go_wp2_with (go_at_call 28; refine (astate_in H3.out 0 (x := wokenR (j + 1)) rfl).mono ?_; rintro e w6 ⟨rfl, rfl⟩)
      go_roundw
      case rel => exact ⟨c3, j + 1, by go_num, by omega, S3.out.behind Hst.out, H3.out⟩
      case measure => simp [intOf]; omega
    · have hjq : j = q := by omega
      subst hjq
      by_cases h0 : j = 0
      · subst h0
        go_wp2_with fail
        refine (apark_yes Ht.out 0 (x := wokenR 0) rfl (by decide) rfl).mono ?_
        rintro e w3 ⟨rfl, c3, s3, h3⟩
        go_wp2_with fail
        refine (apark_yes h3 0 (x := ⟨1, false, 0⟩) rfl (by decide) rfl).mono ?_
        rintro e w4 ⟨rfl, c4, s4, h4⟩
        go_wp2_with fail
        refine (awake5 c4 3 _).mono ?_
        rintro e w5 ⟨rfl, c5, s5⟩
        have h5 := Lib.hid (h4.stp s5 (by decide))
        have S := Lib.hid ((((Hst.out.trans s3).trans s4).up (by decide)).trans (s5.up (by decide)))
        clear s3 s4 h3 h4 s5
        go_wp2_with (go_at_call 31; refine (awakes_in h5.out 0 (x := ⟨1, false, 0⟩) rfl).mono ?_; rintro e w6 ⟨rfl, rfl⟩)
        go_ret
        exact ⟨rfl, c5, S.out⟩
      · have e0 : ((j : Int) == 0) = false := by simp; omega
        by_cases h1 : j = 1
        · subst h1
          go_wp2_with fail
          refine (apark_token Ht.out 0 (x := wokenR 1) rfl (by decide) rfl).mono ?_
          rintro e w3 ⟨rfl, c3, s3, h3⟩
          go_wp2_with fail
          refine (apark_yes h3 0 (x := ⟨0, false, 1⟩) rfl (by decide) rfl).mono ?_
          rintro e w4 ⟨rfl, c4, s4, h4⟩
          go_wp2_with fail
          refine (awake5 c4 3 _).mono ?_
          rintro e w5 ⟨rfl, c5, s5⟩
          have h5 := Lib.hid (h4.stp s5 (by decide))
          have S := Lib.hid ((((Hst.out.trans s3).trans s4).up (by decide)).trans (s5.up (by decide)))
          clear s3 s4 h3 h4 s5
          go_wp2_with (go_at_call 31; refine (awakes_in h5.out 0 (x := ⟨1, false, 1⟩) rfl).mono ?_; rintro e w6 ⟨rfl, rfl⟩)
          go_ret
          exact ⟨rfl, c5, S.out⟩
        · have e1 : decide ((1 : Int) < j) = true := by simp; omega
          have hj1 : 1 ≤ j := by omega
          clear h0 h1
          go_wp2_with fail
          refine (apark_token Ht.out 0 (x := wokenR j) rfl (by simp [wokenR]) (by simp [wokenR]; omega)).mono ?_
          rintro e w3 ⟨rfl, c3, s3, h3⟩
          go_wp2_with fail
          refine (apark_yes h3 0 (x := ⟨0, false, j⟩) rfl (by simp) rfl).mono ?_
          rintro e w4 ⟨rfl, c4, s4, h4⟩
          go_wp2_with fail
          refine (awake5 c4 3 _).mono ?_
          rintro e w5 ⟨rfl, c5, s5⟩
          have h5 := Lib.hid (h4.stp s5 (by decide))
          have S := Lib.hid ((((Hst.out.trans s3).trans s4).up (by decide)).trans (s5.up (by decide)))
          clear s3 s4 h3 h4 s5
          go_wp2_with (go_at_call 31; refine (awakes_in h5.out 0 (x := ⟨1, false, j⟩) rfl).mono ?_; rintro e w6 ⟨rfl, rfl⟩)
          go_ret
          exact ⟨by simp, c5, S.out⟩
set_option maxRecDepth 100000 in
set_option maxHeartbeats 1000000 in
theorem wakes_parked (m : Nat) (hm : m ≤ 255) (w : World) :
    Calls Try.prog 4 #[.int .u8 m, .bool true] w fun  e w' => e = .returned (.bool true) ∧ ∃ c', Stp (2 ≤ ·) (fun _ => 0) c' w w' := by
  go_enter Try.func4, Try.ntmps4
  go_wp2_with fail
  refine (anew_any (fun _ => 0) 2 _).mono ?_
  rintro e w1 ⟨rfl, c1, s1, h1⟩
  go_wp2_with fail
  refine (aadd_ok h1 (by simp)).mono ?_
  rintro e w2 ⟨rfl, c2, s2, h2⟩
  go_wp2_with fail
  refine (apark_yes h2 0 (x := ⟨0, false, 0⟩) rfl (by decide) rfl).mono ?_
  rintro e w2' ⟨rfl, c2', s2', h2'⟩
  go_wp2_with fail
  obtain ⟨q, hq⟩ : ∃ q : Nat, (m : Int) % 20 = q := ⟨m % 20, by omega⟩
  have hq20 : q < 20 := by omega
  simp only [hq]
  clear hq
  have Hs := Lib.hid ((s1.trans s2).trans s2')
  have H2 := Lib.hid h2'
  clear s1 s2 h1 h2 s2' h2'
  go_loopw [48] (fun i wr => WakeRel wokenP (fun _ => 0) w w.heap.size q i wr) (fun i _ => q - (intOf i).toNat)
  case atStart => exact ⟨c2', 0, rfl, Nat.zero_le _, Hs.out, H2.out⟩
  case round =>
    obtain ⟨c, j, rfl, hj, st, ht⟩ := hrel
    have Hst := Lib.hid st
    have Ht := Lib.hid ht
    clear st ht Hs H2
    by_cases hlt : j < q
    · by_cases hz : j = 0
      · subst hz
        go_wp2_with fail
        refine (awake_parked Ht.out 0 (x := wokenP 0) rfl (by simp [wokenP]) (by simp [wokenP]) (by simp [wokenP])).mono ?_
        rintro e w3 ⟨rfl, c3, s3, h3⟩
        have h3' : TableAt c3 2 w3 w.heap.size [wokenP 1] := by simpa [wokenP] using h3
        have H3 := Lib.hid h3'
        have S3 := Lib.hid s3
        clear h3 h3' s3
        go_wp2_with (go_at_call 28; refine (astate_in H3.out 0 (x := wokenP 1) rfl).mono ?_; rintro e w6 ⟨rfl, rfl⟩)
        go_roundw
        case rel => exact ⟨c3, 1, by go_num, by omega, S3.out.behind Hst.out, H3.out⟩
        case measure => simp [intOf]; omega
      · have hz' : ((j : Int) == 0) = false := by simp; omega
        have hj1 : 1 ≤ j := by omega
        have hw : wokenP (j + 1) = { wokenP j with token := true, wakes := (wokenP j).wakes + 1 } := by simp [wokenP, hz]; omega
        have hst : (wokenP j).state = 0 := by simp [wokenP, hz]
        have Hw := Lib.hid hw
        have Hz := Lib.hid hst
        clear hz hw hst
        go_wp2_with fail
        refine (awake_ready Ht.out 0 (x := wokenP j) rfl (by rw [Hz.out]; decide) (by rw [Hz.out]; decide) (by simp [wokenP]) (by simp [wokenP]; omega)).mono ?_
        rintro e w3 ⟨rfl, c3, s3, h3⟩
        have h3' : TableAt c3 2 w3 w.heap.size [wokenP (j + 1)] := by rw [Hw.out]; simpa using h3
        have H3 := Lib.hid h3'
        have S3 := Lib.hid s3
        have hz2 : (wokenP (j + 1)).state = 0 := by simp [wokenP]
        have Hz2 := Lib.hid hz2
        clear h3 h3' s3 hz2
        go_wp2_with (go_at_call 28; refine (astate_in H3.out 0 (x := wokenP (j + 1)) rfl).mono ?_; rintro e w6 ⟨rfl, rfl⟩; rw [Hz2.out])
        go_roundw
        case rel => exact ⟨c3, j + 1, by go_num, by omega, S3.out.behind Hst.out, H3.out⟩
        case measure => simp [intOf]; omega
    · have hjq : j = q := by omega
      subst hjq
      by_cases h0 : j = 0
      · subst h0
        go_wp2_with fail
        refine (awake5 c 3 _).mono ?_
        rintro e w5 ⟨rfl, c5, s5⟩
        have h5 := Lib.hid (Ht.out.stp s5 (by decide))
        have S5 := Lib.hid s5
        clear s5
        go_wp2_with (first
          | (go_at_call 28; refine (astate_in h5.out 0 (x := wokenP 0) rfl).mono ?_; rintro e w6 ⟨rfl, rfl⟩)
          | (go_at_call 30; refine (arunnable_any h5.out 3 (by decide) (by simp)).mono ?_; rintro e w7 ⟨ao, cap, rfl, c7, s7, _⟩))
        go_ret
        exact ⟨by simp [readyTo, wokenP], c7, ((Hst.out.up (by decide)).trans (S5.out.up (by decide))).trans (s7.up (by decide))⟩
      · have e0 : ((j : Int) == 0) = false := by simp; omega
        by_cases h1 : j = 1
        · subst h1
          go_wp2_with fail
          refine (apark_yes Ht.out 0 (x := wokenP 1) rfl (by decide) rfl).mono ?_
          rintro e w3 ⟨rfl, c3, s3, h3⟩
          go_wp2_with fail
          refine (apark_yes h3 0 (x := ⟨1, false, 1⟩) rfl (by decide) rfl).mono ?_
          rintro e w4 ⟨rfl, c4, s4, h4⟩
          go_wp2_with fail
          refine (awake5 c4 3 _).mono ?_
          rintro e w5 ⟨rfl, c5, s5⟩
          have h5 := Lib.hid (h4.stp s5 (by decide))
          have S := Lib.hid ((((Hst.out.trans s3).trans s4).up (by decide)).trans (s5.up (by decide)))
          clear s3 s4 h3 h4 s5
          go_wp2_with (go_at_call 31; refine (awakes_in h5.out 0 (x := ⟨1, false, 1⟩) rfl).mono ?_; rintro e w6 ⟨rfl, rfl⟩)
          go_ret
          exact ⟨rfl, c5, S.out⟩
        · have e1 : decide ((1 : Int) < j) = true := by simp; omega
          have hj1 : 2 ≤ j := by omega
          clear h0 h1
          go_wp2_with fail
          have hst : (wokenP j).state = 0 := by simp [wokenP]; omega
          have Hz := Lib.hid hst
          clear hst
          refine (apark_token Ht.out 0 (x := wokenP j) rfl (by rw [Hz.out]; decide) (by simp [wokenP]; omega)).mono ?_
          rintro e w3 ⟨rfl, c3, s3, h3⟩
          rw [Hz.out] at h3
          go_wp2_with fail
          refine (apark_yes h3 0 (x := ⟨0, false, j⟩) rfl (by simp) rfl).mono ?_
          rintro e w4 ⟨rfl, c4, s4, h4⟩
          go_wp2_with fail
          refine (awake5 c4 3 _).mono ?_
          rintro e w5 ⟨rfl, c5, s5⟩
          have h5 := Lib.hid (h4.stp s5 (by decide))
          have S := Lib.hid ((((Hst.out.trans s3).trans s4).up (by decide)).trans (s5.up (by decide)))
          clear s3 s4 h3 h4 s5
          go_wp2_with (go_at_call 31; refine (awakes_in h5.out 0 (x := ⟨1, false, j⟩) rfl).mono ?_; rintro e w6 ⟨rfl, rfl⟩)
          go_ret
          exact ⟨by simp, c5, S.out⟩

theorem wakes_walk (m : Int) (h0 : 0 ≤ m) (h1 : m ≤ 255) (b : Bool) (w : World) :
    Calls Try.prog 4 #[.int .u8 m, .bool b] w fun e w' => e = .returned (.bool true) ∧ Below w.heap.size w w' := by
  obtain ⟨n, rfl⟩ := Int.eq_ofNat_of_zero_le h0
  cases b
  · exact (wakes_ready n (by omega) w).mono fun e w' ⟨he, c', hs⟩ => ⟨he, hs.fin⟩
  · exact (wakes_parked n (by omega) w).mono fun e w' ⟨he, c', hs⟩ => ⟨he, hs.fin⟩
end Go.Proofs.Ytmhhhiegioniaaa
