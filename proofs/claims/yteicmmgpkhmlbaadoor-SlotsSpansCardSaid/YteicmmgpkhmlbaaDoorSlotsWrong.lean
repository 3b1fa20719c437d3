/- The walk of the law SlotsWrong, and of the example of layer 6. No condition but that the table of math/bits holds what the program lays there. -/
import Derived.Test.YteicmmgpkhmlbaaDoorSlots2
import Derived.Test.YteicmmgpkhmlbaaDoorCells3
namespace Go.Proofs.YteicmmgpkhmlbaaDoor
open Go.RowKit

def ring6 (j : Nat) : List Ev := (List.range j).foldl (fun l i => l.set (slotOf 1 (i : Nat)) ⟨(i : Nat) + 1, 0⟩) [⟨0, 0⟩, ⟨0, 0⟩]
theorem ring6_succ (j : Nat) : ring6 (j + 1) = (ring6 j).set (slotOf 1 (j : Nat)) ⟨(j : Nat) + 1, 0⟩ := by
  simp [ring6, List.range_succ]

def Rel6 (c : Nat → Nat) (w : World) (p : Nat) (i : Value) (wr : World) : Prop :=
  ∃ (c' : Nat → Nat) (j : Nat), i = .int .i64 j ∧ j ≤ 3 ∧ Stp (2 ≤ ·) c c' w wr ∧ RingAt c' 2 wr p 1 (ring6 j)

theorem awake6 (c : Nat → Nat) (w : World) (ht : Tab w) :
    Calls Tryd.prog 28 #[] w fun e w' => e = .returned (.bool true) ∧ ∃ c', Stp (2 ≤ ·) c c' w w' := by
  go_enter Tryd.func28, Tryd.ntmps28
  go_wp2_with fail
  refine (slnew_n c 2 1 2 (by decide) rfl _ ht).mono ?_
  rintro e w1 ⟨p, rfl, c1, s1, h1⟩
  have S1 := Lib.hid s1
  have H1 := Lib.hid h1
  clear s1 h1 ht
  go_wp2
  go_loopw [10] (fun i wr => Rel6 c w p i wr) (fun i _ => 3 - (intOf i).toNat)
  case atStart => exact ⟨c1, 0, rfl, by decide, S1.out.mono (fun _ h => h.elim), H1.out⟩
  case round =>
    obtain ⟨c', j, rfl, hj, st, hat⟩ := hrel
    have St := Lib.hid st
    have Hat := Lib.hid hat
    clear st hat
    by_cases hlt : j < 3
    · go_wp2_with fail
      refine (slput_ok Hat.out (j : Nat) ⟨(j : Nat) + 1, 0⟩ (by omega) (by omega)).mono ?_
      rintro e w2 ⟨rfl, c2, s2, h2⟩
      have S2 := Lib.hid (St.out.trans (s2.up (by decide)))
      have h2' : RingAt c2 2 w2 p 1 (ring6 (j + 1)) := by rw [ring6_succ]; exact h2
      have H2 := Lib.hid h2'
      clear s2 h2 h2'
      go_wp2
      go_roundw
      case rel => exact ⟨c2, j + 1, by go_num, by omega, S2.out, H2.out⟩
      case measure => simp [intOf]; omega
    · have hj3 : j = 3 := by omega
      subst hj3
      go_wp2_with fail
      refine (slget_ok Hat.out 0 (by decide) (by decide)).mono ?_
      rintro e w2 ⟨x, hx, rfl, hb2⟩
      obtain rfl : x = ⟨3, 0⟩ := by
        have : (ring6 3)[slotOf 1 0]? = some ⟨3, 0⟩ := rfl
        rw [this] at hx
        exact (Option.some.inj hx).symm
      have S2 := Lib.hid (St.out.trans ((Stp.ofBelow (c := c') hb2 2).mono (fun _ h => h.elim)))
      clear hb2 hx
      go_wp2
      go_ret
      exact ⟨by simp, _, S2.out.alloc _ 2⟩

set_option maxRecDepth 100000 in
set_option maxHeartbeats 1000000 in
theorem slwrong_no (n seq : Int) (hn : NoPow n) (w : World) (ht : Tab w) :
    Calls Tryd.prog 9 #[.int .i64 n, .int .i64 seq] w fun e w' => e = .returned (.bool true) ∧ Below w.heap.size w w' := by
  have Ht := Lib.hid ht
  have Hn := Lib.hid hn
  clear ht hn
  go_enter Tryd.func9, Tryd.ntmps9
  go_wp2_with fail
  refine (rshift_no n Hn.out _).mono ?_
  rintro e w1 ⟨rfl, rfl⟩
  go_wp2_with fail
  refine (slnew_bad (fun _ => 0) n Hn.out _).mono ?_
  rintro e w1 ⟨ev, rfl, c1, s1, e1⟩
  have S1 := Lib.hid (s1.mono (J' := (2 ≤ ·)) (fun _ h => h.elim))
  have E1 := Lib.hid (e1.err (by decide))
  clear s1 e1
  go_wp2_with (go_at_call 23; refine (lawis E1.out 7).mono ?_; rintro e w' ⟨rfl, rfl⟩)
  clear E1
  go_wp2_with (first
    | (go_at_call 33; refine (slget_nil _ _).mono ?_; rintro e w' ⟨rfl, rfl⟩)
    | (go_at_call 41; refine (slspan_nil _ _ _).mono ?_; rintro e w' ⟨rfl, rfl⟩)
    | (go_at_call 40; refine (slfill_nil _ _ _).mono ?_; rintro e w' ⟨rfl, rfl⟩))
  obtain ⟨c2, -, A2⟩ := (((Stp.refl (fun _ => False) c1 w1).alloc (.cells #[.int .i64 0, .int .i64 0] 52) 2).alloc (.cells #[.int .i64 0, .int .i64 0] 52) 2).name
  have S2 := Lib.hid (S1.out.trans (A2.out.mono (fun _ h => h.elim)))
  refine (awake6 c2 _ (Ht.out.stp S2.out (by decide))).mono ?_
  rintro e w3 ⟨rfl, c3, s3⟩
  have S3 := Lib.hid (S2.out.trans s3)
  clear S2 s3 A2
  go_wp2_with (first
    | (go_at_call 31; refine (slput_nil _ _ _ _).mono ?_; rintro e w' ⟨rfl, rfl⟩)
    | (go_at_call 32; refine (slclone_nil _).mono ?_; rintro e w' ⟨rfl, rfl⟩)
    | (go_at_call 30; refine (slsize_nil _).mono ?_; rintro e w' ⟨rfl, rfl⟩)
    | (go_at_call 18; refine (slots_k 0 (by decide) _).mono ?_; rintro e w' ⟨rfl, rfl⟩)
    | (go_at_call 23; refine (is_self 2 (by decide) _).mono ?_; rintro e w' ⟨rfl, rfl⟩))
  go_ret
  exact ⟨rfl, (((S3.out.alloc _ 2).alloc _ 2).alloc _ 2).fin⟩

set_option maxRecDepth 100000 in
set_option maxHeartbeats 1000000 in
theorem slwrong_pow (k : Nat) (seq : Int) (hk : k < 21) (w : World) (ht : Tab w) :
    Calls Tryd.prog 9 #[.int .i64 ((2 ^ k : Nat) : Int), .int .i64 seq] w fun e w' => e = .returned (.bool true) ∧ Below w.heap.size w w' := by
  have Ht := Lib.hid ht
  clear ht
  have S1 := Lib.hid (Stp.refl (2 ≤ ·) (fun _ => 0) w)
  have t0 : decide ((k : Int) < 0) = false := by simp
  go_enter Tryd.func9, Tryd.ntmps9
  go_wp2_with fail
  refine (rshift_yes k hk _).mono ?_
  rintro e w1 ⟨rfl, rfl⟩
  go_wp2_with (first
    | (go_at_call 33; refine (slget_nil _ _).mono ?_; rintro e w' ⟨rfl, rfl⟩)
    | (go_at_call 41; refine (slspan_nil _ _ _).mono ?_; rintro e w' ⟨rfl, rfl⟩)
    | (go_at_call 40; refine (slfill_nil _ _ _).mono ?_; rintro e w' ⟨rfl, rfl⟩))
  obtain ⟨c2, -, A2⟩ := (((Stp.refl (fun _ => False) (fun _ => 0) w).alloc (.cells #[.int .i64 0, .int .i64 0] 52) 2).alloc (.cells #[.int .i64 0, .int .i64 0] 52) 2).name
  have S2 := Lib.hid (S1.out.trans (A2.out.mono (fun _ h => h.elim)))
  refine (awake6 c2 _ (Ht.out.stp S2.out (by decide))).mono ?_
  rintro e w3 ⟨rfl, c3, s3⟩
  have S3 := Lib.hid (S2.out.trans s3)
  clear S2 s3 A2
  go_wp2_with (first
    | (go_at_call 31; refine (slput_nil _ _ _ _).mono ?_; rintro e w' ⟨rfl, rfl⟩)
    | (go_at_call 32; refine (slclone_nil _).mono ?_; rintro e w' ⟨rfl, rfl⟩)
    | (go_at_call 30; refine (slsize_nil _).mono ?_; rintro e w' ⟨rfl, rfl⟩)
    | (go_at_call 18; refine (slots_k 0 (by decide) _).mono ?_; rintro e w' ⟨rfl, rfl⟩)
    | (go_at_call 23; refine (is_self 2 (by decide) _).mono ?_; rintro e w' ⟨rfl, rfl⟩))
  go_ret
  exact ⟨rfl, (((S3.out.alloc _ 2).alloc _ 2).alloc _ 2).fin⟩

theorem slwrong_walk (n seq : Int) (w : World) (ht : Tab w) :
    Calls Tryd.prog 9 #[.int .i64 n, .int .i64 seq] w fun e w' => e = .returned (.bool true) ∧ Below w.heap.size w w' := by
  by_cases h : NoPow n
  · exact slwrong_no n seq h w ht
  · unfold NoPow at h
    obtain ⟨k, hk⟩ := Classical.not_forall.1 h
    obtain ⟨hk21, hn⟩ := Classical.not_imp.1 hk
    obtain rfl : n = ((2 ^ k : Nat) : Int) := Classical.not_not.1 hn
    exact slwrong_pow k seq hk21 w ht
end Go.Proofs.YteicmmgpkhmlbaaDoor
