/- Contracts of a room's Tick: where nobody is woken by it, and where the one who waits is. No condition beyond each contract's own. -/
import Derived.Test.YtiphdedfbafhkaaDoorRoom1
namespace Go.Proofs.YtiphdedfbafhkaaDoor
open Go.RowKit

section
variable {c c' : Nat → Nat} {K : Nat} {w w' : World} {r ar ck tb : Nat} {rs : Value} {la : List Int} {now : Int} {tl tl' : List Tm} {l l' : List One}

theorem RM.clockT {now' : Int} (h : RM c K w r ar ck tb rs la now tl l) (s : Stp (KJ (K + 1) (K + 4)) c c' w w') (t : ClockAt c' (K + 1) w' ck now' tl') : RM c' K w' r ar ck tb rs la now' tl' l :=
  ⟨h.rb.stp s (by unfold KJ; omega), h.aa.imp fun _ a => a.stp s (by unfold KJ; omega), t, h.ta.stp s (by unfold KJ; omega)⟩
theorem JR.kj : ∀ j, KJ (K + 1) (K + 4) j → JR K j := fun _ h => h.elim .inl (fun h => .inr (.inr (.inr h)))

theorem rmtick0_c (h : RM c K w r ar ck tb rs la now tl l) (d : Int) (hn : 0 ≤ now) (hd : 1 ≤ d) (hd2 : d ≤ 1099511627776 - now) (hl : (tl.length : Int) ≤ 1000)
    (h1 : (tl.takeWhile fun x => decide (x.at_ ≤ now + d)) = []) (h2 : (tl.dropWhile fun x => decide (x.at_ ≤ now + d)) = tl) :
    Calls Tryd.prog 14 #[.pointer (some ⟨r, 0, none⟩), .int .i64 d] w fun e w' => ∃ oo oc, e = .returned (.tuple #[.slice oo 0 oc, .nilIface]) ∧ ∃ c', Stp (JR K) c c' w w' ∧ RM c' K w' r ar ck tb rs la (now + d) tl l := by
  have c1 := h.rb.cell 1
  simp at c1
  have H := Lib.hid h
  have H1 := Lib.hid h1
  have H2 := Lib.hid h2
  have Hd := Lib.hid (And.intro hn (And.intro hd (And.intro hd2 hl)))
  clear h h1 h2 hn hd hd2 hl
  go_enter Tryd.func14, Tryd.ntmps14
  go_wp2_with fail
  refine (ktick_ok H.out.ca (K + 4) (by omega) (by omega) d Hd.out.2.2.2 Hd.out.1 Hd.out.2.1 Hd.out.2.2.1).mono ?_
  rintro e w1 ⟨oo, n, oc, rfl, k1, s1, t1, r1⟩
  rw [H2.out] at t1
  rw [H1.out] at r1
  have hn0 : n = 0 := by have := r1.1; simpa using this.symm
  subst hn0
  have M1 := Lib.hid (H.out.clockT s1 t1)
  have S1 := Lib.hid (s1.mono (J' := JR K) JR.kj)
  clear s1 t1 r1 c1
  go_wp2
  refine wp_loop_rounds 1 ?_
  rw [rounds_succ]
  go_wp2
  go_ret2
  exact ⟨oo, oc, rfl, k1, S1.out, M1.out⟩

theorem rmtick1_c {dl : Int} (h : RM c K w r ar ck tb rs la now [⟨dl, 0⟩] [⟨1, false, 0⟩]) (d : Int) (hn : 0 ≤ now) (hd : 1 ≤ d) (hd2 : d ≤ 1099511627776 - now) (h1 : dl ≤ now + d) :
    Calls Tryd.prog 14 #[.pointer (some ⟨r, 0, none⟩), .int .i64 d] w fun e w' => ∃ oo oc, e = .returned (.tuple #[.slice oo 1 oc, .nilIface]) ∧ ∃ c', Stp (JR K) c c' w w' ∧ RM c' K w' r ar ck tb rs la (now + d) [] [⟨0, false, 1⟩] := by
  have c1 := h.rb.cell 1
  simp at c1
  have H := Lib.hid h
  have e1 : decide (dl ≤ now + d) = true := by simpa using h1
  have H1 := Lib.hid (show ([⟨dl, 0⟩] : List Tm).takeWhile (fun x => decide (x.at_ ≤ now + d)) = [⟨dl, 0⟩] by simp [List.takeWhile, e1])
  have H2 := Lib.hid (show ([⟨dl, 0⟩] : List Tm).dropWhile (fun x => decide (x.at_ ≤ now + d)) = [] by simp [List.dropWhile, e1])
  have Hd := Lib.hid (And.intro hn (And.intro hd hd2))
  clear h h1 hn hd hd2 e1
  go_enter Tryd.func14, Tryd.ntmps14
  go_wp2_with fail
  refine (ktick_ok H.out.ca (K + 4) (by omega) (by omega) d (by simp) Hd.out.1 Hd.out.2.1 Hd.out.2.2).mono ?_
  rintro e w1 ⟨oo, n, oc, rfl, k1, s1, t1, r1⟩
  rw [H2.out] at t1
  rw [H1.out] at r1
  have hn0 : n = 1 := by have := r1.1; simp at this; omega
  subst hn0
  have M1 := Lib.hid (H.out.clockT s1 t1)
  have S1 := Lib.hid (s1.mono (J' := JR K) JR.kj)
  obtain ⟨a0, rfl, -, hc0, -, -, -⟩ := r1.cell (j := 0) (v := .int .i64 0) rfl
  have e0 : a0.add 0 = a0 := by simp [Addr.add]
  rw [e0] at hc0
  have c2 := M1.out.rb.cell 2
  simp at c2
  clear s1 t1 r1 c1 e0
  go_wp2
  refine wp_loop_rounds 2 ?_
  rw [rounds_succ]
  go_wp2_with fail
  refine (awake_parked M1.out.ta 0 rfl rfl (by decide) (by decide)).mono ?_
  rintro e w2 ⟨rfl, k2, s2, t2⟩
  have M2 := Lib.hid (M1.out.table s2 t2)
  have S2 := Lib.hid (S1.out.trans (s2.mono JR.t))
  clear s2 t2 hc0 c2
  go_wp2
  rw [rounds_succ]
  go_wp2
  go_ret2
  exact ⟨some a0, oc, rfl, k2, S2.out, M2.out⟩
end
end Go.Proofs.YtiphdedfbafhkaaDoor
