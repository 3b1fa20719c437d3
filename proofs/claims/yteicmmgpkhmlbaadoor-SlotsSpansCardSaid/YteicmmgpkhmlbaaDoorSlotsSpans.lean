/- The walk of the law SlotsSpans. No condition but that the table of math/bits holds what the program lays there. -/
import Derived.Test.YteicmmgpkhmlbaaDoorSlots4
import Derived.Test.YteicmmgpkhmlbaaDoorSlots5
import Derived.Test.YteicmmgpkhmlbaaDoorSlots6
namespace Go.Proofs.YteicmmgpkhmlbaaDoor
open Go.RowKit Go.ChangeShapes Go.WideShapes Go.Deep Go.Joins

theorem meas_step (m j : Nat) (h : j < m) : m - ((j : Int) + 1).toNat < m - (j : Int).toNat := by omega

set_option maxRecDepth 100000 in
set_option maxHeartbeats 4000000 in
theorem slspans_in {w : World} (s sh : Nat) (lo a b : Int) (ao : Option Addr) (n cap : Nat) (l : List Ev) (hs : s % 7 = sh)
    (hl : In (fun _ => 0) 0 w 2 ao n cap (l.flatMap Ev.cells)) (hlen : l.length = n) (hn : n ≤ 100) (ht : Tab w)
    (hlo : -9223372036854775808 ≤ lo ∧ lo < 9223372036854775808) (hab : -9223372036854775808 ≤ a ∧ a < 9223372036854775808) (hbb : -9223372036854775808 ≤ b ∧ b < 9223372036854775808) :
    Calls Tryd.prog 8 #[.int .u8 s, .int .i64 lo, .slice ao n cap, .int .i64 a, .int .i64 b] w fun e w' => e = .returned (.bool true) ∧ Below w.heap.size w w' := by
  have hsh : sh < 7 := by omega
  have hw := wrap_two_pow sh (by omega)
  have hbd := two_pow_bd sh (by omega)
  have b1 := hbd.1
  have b2 : (2 : Int) ^ sh ≤ 64 := by
    have : 2 ^ sh ≤ 2 ^ 6 := Nat.pow_le_pow_right (by decide) (by omega)
    have := two_pow_cast sh
    omega
  have Ht := Lib.hid ht
  have hN : wrap64 (2 ^ (s % 7)) = 2 ^ sh := by rw [hs, hw]
  have Hl := Lib.hid hl
  have Hlen := Lib.hid hlen
  have g1 : decide ((100 : Int) < (n : Int)) = false := by simp; omega
  have hnew := slnew_n (fun _ => 0) 2 sh (2 ^ sh) (by omega) rfl w ht
  rw [two_pow_cast] at hnew
  have Hnew := Lib.hid hnew
  clear hs ht hw hbd hl hlen hnew
  go_enter Tryd.func8, Tryd.ntmps8
  go_wp2_with fail
  try simp only [hN]
  refine Hnew.out.mono ?_
  rintro e w1 ⟨p, rfl, c1, s1, h1⟩
  have S1 := Lib.hid (s1.mono (J' := (2 ≤ ·)) (fun _ h => h.elim))
  have R1 := Lib.hid h1
  clear s1 h1 Hnew g1
  go_wp2_with fail
  by_cases hbad : lo < 0 ∨ 4611686018427387904 < lo
  · have Hbad := Lib.hid hbad
    have hb := hbad
    clear hbad
    try simp only [hN]
    refine (slfill_bad c1 p lo _ Hbad.out).mono ?_
    rintro e w2 ⟨ev, rfl, c2, s2, e2⟩
    have S2 := Lib.hid (S1.out.trans (s2.mono (fun _ h => h.elim)))
    have E2 := Lib.hid e2
    clear s2 e2 R1
    rcases (show decide (lo < 0) = true ∨ (decide (lo < 0) = false ∧ decide ((4611686018427387904 : Int) < lo) = true) by
      rcases hb with h | h
      · exact .inl (by simpa using h)
      · exact .inr ⟨by simp; omega, by simpa using h⟩) with t1 | ⟨t1, t2⟩
    all_goals
      clear hb
      go_wp2_with fail
      refine (awake6 c2 _ (Ht.out.stp S2.out (by decide))).mono ?_
      rintro e w3 ⟨rfl, c3, s3⟩
      have S3 := Lib.hid (S2.out.trans s3)
      have E3 := Lib.hid ((E2.out.stp s3 (by decide)).err (by decide))
      clear s3
      go_wp2_with (go_at_call 23; refine (lawis E3.out _).mono ?_; rintro e w' ⟨rfl, rfl⟩)
      go_ret
      exact ⟨rfl, S3.out.fin⟩
  · have l0 : 0 ≤ lo := by omega
    have l1 : lo ≤ 4611686018427387904 := by omega
    have t1 : decide (lo < 0) = false := by simp; omega
    have t2 : decide ((4611686018427387904 : Int) < lo) = false := by simp; omega
    have W1 : wrap64 (4611686018427387904 - lo) = 4611686018427387904 - lo := IntWalk.wrap64_in _ ⟨by omega, by omega⟩
    clear hbad
    by_cases hfull : 4611686018427387904 - lo < (n : Int)
    · have t3 : decide (4611686018427387904 - lo < (n : Int)) = true := by simpa using hfull
      refine (slfill_full c1 p lo ao n cap l0 l1 hfull).mono ?_
      rintro e w2 ⟨ev, rfl, c2, s2, e2⟩
      have S2 := Lib.hid (S1.out.trans (s2.mono (fun _ h => h.elim)))
      have E2 := Lib.hid e2
      clear s2 e2 R1 hfull
      go_wp2_with fail
      refine (awake6 c2 _ (Ht.out.stp S2.out (by decide))).mono ?_
      rintro e w3 ⟨rfl, c3, s3⟩
      have S3 := Lib.hid (S2.out.trans s3)
      have E3 := Lib.hid ((E2.out.stp s3 (by decide)).err (by decide))
      clear s3
      go_wp2_with (go_at_call 23; refine (lawis E3.out _).mono ?_; rintro e w' ⟨rfl, rfl⟩)
      go_ret
      exact ⟨rfl, S3.out.fin⟩
    · have t3 : decide (4611686018427387904 - lo < (n : Int)) = false := by simp; omega
      have Hnl : Hid ((n : Int) ≤ 4611686018427387904 - lo) := Lib.hid (by omega)
      have hpc := two_pow_cast sh
      obtain ⟨m, hm1, hm2⟩ : ∃ m : Nat, (if (n : Int) < 2 ^ sh then (n : Int) else 2 ^ sh) = (m : Int) ∧ ((n : Int) ≤ 2 ^ sh ∧ n = m ∨ ¬ (n : Int) ≤ 2 ^ sh ∧ (2 : Int) ^ sh = (m : Int)) := by
        by_cases h : (n : Int) < 2 ^ sh
        · exact ⟨n, by rw [if_pos h], .inl ⟨by omega, rfl⟩⟩
        · by_cases h2 : (n : Int) = 2 ^ sh
          · exact ⟨n, by rw [if_neg h, h2], .inl ⟨by omega, rfl⟩⟩
          · exact ⟨2 ^ sh, by rw [if_neg h, hpc], .inr ⟨by omega, by rw [hpc]⟩⟩
      refine (slfill_ok R1.out (Hl.out.stp S1.out (by decide)) Hlen.out (by decide) lo l0 l1 (by omega) m hm1).mono ?_
      rintro e w2 ⟨rfl, c2, ring, s2, r2, f2⟩
      have S2 := Lib.hid (S1.out.trans (s2.up (by decide)))
      have R2 := Lib.hid r2
      have F2 := Lib.hid f2
      clear s2 r2 f2 R1 hm1 hfull S1
      have HM : Hid (m ≤ n ∧ (m : Int) ≤ 2 ^ sh ∧ (0 < n → 0 < m)) := Lib.hid (by omega)
      rcases (show ((n : Int) ≤ 2 ^ sh ∧ ((m : Int) == (n : Int)) = true ∧ ((m : Int) != (n : Int)) = false) ∨ (¬ (n : Int) ≤ 2 ^ sh ∧ ((m : Int) == 2 ^ sh) = true ∧ ((m : Int) != 2 ^ sh) = false) by
        rcases hm2 with ⟨q, q1⟩ | ⟨q, q1⟩
        · exact .inl ⟨q, by simp [q1], by simp [q1]⟩
        · exact .inr ⟨q, by simp [q1], by simp [q1]⟩) with ⟨q, q1, q2⟩ | ⟨q, q1, q2⟩
      all_goals
        clear hm2
        by_cases hm0 : 0 < m
        · have p0 : decide ((0 : Int) < (m : Int)) = true := by simp; omega
          have hmb : (m : Int) ≤ n ∧ (m : Int) ≤ 64 := by have := HM.out; omega
          have W2 : wrap64 (lo + n - 1 - m) = lo + n - 1 - m := IntWalk.wrap64_in _ ⟨by omega, by omega⟩
          have W4 : wrap64 (lo + n) = lo + n := IntWalk.wrap64_in _ ⟨by omega, by omega⟩
          have W5 : wrap64 (lo + n - 1) = lo + n - 1 := IntWalk.wrap64_in _ ⟨by omega, by omega⟩
          obtain ⟨lo2, hlo2⟩ : ∃ lo2 : Int, lo2 = lo + n - m := ⟨_, rfl⟩
          have W3 : wrap64 (lo + n - 1 - m + 1) = lo2 := by rw [hlo2, IntWalk.wrap64_in _ ⟨by omega, by omega⟩]; omega
          have sp := slspan_ok R2.out 3 (by decide) lo2 (lo + n - 1) m (by omega) hm0 (by omega) (by have := HM.out; omega) (by have := Hnl.out; omega)
          have Sp := Lib.hid sp
          have Hm0 := Lib.hid hm0
          have Hlo2 := Lib.hid hlo2
          clear sp hlo2 hmb
          go_wp2_with fail
          refine Sp.out.mono ?_
          rintro e w4 ⟨go, gc, got, rfl, c4, s4, r4, gl, gg⟩
          have S4 := Lib.hid (S2.out.trans (s4.up (by decide)))
          have R4 := Lib.hid (R2.out.stp s4 (by decide))
          have Q4 := Lib.hid r4
          have Gl := Lib.hid gl
          have Gg := Lib.hid gg
          clear s4 r4 gl gg Sp W2 W3 W4 W5
          have e0 : ((m : Int) == (m : Int)) = true := by simp
          go_wp2
          go_loopw [116] (fun i wr => ∃ j : Nat, i = .int .i64 j ∧ j ≤ m ∧ Stp (fun _ => False) c4 c4 w4 wr) (fun i _ => m - (intOf i).toNat)
          case atStart => exact ⟨0, rfl, Nat.zero_le _, Stp.refl _ _ _⟩
          case round =>
            obtain ⟨j, rfl, hj, st⟩ := hrel
            have St := Lib.hid st
            clear st
            by_cases hlt : j < m
            · have hmn := HM.out.1
              obtain ⟨u, hu⟩ : ∃ u : Nat, u = n - m + j := ⟨_, rfl⟩
              obtain ⟨x, hx⟩ : ∃ x, l[u]? = some x := ⟨_, List.getElem?_eq_getElem (by rw [Hlen.out]; omega)⟩
              have hgx : got[j]? = some x := by
                rw [Gg.out j hlt, Hlo2.out, show lo + (n : Int) - m + j = lo + (u : Int) by omega, F2.out u (by omega) (by have := HM.out; omega), hx]
              obtain ⟨g', off', e', y0, -, _⟩ := (Q4.out.stp St.out id).field Ev.len hgx (f := 0) (v := .int .i64 x.key) rfl
              subst e'
              obtain ⟨g', off', e', y1, -, _⟩ := (Q4.out.stp St.out id).field Ev.len hgx (f := 1) (v := .int .i64 x.val) rfl
              cases e'
              have hInr := (Hl.out.stp S4.out (by decide)).stp St.out id
              obtain ⟨a', ha, z0⟩ := hInr.field Ev.len hx (f := 0) (v := .int .i64 x.key) rfl
              obtain ⟨a1, ha1, z1⟩ := hInr.field Ev.len hx (f := 1) (v := .int .i64 x.val) rfl
              subst ha
              cases ha1
              have z1' : wr.cell? ⟨(a'.add (u * 2)).block, (a'.add (u * 2)).off + 1, none⟩ = some (.int .i64 x.val) := by rw [← add_add'] at z1; exact z1
              rw [Nat.add_zero] at y0 z0
              rw [← Nat.add_assoc] at y1
              have W6 : wrap64 ((n : Int) - m) = (n : Int) - m := IntWalk.wrap64_in _ ⟨by omega, by omega⟩
              have W7 : wrap64 ((n : Int) - m + j) = (u : Int) := by rw [IntWalk.wrap64_in _ ⟨by omega, by omega⟩]; omega
              have k1 : u < n := by omega
              have t4 : decide ((j : Int) < (m : Int)) = true := by simp; omega
              have W8 : wrap64 ((j : Int) + 1) = (j : Int) + 1 := IntWalk.wrap64_in _ ⟨by omega, by omega⟩
              have T := Lib.hid hlt
              clear hInr hx hgx z1 hu hmn
              go_wp2
              go_quiet (fail)
              go_wp2
              go_roundw
              case rel => exact ⟨j + 1, by simp [W8], T.out, St.out.drewN _⟩
              case measure => (simp only [W8]; exact meas_step m j T.out)
            · have t4 : decide ((j : Int) < (m : Int)) = false := by simp; omega
              have ST := Lib.hid (S4.out.trans (St.out.mono (fun _ h => h.elim)))
              have RT := Lib.hid (R4.out.stp St.out id)
              obtain ⟨cT, hcT⟩ : ∃ cT, cT = c4 := ⟨_, rfl⟩
              rw [← hcT] at ST RT
              clear hj St S4 R4 Q4
              go_wp2_with fail
              try simp only [hN]
              by_cases hbad : a < 0 ∨ 4611686018427387904 < a
              · have Hbad := Lib.hid hbad
                refine (slspan_bad cT p a b Hbad.out).mono ?_
                rintro e w5 ⟨ev, rfl, c5, s5, e5⟩
                have S5 := Lib.hid (ST.out.trans (s5.mono (fun _ h => h.elim)))
                have E5 := Lib.hid e5
                clear s5 e5 RT ST
                rcases (show decide (a < 0) = true ∨ (decide (a < 0) = false ∧ decide ((4611686018427387904 : Int) < a) = true) by
                  rcases Hbad.out with h | h
                  · exact .inl (by simpa using h)
                  · exact .inr ⟨by simp; omega, by simpa using h⟩) with t1 | ⟨t1, t2⟩
                all_goals
                  clear hbad
                  go_wp2_with fail
                  refine (awake6 c5 _ (Ht.out.stp S5.out (by decide))).mono ?_
                  rintro e w6 ⟨rfl, c6, s6⟩
                  have S6 := Lib.hid (S5.out.trans s6)
                  have E6 := Lib.hid ((E5.out.stp s6 (by decide)).err (by decide))
                  clear s6
                  go_wp2_with (go_at_call 23; refine (lawis E6.out _).mono ?_; rintro e w' ⟨rfl, rfl⟩)
                  go_ret
                  exact ⟨rfl, S6.out.fin⟩
              · have a0 : 0 ≤ a := by omega
                have a1 : a ≤ 4611686018427387904 := by omega
                have u1 : decide (a < 0) = false := by simp; omega
                have u2 : decide ((4611686018427387904 : Int) < a) = false := by simp; omega
                clear hbad
                by_cases href : b < a ∨ 2 ^ sh ≤ b - a ∨ 4611686018427387904 < b
                · refine (slspan_refused RT.out a b a0 a1 href hbb).mono ?_
                  rintro e w5 ⟨ev, rfl, c5, s5, e5⟩
                  have S5 := Lib.hid (ST.out.trans (s5.mono (fun _ h => h.elim)))
                  have E5 := Lib.hid e5
                  clear s5 e5 RT ST
                  have href2 : decide (b < a) = true ∨ (decide (b < a) = false ∧ decide ((4611686018427387904 : Int) < b) = true) ∨ (decide (b < a) = false ∧ decide ((4611686018427387904 : Int) < b) = false ∧ decide ((2 : Int) ^ sh ≤ b - a) = true ∧ wrap64 (b - a) = b - a) := by
                    by_cases v1 : b < a
                    · exact .inl (by simpa using v1)
                    · by_cases v2 : 4611686018427387904 < b
                      · exact .inr (.inl ⟨by simpa using v1, by simpa using v2⟩)
                      · exact .inr (.inr ⟨by simpa using v1, by simpa using v2, by simp; omega, IntWalk.wrap64_in _ ⟨by omega, by omega⟩⟩)
                  clear href
                  rcases href2 with v1 | ⟨v1, v2⟩ | ⟨v1, v2, v3, v4⟩
                  all_goals
                    go_wp2_with fail
                    refine (awake6 c5 _ (Ht.out.stp S5.out (by decide))).mono ?_
                    rintro e w6 ⟨rfl, c6, s6⟩
                    have S6 := Lib.hid (S5.out.trans s6)
                    have E6 := Lib.hid ((E5.out.stp s6 (by decide)).err (by decide))
                    clear s6
                    go_wp2_with (go_at_call 23; refine (lawis E6.out _).mono ?_; rintro e w' ⟨rfl, rfl⟩)
                    go_ret
                    exact ⟨rfl, S6.out.fin⟩
                · obtain ⟨m2, hm2⟩ : ∃ m2 : Nat, (m2 : Int) = b - a + 1 := ⟨(b - a + 1).toNat, by omega⟩
                  refine (slspan_ok RT.out 4 (by decide) a b m2 (by omega) (by omega) a0 (by omega) (by omega)).mono ?_
                  rintro e w5 ⟨bo, bc, got, rfl, c5, s5, -, -, -⟩
                  have S5 := Lib.hid (ST.out.trans (s5.up (by decide)))
                  have v1 : decide (b < a) = false := by simp; omega
                  have v2 : decide ((4611686018427387904 : Int) < b) = false := by simp; omega
                  have v3 : decide ((2 : Int) ^ sh ≤ b - a) = false := by simp; omega
                  have v4 : wrap64 (b - a) = b - a := IntWalk.wrap64_in _ ⟨by omega, by omega⟩
                  have v5 : wrap64 (b - a + 1) = b - a + 1 := IntWalk.wrap64_in _ ⟨by omega, by omega⟩
                  have v6 : ((m2 : Int) == b - a + 1) = true := by simp [hm2]
                  clear s5 RT ST href hm2
                  go_wp2_with fail
                  refine (awake6 c5 _ (Ht.out.stp S5.out (by decide))).mono ?_
                  rintro e w6 ⟨rfl, c6, s6⟩
                  have S6 := Lib.hid (S5.out.trans s6)
                  clear s6
                  go_wp2
                  go_ret
                  exact ⟨by first | rfl | simp [v6], S6.out.fin⟩
        · have p0 : decide ((0 : Int) < (m : Int)) = false := by simp; omega
          obtain ⟨cT, hcT⟩ : ∃ cT, cT = c2 := ⟨_, rfl⟩
          have ST := S2
          have RT := R2
          rw [← hcT] at ST RT
          clear S2 R2 F2
          go_wp2_with fail
          try simp only [hN]
          by_cases hbad : a < 0 ∨ 4611686018427387904 < a
          · have Hbad := Lib.hid hbad
            refine (slspan_bad cT p a b Hbad.out).mono ?_
            rintro e w5 ⟨ev, rfl, c5, s5, e5⟩
            have S5 := Lib.hid (ST.out.trans (s5.mono (fun _ h => h.elim)))
            have E5 := Lib.hid e5
            clear s5 e5 RT ST
            rcases (show decide (a < 0) = true ∨ (decide (a < 0) = false ∧ decide ((4611686018427387904 : Int) < a) = true) by
              rcases Hbad.out with h | h
              · exact .inl (by simpa using h)
              · exact .inr ⟨by simp; omega, by simpa using h⟩) with t1 | ⟨t1, t2⟩
            all_goals
              clear hbad
              go_wp2_with fail
              refine (awake6 c5 _ (Ht.out.stp S5.out (by decide))).mono ?_
              rintro e w6 ⟨rfl, c6, s6⟩
              have S6 := Lib.hid (S5.out.trans s6)
              have E6 := Lib.hid ((E5.out.stp s6 (by decide)).err (by decide))
              clear s6
              go_wp2_with (go_at_call 23; refine (lawis E6.out _).mono ?_; rintro e w' ⟨rfl, rfl⟩)
              go_ret
              exact ⟨rfl, S6.out.fin⟩
          · have a0 : 0 ≤ a := by omega
            have a1 : a ≤ 4611686018427387904 := by omega
            have u1 : decide (a < 0) = false := by simp; omega
            have u2 : decide ((4611686018427387904 : Int) < a) = false := by simp; omega
            clear hbad
            by_cases href : b < a ∨ 2 ^ sh ≤ b - a ∨ 4611686018427387904 < b
            · refine (slspan_refused RT.out a b a0 a1 href hbb).mono ?_
              rintro e w5 ⟨ev, rfl, c5, s5, e5⟩
              have S5 := Lib.hid (ST.out.trans (s5.mono (fun _ h => h.elim)))
              have E5 := Lib.hid e5
              clear s5 e5 RT ST
              have href2 : decide (b < a) = true ∨ (decide (b < a) = false ∧ decide ((4611686018427387904 : Int) < b) = true) ∨ (decide (b < a) = false ∧ decide ((4611686018427387904 : Int) < b) = false ∧ decide ((2 : Int) ^ sh ≤ b - a) = true ∧ wrap64 (b - a) = b - a) := by
                by_cases v1 : b < a
                · exact .inl (by simpa using v1)
                · by_cases v2 : 4611686018427387904 < b
                  · exact .inr (.inl ⟨by simpa using v1, by simpa using v2⟩)
                  · exact .inr (.inr ⟨by simpa using v1, by simpa using v2, by simp; omega, IntWalk.wrap64_in _ ⟨by omega, by omega⟩⟩)
              clear href
              rcases href2 with v1 | ⟨v1, v2⟩ | ⟨v1, v2, v3, v4⟩
              all_goals
                go_wp2_with fail
                refine (awake6 c5 _ (Ht.out.stp S5.out (by decide))).mono ?_
                rintro e w6 ⟨rfl, c6, s6⟩
                have S6 := Lib.hid (S5.out.trans s6)
                have E6 := Lib.hid ((E5.out.stp s6 (by decide)).err (by decide))
                clear s6
                go_wp2_with (go_at_call 23; refine (lawis E6.out _).mono ?_; rintro e w' ⟨rfl, rfl⟩)
                go_ret
                exact ⟨rfl, S6.out.fin⟩
            · obtain ⟨m2, hm2⟩ : ∃ m2 : Nat, (m2 : Int) = b - a + 1 := ⟨(b - a + 1).toNat, by omega⟩
              refine (slspan_ok RT.out 4 (by decide) a b m2 (by omega) (by omega) a0 (by omega) (by omega)).mono ?_
              rintro e w5 ⟨bo, bc, got, rfl, c5, s5, -, -, -⟩
              have S5 := Lib.hid (ST.out.trans (s5.up (by decide)))
              have v1 : decide (b < a) = false := by simp; omega
              have v2 : decide ((4611686018427387904 : Int) < b) = false := by simp; omega
              have v3 : decide ((2 : Int) ^ sh ≤ b - a) = false := by simp; omega
              have v4 : wrap64 (b - a) = b - a := IntWalk.wrap64_in _ ⟨by omega, by omega⟩
              have v5 : wrap64 (b - a + 1) = b - a + 1 := IntWalk.wrap64_in _ ⟨by omega, by omega⟩
              have v6 : ((m2 : Int) == b - a + 1) = true := by simp [hm2]
              clear s5 RT ST href hm2
              go_wp2_with fail
              refine (awake6 c5 _ (Ht.out.stp S5.out (by decide))).mono ?_
              rintro e w6 ⟨rfl, c6, s6⟩
              have S6 := Lib.hid (S5.out.trans s6)
              clear s6
              go_wp2
              go_ret
              exact ⟨by first | rfl | simp [v6], S6.out.fin⟩

set_option maxRecDepth 100000 in
theorem slspans_out {w : World} (s : Nat) (lo a b : Int) (ao : Option Addr) (n cap : Nat) (h : 100 < n) (ht : Tab w) :
    Calls Tryd.prog 8 #[.int .u8 s, .int .i64 lo, .slice ao n cap, .int .i64 a, .int .i64 b] w fun e w' => e = .returned (.bool true) ∧ Below w.heap.size w w' := by
  have Ht := Lib.hid ht
  have t1 : decide ((100 : Int) < (n : Int)) = true := by simp; omega
  clear ht
  go_enter Tryd.func8, Tryd.ntmps8
  go_wp2_with fail
  refine (awake6 (fun _ => 0) _ Ht.out).mono ?_
  rintro e w2 ⟨rfl, c2, s2⟩
  have S2 := Lib.hid s2
  clear s2
  go_wp2
  go_ret
  exact ⟨rfl, S2.out.fin⟩

theorem dec_ev {H : Type} {enc : TypeId × Value → H} {w : World} {base : Nat} {spare : Nat → Bool} {held : Bool} (n : Nat) (cs : List Value) (y : DataW H × List MemPlace) (h : DataW.trod enc Tryd.prog w base spare held n 52 cs = some y) : ∃ x : Ev, cs = x.cells ∧ True := by
  obtain ⟨hlen, n2, hg⟩ := dec_fields Tryd.underlying52 (by kernel_rfl) (by kernel_rfl) h
  match cs, hlen with
  | [v0, v1], _ =>
    obtain ⟨v0, z0, c0, t0⟩ := hg 0 _ rfl
    obtain ⟨v1, z1, c1, t1⟩ := hg 1 _ rfl
    obtain ⟨x1, e1, _, _⟩ := DataW.trod_int Tryd.underlying2 t0
    obtain ⟨x2, e2, _, _⟩ := DataW.trod_int Tryd.underlying2 t1
    simp at e1 e2 c0 c1
    subst e1 e2 c0 c1
    exact ⟨⟨x1, x2⟩, rfl, trivial⟩

theorem slspans_walk {w : World} (s lo a b : Int) (ao : Option Addr) (n cap : Nat) (l : List Ev) (hs : 0 ≤ s ∧ s ≤ 255)
    (hlo : -9223372036854775808 ≤ lo ∧ lo ≤ 9223372036854775807) (ha : -9223372036854775808 ≤ a ∧ a ≤ 9223372036854775807) (hb : -9223372036854775808 ≤ b ∧ b ≤ 9223372036854775807)
    (hl : In (fun _ => 0) 0 w 2 ao n cap (l.flatMap Ev.cells)) (hlen : l.length = n) (ht : Tab w) :
    Calls Tryd.prog 8 #[.int .u8 s, .int .i64 lo, .slice ao n cap, .int .i64 a, .int .i64 b] w fun e w' => e = .returned (.bool true) ∧ Below w.heap.size w w' := by
  obtain ⟨s, rfl⟩ := Int.eq_ofNat_of_zero_le hs.1
  by_cases h : 100 < n
  · exact slspans_out s lo a b ao n cap h ht
  · exact slspans_in s (s % 7) lo a b ao n cap l rfl hl hlen (by omega) ht ⟨hlo.1, by omega⟩ ⟨ha.1, by omega⟩ ⟨hb.1, by omega⟩
end Go.Proofs.YteicmmgpkhmlbaaDoor
