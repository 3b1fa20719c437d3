/- The walk of the law ClockOnce. No condition. -/
import Derived.Test.YtmhhhiegioniaaaClock2
import Derived.Test.YtmhhhiegioniaaaClock4
import Derived.Test.YtmhhhiegioniaaaMem4
namespace Go.Proofs.Ytmhhhiegioniaaa
open Go.RowKit Go.ChangeShapes Go.WideShapes Go.Deep Go.Joins

theorem row_len {c : Nat → Nat} {k : Nat} {w : World} {e : TypeId} {ao : Option Addr} {n cap : Nat} {xs : List Value} (h : Row c k w e 1 ao n cap xs) : n = xs.length := by have := h.1; omega

theorem is_two (w : World) : Calls Try.prog 49 #[.iface 152 (.int .i64 2), .int .i64 2] w fun e w' => e = .returned (.bool true) ∧ w = w' :=
  (lawis (Err.num (fun _ => 0) w 2 (by decide)) 2).mono fun _ _ ⟨he, hw⟩ => ⟨by simpa using he, hw⟩

/-- A tick that wakes nobody. -/
theorem ktick_none {c : Nat → Nat} {k : Nat} {w : World} {p : Nat} {now : Int} {l : List Tm} (h : ClockAt c k w p now l) (kr : Nat) (hk : kr ≠ k) (hk1 : kr ≠ k + 1) (d : Int) (hl : (l.length : Int) ≤ 1000) (hn : 0 ≤ now) (hd : 1 ≤ d) (hd2 : d ≤ 1099511627776 - now) (hno : ∀ x ∈ l, ¬ x.at_ ≤ now + d) :
    Calls Try.prog 71 #[.pointer (some ⟨p, 0, none⟩), .int .i64 d] w fun e w' => ∃ oo oc, e = .returned (.tuple #[.slice oo 0 oc, .nilIface]) ∧ ∃ c', Stp (KJ k kr) c c' w w' ∧ ClockAt c' k w' p (now + d) l := by
  refine (ktick_ok h kr hk hk1 d hl hn hd hd2).mono ?_
  rintro e w' ⟨oo, n, oc, rfl, c', s, hc, hr⟩
  obtain ⟨h1, h2⟩ := while_split (l := l) (t := 0) (now := now + d) (by simp) (fun x hx => hno x (List.mem_of_getElem? hx))
  rw [h1] at hr
  rw [h2] at hc
  obtain rfl : n = 0 := by have := row_len hr; simpa using this
  exact ⟨oo, oc, rfl, c', s, by simpa using hc⟩

/-- A tick that wakes the one who waits. -/
theorem ktick_one {c : Nat → Nat} {k : Nat} {w : World} {p : Nat} {now : Int} {y : Tm} (h : ClockAt c k w p now [y]) (kr : Nat) (hk : kr ≠ k) (hk1 : kr ≠ k + 1) (d : Int) (hn : 0 ≤ now) (hd : 1 ≤ d) (hd2 : d ≤ 1099511627776 - now) (hy : y.at_ ≤ now + d) :
    Calls Try.prog 71 #[.pointer (some ⟨p, 0, none⟩), .int .i64 d] w fun e w' => ∃ g off oc, e = .returned (.tuple #[.slice (some ⟨g, off, none⟩) 1 oc, .nilIface]) ∧ ∃ c', Stp (KJ k kr) c c' w w' ∧ ClockAt c' k w' p (now + d) [] ∧
      Row c' kr w' 3 1 (some ⟨g, off, none⟩) 1 oc [.int .i64 y.who] := by
  refine (ktick_ok h kr hk hk1 d (by simp) hn hd hd2).mono ?_
  rintro e w' ⟨oo, n, oc, rfl, c', s, hc, hr⟩
  have h1 : [y].takeWhile (fun x => decide (x.at_ ≤ now + d)) = [y] := by simp [hy]
  have h2 : [y].dropWhile (fun x => decide (x.at_ ≤ now + d)) = [] := by simp [hy]
  rw [h1] at hr
  rw [h2] at hc
  obtain rfl : n = 1 := by have := row_len hr; simpa using this
  obtain ⟨a, rfl, hs, -⟩ := hr.cell (j := 0) (v := .int .i64 y.who) rfl
  obtain ⟨g, off, sp⟩ := a
  simp only at hs
  subst hs
  exact ⟨g, off, oc, rfl, c', s, hc, hr⟩

set_option maxRecDepth 100000 in
theorem awake4k (K : Nat) (c : Nat → Nat) (w : World) :
    Calls Try.prog 65 #[] w fun e w' => e = .returned (.bool true) ∧ ∃ c', Stp (K ≤ ·) c c' w w' := by
  obtain ⟨c1, hc1, A1⟩ := ((Stp.refl (K ≤ ·) c w).alloc (.cells #[.int .i64 0, .slice none 0 0] 102) K).name
  have C1 := Lib.hid (show ClockAt c1 K (w.alloc (.cells #[.int .i64 0, .slice none 0 0] 102)) w.heap.size 0 [] from ⟨0, none, 0, by rw [hc1.out]; exact Blk.new c K w _ _, Row.nil _ _ _ _ _, rfl⟩)
  clear hc1
  go_enter Try.func65, Try.ntmps65
  go_wp2_with fail
  refine (kset_end C1.out 3 5 (by decide) (by decide) (by decide) (by decide) (by decide) (by simp)).mono ?_
  rintro e w2 ⟨rfl, c2, s2, h2⟩
  have S2 := Lib.hid (A1.out.trans (s2.mono (J' := (K ≤ ·)) (fun j hj => by rcases hj with hj | hj <;> omega)))
  have C2 := Lib.hid (show ClockAt c2 K w2 w.heap.size 0 [⟨3, 5⟩] by simpa using h2)
  clear s2 h2 A1 C1
  go_wp2_with fail
  refine (ktick_none C2.out (K + 2) (by omega) (by omega) 2 (by simp) (by decide) (by decide) (by decide) (by simp)).mono ?_
  rintro e w3 ⟨oo, oc, rfl, c3, s3, h3⟩
  have S3 := Lib.hid (S2.out.trans (s3.mono (J' := (K ≤ ·)) (fun j hj => by rcases hj with hj | hj <;> omega)))
  have C3 := Lib.hid (show ClockAt c3 K w3 w.heap.size 2 [⟨3, 5⟩] from h3)
  clear s3 h3 S2 C2
  go_wp2_with fail
  refine (ktick_one C3.out (K + 2) (by omega) (by omega) 1 (by decide) (by decide) (by decide) (by decide)).mono ?_
  rintro e w4 ⟨g, off, oc4, rfl, c4, s4, h4, r4⟩
  have S4 := Lib.hid (S3.out.trans (s4.mono (J' := (K ≤ ·)) (fun j hj => by rcases hj with hj | hj <;> omega)))
  obtain ⟨a, ha, -, y0, -, hadd, -⟩ := r4.cell (j := 0) (v := .int .i64 5) rfl
  cases ha
  rw [hadd] at y0
  simp at y0
  clear s4 h4 r4 S3 C3 hadd
  go_wp2
  go_ret
  exact ⟨rfl, c4, S4.out⟩

structure KInv (w0 : World) (p q : Nat) (A Wk N u : Int) (c : Nat → Nat) (wr : World) (l : List Tm) : Prop where
  st : Stp (2 ≤ ·) (fun _ => 0) c w0 wr
  ck : ClockAt c 2 wr p N l
  cl : ClockAt c 4 wr q 0 [⟨A, Wk⟩]
  n0 : 0 ≤ N
  is : (N < A ∧ u = 0 ∧ l = [⟨A, Wk⟩]) ∨ (A ≤ N ∧ u = 1 ∧ l = [])

def OnceRel (w0 : World) (p q : Nat) (A Wk : Int) (n : Nat) (v u i : Value) (wr : World) : Prop :=
  ∃ (c : Nat → Nat) (l : List Tm) (N u' : Int) (j : Nat), v = .int .i64 N ∧ u = .int .i64 u' ∧ i = .int .i64 j ∧ j ≤ n ∧ N ≤ 256 * j ∧ KInv w0 p q A Wk N u' c wr l

theorem KInv.tick {w0 : World} {p q : Nat} {A Wk N u N' u' : Int} {c c' : Nat → Nat} {wr w' : World} {l l' : List Tm} (h : KInv w0 p q A Wk N u c wr l) (s : Stp (KJ 2 7) c c' wr w') (hc : ClockAt c' 2 w' p N' l') (h0 : 0 ≤ N')
    (hi : (N' < A ∧ u' = 0 ∧ l' = [⟨A, Wk⟩]) ∨ (A ≤ N' ∧ u' = 1 ∧ l' = [])) : KInv w0 p q A Wk N' u' c' w' l' :=
  ⟨h.st.trans (s.mono (fun j hj => by rcases hj with hj | hj <;> omega)), hc, h.cl.stp s (fun h => by rcases h with h | h <;> omega) (fun h => by rcases h with h | h <;> omega), h0, hi⟩

theorem wrap_small1 {x : Int} (h0 : 0 ≤ x) (h1 : x ≤ 1000000) : wrap64 x = x := IntWalk.wrap64_in _ (by constructor <;> omega)

set_option maxRecDepth 100000 in
set_option maxHeartbeats 4000000 in
theorem once_in {w : World} (A who Wk : Int) (bo : Option Addr) (n cap : Nat) (tk : List Int) (h1 : 1 ≤ A) (h2 : A ≤ 2000) (hn : n ≤ 60) (hw : who.tmod 64 = Wk) (hW0 : 0 ≤ Wk) (hW1 : Wk < 64)
    (hq : In (fun _ => 0) 0 w 1 bo n cap (tk.map (Value.int .u8))) (htk : ∀ x ∈ tk, 0 ≤ x ∧ x ≤ 255) :
    Calls Try.prog 13 #[.int .i64 A, .int .u8 who, .slice bo n cap] w fun e w' => e = .returned (.bool true) ∧ Below w.heap.size w w' := by
  have Hq := Lib.hid hq
  have Htk := Lib.hid htk
  have Hlen := Lib.hid (show tk.length = n by have := hq.1; simpa using this)
  have t1 : decide (A < 1) = false := by simp; omega
  have t2 : decide ((2000 : Int) < A) = false := by simp; omega
  have t3 : decide ((60 : Int) < (n : Int)) = false := by simp; omega
  have WW : wrap64 Wk = Wk := wrap_small1 hW0 (by omega)
  have H1 := Lib.hid h1
  have H2 := Lib.hid h2
  have HW0 := Lib.hid hW0
  have HW1 := Lib.hid hW1
  obtain ⟨c1, hc1, A1⟩ := ((Stp.refl (2 ≤ ·) (fun _ => 0) w).alloc (.cells #[.int .i64 0, .slice none 0 0] 102) 2).name
  have C1 := Lib.hid (show ClockAt c1 2 (w.alloc (.cells #[.int .i64 0, .slice none 0 0] 102)) w.heap.size 0 [] from ⟨0, none, 0, by rw [hc1.out]; exact Blk.new _ 2 w _ _, Row.nil _ _ _ _ _, rfl⟩)
  clear hc1 hq htk h1 h2 hW0 hW1
  go_enter Try.func13, Try.ntmps13
  go_wp2_with fail
  refine (kset_end C1.out A Wk (by have := H1.out; omega) (by have := H2.out; omega) HW0.out HW1.out (by decide) (by simp)).mono ?_
  rintro e w2 ⟨rfl, c2, s2, h2⟩
  have S2 := Lib.hid (A1.out.trans (s2.mono (J' := (2 ≤ ·)) (fun j hj => by rcases hj with hj | hj <;> omega)))
  have C2 := Lib.hid (show ClockAt c2 2 w2 w.heap.size 0 [⟨A, Wk⟩] by simpa using h2)
  clear s2 h2 A1 C1
  go_wp2_with fail
  refine (kclone_any C2.out 4 (by simp)).mono ?_
  rintro e w3 ⟨q, rfl, c3, s3, h3⟩
  have I3 := Lib.hid (show KInv w w.heap.size q A Wk 0 0 c3 w3 [⟨A, Wk⟩] from ⟨S2.out.trans (s3.mono (fun _ h => h.elim)), C2.out.stp s3 id id, h3, Int.le_refl _, .inl ⟨by have := H1.out; omega, rfl, rfl⟩⟩)
  clear s3 h3 S2 C2
  go_wp2_with fail
  go_loopw [10, 11, 43] (fun v u i wr => OnceRel w w.heap.size q A Wk n v u i wr) (fun _ _ i _ => n - (intOf i).toNat)
  case atStart => exact ⟨c3, _, 0, 0, 0, rfl, rfl, rfl, Nat.zero_le _, by omega, I3.out⟩
  case round =>
    obtain ⟨c, l, N, u, j, rfl, rfl, rfl, hj, hNj, hinv⟩ := hrel
    have I := Lib.hid hinv
    clear hinv I3
    by_cases hlt : j < n
    · obtain ⟨b, hb, y0⟩ := (Hq.out.stp I.out.st (by decide)).ints hlt
      subst hb
      have hjt : j < tk.length := by rw [Hlen.out]; exact hlt
      have hk := Htk.out (tk.getD j 0) (by simp [List.getD, hjt])
      generalize tk.getD j 0 = d at *
      have n0 := I.out.n0
      have W0 : wrap64 d = d := wrap_small1 hk.1 (by omega)
      have W1 : wrap64 (d + 1) = d + 1 := wrap_small1 (by omega) (by omega)
      have W2 : wrap64 (N + (d + 1)) = N + (d + 1) := wrap_small1 (by omega) (by omega)
      have Hk := Lib.hid hk
      have HN := Lib.hid n0
      have HNj := Lib.hid (show N ≤ 20000 by omega)
      have HNk := Lib.hid hNj
      clear hk n0 hNj
      rcases I.out.is with ⟨hA, rfl, rfl⟩ | ⟨hA, rfl, rfl⟩
      · have ta : decide (N < A) = true := by simpa using hA
        by_cases hA2 : A ≤ N + (d + 1)
        · have tb : decide (A ≤ N + (d + 1)) = true := by simpa using hA2
          have HA2 := Lib.hid hA2
          clear hA2 hA
          go_wp2_with fail
          refine (ktick_one I.out.ck 7 (by decide) (by decide) (d + 1) HN.out (by have := Hk.out; omega) (by have := Hk.out; have := HNj.out; omega) HA2.out).mono ?_
          rintro e w4 ⟨g, off, oc, rfl, c4, s4, h4, r4⟩
          have I4 := Lib.hid (I.out.tick s4 h4 (by have := HN.out; have := Hk.out; omega) (.inr ⟨HA2.out, rfl, rfl⟩))
          obtain ⟨a, ha, -, z0, -, hadd, -⟩ := r4.cell (j := 0) (v := .int .i64 Wk) rfl
          cases ha
          rw [hadd] at z0
          simp at z0
          clear s4 h4 r4 hadd y0
          go_wp2
          go_roundw
          case rel => exact ⟨c4, _, N + (d + 1), 1, j + 1, by simp [W2], rfl, by go_num, by omega, by have := HNk.out; have := Hk.out; omega, I4.out⟩
          case measure => simp [intOf]; omega
        · have tb : decide (A ≤ N + (d + 1)) = false := by simpa using hA2
          have HA2 := Lib.hid hA2
          clear hA2 hA
          go_wp2_with fail
          refine (ktick_none I.out.ck 7 (by decide) (by decide) (d + 1) (by simp) HN.out (by have := Hk.out; omega) (by have := Hk.out; have := HNj.out; omega) (by have := HA2.out; simp; omega)).mono ?_
          rintro e w4 ⟨oo, oc, rfl, c4, s4, h4⟩
          have I4 := Lib.hid (I.out.tick s4 h4 (by have := HN.out; have := Hk.out; omega) (.inl ⟨by have := HA2.out; omega, rfl, rfl⟩))
          clear s4 h4 y0
          go_wp2
          go_roundw
          case rel => exact ⟨c4, _, N + (d + 1), 0, j + 1, by simp [W2], rfl, by go_num, by omega, by have := HNk.out; have := Hk.out; omega, I4.out⟩
          case measure => simp [intOf]; omega
      · have ta : decide (N < A) = false := by simp; omega
        have HA2 := Lib.hid hA
        clear hA
        go_wp2_with fail
        refine (ktick_none I.out.ck 7 (by decide) (by decide) (d + 1) (by simp) HN.out (by have := Hk.out; omega) (by have := Hk.out; have := HNj.out; omega) (by simp)).mono ?_
        rintro e w4 ⟨oo, oc, rfl, c4, s4, h4⟩
        have I4 := Lib.hid (I.out.tick s4 h4 (by have := HN.out; have := Hk.out; omega) (.inr ⟨by have := HA2.out; have := Hk.out; omega, rfl, rfl⟩))
        clear s4 h4 y0
        go_wp2
        go_roundw
        case rel => exact ⟨c4, _, N + (d + 1), 1, j + 1, by simp [W2], rfl, by go_num, by omega, by have := HNk.out; have := Hk.out; omega, I4.out⟩
        case measure => simp [intOf]; omega
    · clear hj hNj
      rcases (show (decide (A ≤ N) = false ∧ u = 0 ∧ l = [⟨A, Wk⟩]) ∨ (decide (A ≤ N) = true ∧ u = 1 ∧ l = []) by
        rcases I.out.is with ⟨h, h1, h2⟩ | ⟨h, h1, h2⟩
        · exact .inl ⟨by simp; omega, h1, h2⟩
        · exact .inr ⟨by simpa using h, h1, h2⟩) with ⟨ta, rfl, rfl⟩ | ⟨ta, rfl, rfl⟩
      all_goals
        go_wp2_with (first
          | (go_at_call 74; refine (know_any I.out.cl).mono ?_; rintro e w' ⟨rfl, rfl⟩)
          | (go_at_call 75; refine (kwait_any I.out.cl).mono ?_; rintro e w' ⟨rfl, rfl⟩)
          | (go_at_call 75; refine (kwait_any I.out.ck).mono ?_; rintro e w' ⟨rfl, rfl⟩)
          | (go_at_call 71; refine (ktick_nil _ _).mono ?_; rintro e w' ⟨rfl, rfl⟩))
        refine (awake4k 6 c _).mono ?_
        rintro e w5 ⟨rfl, c5, s5⟩
        have S5 := Lib.hid (I.out.st.trans (s5.mono (J' := (2 ≤ ·)) (fun j hj => by omega)))
        clear s5 I
        go_wp2_with (go_at_call 49; refine (is_two _).mono ?_; rintro e w9 ⟨rfl, rfl⟩)
        refine (kset_nil _ _ _).mono ?_
        rintro e w6 ⟨rfl, hb6⟩
        have S6 := Lib.hid (S5.out.trans ((Stp.ofBelow (c := c5) hb6 0).mono (fun _ h => h.elim)))
        clear hb6 S5
        go_wp2_with (first
          | (go_at_call 49; refine (is_two _).mono ?_; rintro e w9 ⟨rfl, rfl⟩)
          | (go_at_call 74; refine (know_nil _).mono ?_; rintro e w' ⟨rfl, rfl⟩))
        refine (kdrop_nil _ _).mono ?_
        rintro e w7 ⟨rfl, hb7⟩
        have S7 := Lib.hid (S6.out.trans ((Stp.ofBelow hb7 0).mono (fun _ h => h.elim)))
        clear hb7 S6
        go_wp2_with (first
          | (go_at_call 75; refine (kwait_nil _).mono ?_; rintro e w' ⟨rfl, rfl⟩)
          | (go_at_call 84; refine (kclone_nil _).mono ?_; rintro e w' ⟨rfl, rfl⟩))
        go_ret
        exact ⟨rfl, S7.out.fin⟩

set_option maxRecDepth 100000 in
theorem once_out {w : World} (A who : Int) (bo : Option Addr) (n cap : Nat) (h : A < 1 ∨ 2000 < A ∨ 60 < n) :
    Calls Try.prog 13 #[.int .i64 A, .int .u8 who, .slice bo n cap] w fun e w' => e = .returned (.bool true) ∧ Below w.heap.size w w' := by
  rcases (show decide (A < 1) = true ∨ (decide (A < 1) = false ∧ decide ((2000 : Int) < A) = true) ∨ (decide (A < 1) = false ∧ decide ((2000 : Int) < A) = false ∧ decide ((60 : Int) < (n : Int)) = true) by
    by_cases h1 : A < 1
    · exact .inl (by simpa using h1)
    · by_cases h2 : 2000 < A
      · exact .inr (.inl ⟨by simpa using h1, by simpa using h2⟩)
      · exact .inr (.inr ⟨by simpa using h1, by simpa using h2, by simp; omega⟩)) with t1 | ⟨t1, t2⟩ | ⟨t1, t2, t3⟩
  all_goals
    clear h
    go_enter Try.func13, Try.ntmps13
    go_wp2_with fail
    refine (awake4k 2 (fun _ => 0) _).mono ?_
    rintro e w2 ⟨rfl, c2, s2⟩
    have S2 := Lib.hid s2
    clear s2
    go_wp2
    go_ret
    exact ⟨rfl, S2.out.fin⟩

theorem once_walk {w : World} (A who : Int) (bo : Option Addr) (n cap : Nat) (tk : List Int) (hw : 0 ≤ who ∧ who ≤ 255) (hq : In (fun _ => 0) 0 w 1 bo n cap (tk.map (Value.int .u8))) (htk : ∀ x ∈ tk, 0 ≤ x ∧ x ≤ 255) :
    Calls Try.prog 13 #[.int .i64 A, .int .u8 who, .slice bo n cap] w fun e w' => e = .returned (.bool true) ∧ Below w.heap.size w w' := by
  by_cases h : A < 1 ∨ 2000 < A ∨ 60 < n
  · exact once_out A who bo n cap h
  · have e : who.tmod 64 = who % 64 := Int.tmod_eq_emod_of_nonneg hw.1
    exact once_in A who (who.tmod 64) bo n cap tk (by omega) (by omega) (by omega) rfl (by omega) (by omega) hq htk
end Go.Proofs.Ytmhhhiegioniaaa
