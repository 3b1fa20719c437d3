/- What the graph's laws call besides: same, In, small, awake; the law GraphNil. No condition beyond each contract's own. -/
import Derived.Test.YtmhhhiegioniaaaGraph9
namespace Go.Proofs.Ytmhhhiegioniaaa
open Go.RowKit Go.Deep

theorem same13 {c : Nat → Nat} {k1 k2 : Nat} {w : World} {ao bo : Option Addr} {n m cap bcap : Nat} {l r : List Int} (h : In c k1 w 1 ao n cap (l.map (Value.int .i64))) (h2 : In c k2 w 1 bo m bcap (r.map (Value.int .i64))) (he : l = r) :
    Calls Try.prog 97 #[.slice ao n cap, .slice bo m bcap] w fun e w' => e = .returned (.bool true) ∧ Stp (fun _ => False) c c w w' := by
  subst he
  have hl : l.length = n := by simpa using h.1
  have hl2 : l.length = m := by simpa using h2.1
  obtain rfl : n = m := by rw [← hl, hl2]
  have hm : n ≤ 9223372036854775807 := by have h1 := h.2.1; have h2 := h.2.2.1; simp only [maxLen] at h2; omega
  have H := Lib.hid h
  have H2 := Lib.hid h2
  have Hl := Lib.hid hl
  clear h h2 hl hl2
  go_enter Try.func97, Try.ntmps97
  go_wp2
  go_loopw [13] (fun i wr => ∃ j : Nat, i = .int .i64 j ∧ j ≤ n ∧ Stp (fun _ => False) c c w wr) (fun i _ => n - (intOf i).toNat)
  case atStart => exact ⟨0, rfl, Nat.zero_le _, Stp.refl _ _ _⟩
  case round =>
    obtain ⟨j, rfl, hj, st⟩ := hrel
    have St := Lib.hid st
    by_cases hlt : j < n
    · obtain ⟨a, ha, hc⟩ := (H.out.stp st id).ints hlt
      obtain ⟨b, hb, hc2⟩ := (H2.out.stp st id).ints hlt
      subst ha; subst hb
      have t : (l.getD j 0 != l.getD j 0) = false := by simp
      generalize l.getD j 0 = x at *
      clear st hj
      go_wp2
      go_quiet (fail)
      go_wp2
      go_roundw
      case rel => exact ⟨j + 1, by go_num, by omega, St.out.drewN _⟩
      case measure => simp [intOf]; omega
    · clear st hj
      go_wp2
      go_ret
      exact ⟨rfl, St.out⟩

theorem in13_any {c : Nat → Nat} {k : Nat} {w : World} {ao : Option Addr} {n cap : Nat} {l : List Int} (h : In c k w 1 ao n cap (l.map (Value.int .i64))) (v : Int) (b : Bool) (hb : decide (v ∈ l) = b) :
    Calls Try.prog 82 #[.slice ao n cap, .int .i64 v] w fun e w' => e = .returned (.bool b) ∧ w = w' := by
  have hl : l.length = n := by simpa using h.1
  have hm : n ≤ 9223372036854775807 := by have h1 := h.2.1; have h2 := h.2.2.1; simp only [maxLen] at h2; omega
  have H := Lib.hid h
  have Hl := Lib.hid hl
  have Hb := Lib.hid hb
  clear h hl hb
  go_enter Try.func82, Try.ntmps82
  go_wp2
  go_loop [5] (fun i => ∃ j : Nat, i = .int .i64 j ∧ j ≤ n ∧ Hid (v ∉ l.take j)) (fun i => n - (intOf i).toNat)
  case atStart => exact ⟨0, rfl, Nat.zero_le _, Lib.hid (by simp)⟩
  case round =>
    obtain ⟨j, rfl, hj, HS⟩ := hrel
    by_cases hlt : j < n
    · obtain ⟨a, ha, hc⟩ := H.out.ints hlt
      subst ha
      have hjl : j < l.length := by rw [Hl.out]; exact hlt
      obtain ⟨x, hx⟩ : ∃ x, x = l.getD j 0 := ⟨_, rfl⟩
      rw [← hx] at hc
      have Htk := Lib.hid (show l.take (j + 1) = l.take j ++ [x] by rw [List.take_succ_eq_append_getElem hjl, hx]; simp [List.getD, hjl])
      have Hxm := Lib.hid (show x ∈ l by rw [hx]; simp [List.getD, hjl])
      clear hx hjl
      by_cases hxv : x = v
      · subst hxv
        have t : (x == x) = true := by simp
        have Hbt := Lib.hid (show b = true by rw [← Hb.out]; simpa using Hxm.out)
        go_wp2
        go_ret
        rw [Hbt.out]
        exact ⟨rfl, rfl⟩
      · have t : (x == v) = false := by simpa using hxv
        have HS2 := Lib.hid (show v ∉ l.take (j + 1) by
          rw [Htk.out]
          intro hh
          rcases List.mem_append.1 hh with hh | hh
          · exact HS.out hh
          · simp at hh; exact hxv hh.symm)
        clear hxv
        go_wp2
        go_round
        case rel => exact ⟨j + 1, by go_num, by omega, HS2⟩
        case measure => simp [intOf]; omega
    · have Hbf := Lib.hid (show b = false by
        rw [← Hb.out]
        have := HS.out
        rw [List.take_of_length_le (by rw [Hl.out]; omega)] at this
        simpa using this)
      go_wp2
      go_ret
      rw [Hbf.out]
      exact ⟨rfl, rfl⟩

/-- Add of nodes that are there, each once. -/
theorem gradd_ok {c : Nat → Nat} {k : Nat} {w : World} {p : Nat} {A : List (List Nat)} {G : List Bool} (h : GraphAt c k w p A G) (hn : A.length < 64) {ka : Nat} {po : Option Addr} {pn pcap : Nat} {l : List Int} (hi : In c ka w 1 po pn pcap (l.map (Value.int .i64))) (hka : ¬ GJ k ka) (hpn : pn ≤ 1000) (hz : addEr G [] l = 0) :
    Calls Try.prog 88 #[.pointer (some ⟨p, 0, none⟩), .slice po pn pcap] w fun e w' => e = .returned (.tuple #[.int .i64 A.length, .nilIface]) ∧ ∃ c', Stp (GJ k) c c' w w' ∧ GraphAt c' k w' p (A ++ [l.map Int.toNat]) (G ++ [false]) := by
  refine (gradd_any h hn hi hka hpn).mono ?_
  rintro e w' ⟨c', st, h1 | h1⟩
  · exact ⟨h1.2.1, c', st, h1.2.2⟩
  · exact absurd hz h1.1

theorem gradd_bad {c : Nat → Nat} {k : Nat} {w : World} {p : Nat} {A : List (List Nat)} {G : List Bool} (h : GraphAt c k w p A G) (hn : A.length < 64) {ka : Nat} {po : Option Addr} {pn pcap : Nat} {l : List Int} (hi : In c ka w 1 po pn pcap (l.map (Value.int .i64))) (hka : ¬ GJ k ka) (hpn : pn ≤ 1000) (hz : addEr G [] l ≠ 0) :
    Calls Try.prog 88 #[.pointer (some ⟨p, 0, none⟩), .slice po pn pcap] w fun e w' => ∃ ev, e = .returned (.tuple #[.int .i64 0, ev]) ∧ ∃ c', Stp (GJ k) c c' w w' ∧ GraphAt c' k w' p A G ∧ ErrAt c' w' ev (addEr G [] l) := by
  refine (gradd_any h hn hi hka hpn).mono ?_
  rintro e w' ⟨c', st, h1 | h1⟩
  · exact absurd h1.1 hz
  · obtain ⟨_, ev, he, hE, hG⟩ := h1
    exact ⟨ev, he, c', st, hG, hE⟩

theorem lawis13 {c : Nat → Nat} {w : World} {v : Value} {m : Int} (h : ErrAt c w v m) (hm : m ≠ 0) :
    Calls Try.prog 49 #[v, .int .i64 m] w fun e w' => e = .returned (.bool true) ∧ w = w' :=
  (lawis (h.err hm) m).mono fun _ _ ⟨he, hw⟩ => ⟨by simpa using he, hw⟩

theorem good3 : Good [[], [0], [0, 1]] [false, false, false] :=
  ((Good.empty.add (by decide) (l := []) (by decide) (by decide)).add (by decide) (l := [0]) (by decide) (by decide)).add (by decide) (l := [0, 1]) (by decide) (by decide)

set_option maxRecDepth 100000 in
theorem awake13 (c0 : Nat → Nat) (w : World) : Calls Try.prog 77 #[] w fun e w' => e = .returned (.bool true) ∧ ∃ c', Stp (fun _ => False) c0 c' w w' := by
  have key : Calls Try.prog 77 #[] w fun e w' => e = .returned (.bool true) ∧ ∃ c', Stp (2 ≤ ·) (fun _ => 0) c' w w' := by
    go_enter Try.func77, Try.ntmps77
    go_wp2_with fail
    refine (graph_new (fun _ => 0) 2 w).mono ?_
    rintro e w1 ⟨rfl, c1, s1, g1⟩
    obtain ⟨p, hp⟩ : ∃ p, p = w.heap.size := ⟨_, rfl⟩
    rw [← hp] at g1 ⊢
    have G1 := Lib.hid g1
    have S1 := Lib.hid (s1.mono (J' := (2 ≤ ·)) (fun _ h => h.elim))
    clear g1 s1 hp
    go_wp2_with fail
    refine (gradd_ok (l := []) G1.out (by decide) (In.nil c1 80 _ 1 none) (by unfold GJ; omega) (by decide) rfl).mono ?_
    rintro e w2 ⟨rfl, c2, s2, g2⟩
    have G2 := Lib.hid (g2.stp ((Stp.refl (fun _ => False) c2 w2).alloc (.cells #[.int .i64 0] 3) 80) (fun _ h => h.elim))
    have S2 := Lib.hid ((S1.out.trans (s2.mono (J' := (2 ≤ ·)) (fun _ h => h.1))).alloc (.cells #[.int .i64 0] 3) 80)
    have R2 := Lib.hid (Row.new c2 80 w2 3 1 1 1 [.int .i64 0] rfl (by decide) (by decide)).toIn
    clear s2 g2 S1 G1
    go_wp2_with fail
    refine (gradd_ok (l := [0]) G2.out (by decide) R2.out (by unfold GJ; omega) (by decide) (by decide)).mono ?_
    rintro e w3 ⟨rfl, c3, s3, g3⟩
    have G3 := Lib.hid (g3.stp ((Stp.refl (fun _ => False) c3 w3).alloc (.cells #[.int .i64 0, .int .i64 1] 3) 80) (fun _ h => h.elim))
    have S3 := Lib.hid ((S2.out.trans (s3.mono (J' := (2 ≤ ·)) (fun _ h => h.1))).alloc (.cells #[.int .i64 0, .int .i64 1] 3) 80)
    have R3 := Lib.hid (Row.new c3 80 w3 3 1 2 2 [.int .i64 0, .int .i64 1] rfl (by decide) (by decide)).toIn
    clear s3 g3 S2 G2 R2
    go_wp2_with fail
    refine (gradd_ok (l := [0, 1]) G3.out (by decide) R3.out (by unfold GJ; omega) (by decide) (by decide)).mono ?_
    rintro e w4 ⟨rfl, c4, s4, g4⟩
    have G4 := Lib.hid (show GraphAt c4 2 w4 p [[], [0], [0, 1]] [false, false, false] from g4)
    have S4 := Lib.hid (S3.out.trans (s4.mono (J' := (2 ≤ ·)) (fun _ h => h.1)))
    clear s4 g4 S3 G3 R3
    go_wp2_with fail
    refine (grorder_p G4.out good3 80).mono ?_
    rintro e w5 ⟨oo, oc, rfl, c5, s5, r5⟩
    rw [show ordL [[], [0], [0, 1]] [false, false, false] = [0, 1, 2] by decide] at r5 ⊢
    have G5 := Lib.hid (G4.out.stp s5 (fun _ h => h.elim))
    have S5 := Lib.hid (S4.out.trans (s5.mono (J' := (2 ≤ ·)) (fun _ h => h.elim)))
    have R5 := Lib.hid r5
    clear s5 r5 S4 G4
    go_wp2_with fail
    refine (grlink_ring G5.out good3 0 2 (by decide) (by decide) (by decide) (.base (by decide))).mono ?_
    rintro e w6 ⟨ev, rfl, c6, s6, e6⟩
    have G6 := Lib.hid (G5.out.stp s6 (fun _ h => h.elim))
    have S6 := Lib.hid (S5.out.trans (s6.mono (J' := (2 ≤ ·)) (fun _ h => h.elim)))
    have R6 := Lib.hid (R5.out.stp s6 id)
    have E6 := Lib.hid e6
    clear s6 e6 S5 G5 R5
    obtain ⟨a, ha, hs, hc, -, hadd, -⟩ := R6.out.cell (j := 2) (v := .int .i64 2) rfl
    obtain ⟨g, off, sp⟩ := a
    simp only at hs
    subst hs ha
    rw [hadd] at hc
    clear hadd
    go_wp2_with (go_at_call 49; refine (lawis13 E6.out (by decide)).mono ?_; rintro e w' ⟨rfl, rfl⟩)
    refine (grdepth_p G6.out good3 2 (by decide)).mono ?_
    rintro e w7 ⟨rfl, c7, s7⟩
    rw [show depN [[], [0], [0, 1]] 2 = 2 by decide]
    have S7 := Lib.hid (S6.out.trans (s7.mono (J' := (2 ≤ ·)) (fun _ h => h.elim)))
    clear s7
    go_wp2
    go_ret
    exact ⟨rfl, c7, S7.out⟩
  refine key.mono ?_
  rintro e w' ⟨rfl, c', st⟩
  exact ⟨rfl, _, st.pure (fun _ => by decide) c0 0⟩
end Go.Proofs.Ytmhhhiegioniaaa
