/- Contracts of the document's Least, Set, Drop for clocks. No condition beyond each contract's own. -/
import Derived.Test.YtmhhhiegioniaaaClockLaw
namespace Go.Proofs.Ytmhhhiegioniaaa
open Go.RowKit

theorem Try.infoRTimer : (Try.prog.info? 119).map (fun i => (i.zero, i.size, i.bytes)) = some (some (.agg #[.int .i64 0, .int .i64 0]), 2, 16) := by kernel_rfl

theorem lstTo_lt (m : List Tm) : ∀ j, j ≤ m.length → lstTo m j < j ∧ -1 ≤ lstTo m j
  | 0, _ => by simp [lstTo]
  | j + 1, h => by
    have := lstTo_lt m j (by omega)
    unfold lstTo
    split
    · omega
    · omega

theorem In.tm {c : Nat → Nat} {k : Nat} {w : World} {ao : Option Addr} {n cap : Nat} {m : List Tm} (h : In c k w 2 ao n cap (m.flatMap Tm.cells)) {j : Nat} {x : Tm} (hx : m[j]? = some x) :
    ∃ a, ao = some a ∧ w.cell? (a.add (j * 2)) = some (.int .i64 x.at_) ∧ w.cell? ⟨(a.add (j * 2)).block, (a.add (j * 2)).off + 1, none⟩ = some (.int .i64 x.who) := by
  obtain ⟨a, ha, y0⟩ := h.field Tm.len hx (f := 0) (v := .int .i64 x.at_) rfl
  obtain ⟨a1, ha1, y1⟩ := h.field Tm.len hx (f := 1) (v := .int .i64 x.who) rfl
  subst ha
  cases ha1
  rw [Nat.add_zero] at y0
  refine ⟨a, rfl, y0, ?_⟩
  rw [← add_add'] at y1
  exact y1

set_option maxRecDepth 100000 in
theorem r04least_any {c : Nat → Nat} {k : Nat} {w : World} {ao : Option Addr} {n cap : Nat} {m : List Tm} (h : In c k w 2 ao n cap (m.flatMap Tm.cells)) (hln : m.length = n) :
    Calls Try.prog 73 #[.slice ao n cap] w fun e w' => e = .returned (.int .i64 (lstTo m n)) ∧ Stp (fun _ => False) c c w w' := by
  have hm : n ≤ 9223372036854775807 := by have h1 := h.2.1; have h2 := h.2.2.1; simp only [maxLen] at h2; omega
  have H := Lib.hid h
  have Hl := Lib.hid hln
  clear h hln
  go_enter Try.func73, Try.ntmps73
  go_wp2
  go_loopw [3, 4] (fun av iv wr => ∃ j : Nat, av = .int .i64 (lstTo m j) ∧ iv = .int .i64 j ∧ j ≤ n ∧ Stp (fun _ => False) c c w wr) (fun _ iv _ => n - (intOf iv).toNat)
  case atStart => exact ⟨0, rfl, rfl, Nat.zero_le _, Stp.refl _ _ _⟩
  case round =>
    obtain ⟨j, rfl, rfl, hj, st⟩ := hrel
    have St := Lib.hid st
    have hIn := H.out.stp st id
    clear st
    by_cases hlt : j < n
    · have hjl : j < m.length := by rw [Hl.out]; exact hlt
      have hb := lstTo_lt m j (by omega)
      obtain ⟨x, hx⟩ : ∃ x, m[j]? = some x := ⟨_, List.getElem?_eq_getElem hjl⟩
      have hgx : m.getD j ⟨0, 0⟩ = x := by simp [List.getD, hx]
      obtain ⟨a, rfl, y0, -⟩ := hIn.tm hx
      obtain ⟨A, hA⟩ : ∃ A, A = lstTo m j := ⟨_, rfl⟩
      rw [← hA] at hb
      by_cases hneg : A < 0
      · have Hs := Lib.hid (show lstTo m (j + 1) = (j : Int) by rw [lstTo, ← hA, if_pos (.inl hneg)])
        have t0 : decide (A < 0) = true := by simpa using hneg
        have HA := Lib.hid hA
        rw [← hA]
        clear hx hgx hA hb hneg hIn
        go_wp2_with fail
        go_quiet (fail)
        go_wp2
        go_roundw
        case rel => exact ⟨j + 1, by rw [Hs.out], by go_num, by omega, St.out.drewN nq⟩
        case measure => simp [intOf]; omega
      · obtain ⟨i, hi⟩ : ∃ i : Nat, A = i := ⟨A.toNat, by omega⟩
        subst hi
        have hil : i < m.length := by omega
        obtain ⟨z, hz⟩ : ∃ z, m[i]? = some z := ⟨_, List.getElem?_eq_getElem hil⟩
        have hgz : m.getD i ⟨0, 0⟩ = z := by simp [List.getD, hz]
        obtain ⟨a', ha', z0, -⟩ := hIn.tm hz
        cases ha'
        have hin : i < n := by omega
        have t0 : decide ((i : Int) < 0) = false := by simp
        by_cases hc : x.at_ < z.at_
        · have Hs := Lib.hid (show lstTo m (j + 1) = (j : Int) by rw [lstTo, ← hA, if_pos (.inr (by rw [hgx, Int.toNat_natCast, hgz]; exact hc))])
          have t1 : decide (x.at_ < z.at_) = true := by simpa using hc
          rw [← hA]
          clear hx hgx hA hb hneg hIn hz hgz hc
          go_wp2_with fail
          go_quiet (fail)
          go_wp2
          go_roundw
          case rel => exact ⟨j + 1, by rw [Hs.out], by go_num, by omega, St.out.drewN nq⟩
          case measure => simp [intOf]; omega
        · have Hs := Lib.hid (show lstTo m (j + 1) = (i : Int) by
            rw [lstTo, ← hA, if_neg (fun h => by
              rcases h with h | h
              · omega
              · rw [hgx, Int.toNat_natCast, hgz] at h; exact hc h)])
          have t1 : decide (x.at_ < z.at_) = false := by simpa using hc
          rw [← hA]
          clear hx hgx hA hb hneg hIn hz hgz hc
          go_wp2_with fail
          go_quiet (fail)
          go_wp2
          go_roundw
          case rel => exact ⟨j + 1, by rw [Hs.out], by go_num, by omega, St.out.drewN nq⟩
          case measure => simp [intOf]; omega
    · obtain rfl : j = n := by omega
      clear hIn
      go_wp2
      go_ret
      exact ⟨rfl, St.out⟩

theorem r04set_bad {c : Nat → Nat} {w : World} (ao : Option Addr) (n cap : Nat) (now at_ who er : Int)
    (he : ((at_ ≤ now ∨ 1099511627776 < at_) ∧ er = 5) ∨ ((now < at_ ∧ at_ ≤ 1099511627776) ∧ (who < 0 ∨ 64 ≤ who) ∧ er = 1) ∨ ((now < at_ ∧ at_ ≤ 1099511627776) ∧ (0 ≤ who ∧ who < 64) ∧ 64 ≤ n ∧ er = 8)) :
    Calls Try.prog 66 #[.agg #[.int .i64 now, .slice ao n cap], .int .i64 at_, .int .i64 who] w fun e w' => e = .returned (.tuple #[.agg #[.int .i64 now, .slice ao n cap], .int .i64 er]) ∧ ∃ c', Stp (fun _ => False) c c' w w' := by
  rcases (show (decide (at_ ≤ now) = true ∧ er = 5) ∨ (decide (at_ ≤ now) = false ∧ decide ((1099511627776 : Int) < at_) = true ∧ er = 5) ∨
      (decide (at_ ≤ now) = false ∧ decide ((1099511627776 : Int) < at_) = false ∧ decide (who < 0) = true ∧ er = 1) ∨
      (decide (at_ ≤ now) = false ∧ decide ((1099511627776 : Int) < at_) = false ∧ decide (who < 0) = false ∧ decide ((63 : Int) < who) = true ∧ er = 1) ∨
      (decide (at_ ≤ now) = false ∧ decide ((1099511627776 : Int) < at_) = false ∧ decide (who < 0) = false ∧ decide ((63 : Int) < who) = false ∧ decide ((64 : Int) ≤ (n : Int)) = true ∧ er = 8) by
    rcases he with ⟨h1 | h1, h2⟩ | ⟨⟨h1, h2⟩, h3 | h3, h4⟩ | ⟨⟨h1, h2⟩, ⟨h3, h4⟩, h5, h6⟩
    · exact .inl ⟨by simpa using h1, h2⟩
    · by_cases h0 : at_ ≤ now
      · exact .inl ⟨by simpa using h0, h2⟩
      · exact .inr (.inl ⟨by simpa using h0, by simpa using h1, h2⟩)
    · exact .inr (.inr (.inl ⟨by simp; omega, by simp; omega, by simpa using h3, h4⟩))
    · exact .inr (.inr (.inr (.inl ⟨by simp; omega, by simp; omega, by simp; omega, by simp; omega, h4⟩)))
    · exact .inr (.inr (.inr (.inr ⟨by simp; omega, by simp; omega, by simp; omega, by simp; omega, by simp; omega, h6⟩)))) with ⟨t0, e⟩ | ⟨t0, t1, e⟩ | ⟨t0, t1, t2, e⟩ | ⟨t0, t1, t2, t3, e⟩ | ⟨t0, t1, t2, t3, t4, e⟩
  all_goals
    subst e
    clear he
    go_enter Try.func66, Try.ntmps66
    go_wp2
    exact bodyPost_ret (v := .tuple #[.agg #[.int .i64 now, .slice ao n cap], .int .i64 _]) (by simp [results, Try.results66, go_sem]) rfl ⟨rfl, _, ((Stp.refl (fun _ => False) c w).alloc _ 0).alloc _ 0⟩

set_option maxRecDepth 100000 in
theorem r04set_ok {c : Nat → Nat} {k : Nat} {w : World} {ao : Option Addr} {n cap : Nat} {m : List Tm} (h : In c k w 2 ao n cap (m.flatMap Tm.cells)) (hln : m.length = n) (k2 : Nat) (now at_ who : Int) (h0 : now < at_) (h1 : at_ ≤ 1099511627776) (h2 : 0 ≤ who) (h3 : who < 64) (h4 : n < 64) :
    Calls Try.prog 66 #[.agg #[.int .i64 now, .slice ao n cap], .int .i64 at_, .int .i64 who] w fun e w' => ∃ ao' cap', e = .returned (.tuple #[.agg #[.int .i64 now, .slice ao' (n + 1) cap'], .int .i64 0]) ∧ ∃ c', Stp (· = k2) c c' w w' ∧ Row c' k2 w' 119 2 ao' (n + 1) cap' ((m ++ [(⟨at_, who⟩ : Tm)]).flatMap Tm.cells) := by
  obtain ⟨c2, hc2, A2⟩ := (((Stp.refl (fun _ => False) c w).alloc (.cells #[.int .i64 now, .slice ao n cap] 105) (k2 + 1)).alloc (.cells #[.int .i64 0, .slice none 0 0] 105) (k2 + 1)).name
  obtain ⟨W2, hW2⟩ : ∃ W2 : World, W2 = (w.alloc (.cells #[.int .i64 now, .slice ao n cap] 105)).alloc (.cells #[.int .i64 0, .slice none 0 0] 105) := ⟨_, rfl⟩
  have P2 := Lib.hid (show Blk c2 (k2 + 1) W2 w.heap.size [.int .i64 now, .slice ao n cap] 105 by rw [hc2.out, hW2]; exact (Blk.new c (k2 + 1) w _ _).alloc _ (k2 + 1))
  have Q2 := Lib.hid (show Blk c2 (k2 + 1) W2 (w.heap.size + 1) [.int .i64 0, .slice none 0 0] 105 by rw [hc2.out, hW2]; simpa using (Blk.new (paint c w.heap.size (k2 + 1)) (k2 + 1) (w.alloc (.cells #[.int .i64 now, .slice ao n cap] 105)) [.int .i64 0, .slice none 0 0] 105))
  rw [← hW2] at A2
  have H2 := Lib.hid (h.stp A2.out (fun hh => hh))
  have t0 : decide (at_ ≤ now) = false := by simp; omega
  have t1 : decide ((1099511627776 : Int) < at_) = false := by simp; omega
  have t2 : decide (who < 0) = false := by simp; omega
  have t3 : decide ((63 : Int) < who) = false := by simp; omega
  have t4 : decide ((64 : Int) ≤ (n : Int)) = false := by simp; omega
  have d1 : Hid (0 + n ≤ maxLen) := Lib.hid (by unfold maxLen; omega)
  have d2 : Hid ((0 + n) * 16 ≤ 140737488355328) := Lib.hid (by omega)
  have d3 : Hid (n + 1 ≤ maxLen) := Lib.hid (by unfold maxLen; omega)
  have d4 : Hid ((n + 1) * 16 ≤ 140737488355328) := Lib.hid (by omega)
  clear h hln h0 h1 h2 h3 h4 hc2
  go_enter Try.func66, Try.ntmps66
  go_wp2_with (at_builtin; rw [← hW2]; refine wpList_append_row _ rfl (.tmp 30) (.tmp 32) 103 rfl c2 k2 119 (.agg #[.int .i64 0, .int .i64 0]) 2 16 Try.underlying103 Try.infoRTimer rfl none 0 0 [] rfl (Row.nil _ _ _ _ _) _ n (m.flatMap Tm.cells) rfl H2.out.src (tm_one _) d1.out d2.out ?_)
  intro ao1 cap1 w1 hr1 st1 ot1
  rw [← hW2] at st1 ot1
  clear hW2
  obtain ⟨c3, hc3, A3⟩ := (st1.ofOthers ot1).name
  rw [← hc3.out] at hr1
  have R1 := Lib.hid (show Row c3 k2 w1 119 2 ao1 n cap1 (m.flatMap Tm.cells) by simpa using hr1)
  have q0 := (P2.out.stp A3.out (fun hh => hh)).cell 0
  have z0 := (Q2.out.stp A3.out (fun hh => hh)).cell 0
  have z1 := (Q2.out.stp A3.out (fun hh => hh)).cell 1
  have f0 := (Q2.out.stp A3.out (fun hh => hh)).free 0
  have f1 := (Q2.out.stp A3.out (fun hh => hh)).free 1
  simp at q0 z0 z1
  have hlt := (Q2.out.stp A3.out (fun hh => hh)).lt
  have hlt0 := (P2.out.stp A3.out (fun hh => hh)).lt
  have B1 := Lib.hid (P2.out.stp A3.out (fun hh => hh))
  have E1 := Lib.hid (Q2.out.stp A3.out (fun hh => hh))
  clear hr1 st1 ot1 hc3
  go_wp2_with fail
  go_region_law (refine step_row rfl (.tmp 36) (.tmp 40) 103 rfl _ k2 119 (.agg #[.int .i64 0, .int .i64 0]) 2 16 Try.underlying103 Try.infoRTimer rfl ao1 n cap1 (m.flatMap Tm.cells) (by simp [Act.eval]) (R1.out.drew.alloc _ k2) _ 1 [.int .i64 at_, .int .i64 who] rfl (Src.newAt (cs := [.int .i64 at_, .int .i64 who]) (by simp) rfl) (by simp [Value.oneCell']) d3.out d4.out ?_; intro ao2 cap2 w3 hr3 st3 ot3; have hE := (E1.out.drew.alloc (.cells #[.int .i64 at_, .int .i64 who] 119) k2).stp st3 (show ¬ (k2 + 1 = k2) by omega); have u0 := hE.cell 0; have u1 := hE.cell 1; have v0 := hE.free 0; have v1 := hE.free 1; have hB := (B1.out.drew.alloc (.cells #[.int .i64 at_, .int .i64 who] 119) k2).stp st3 (show ¬ (k2 + 1 = k2) by omega); have u2 := hB.cell 0; simp at u0 u1 u2)
  all_goals
    have S3 := Lib.hid ((((A2.out.trans A3.out).mono (J' := (· = k2)) (fun _ h => h.elim)).drew.alloc (.cells #[.int .i64 at_, .int .i64 who] 119) k2).trans st3)
    have R3 := Lib.hid hr3
    have E3 := Lib.hid hE
    clear hr3 st3 ot3 hE hB u2 q0 z0 z1 f0 f1
    go_wp2
    refine bodyPost_ret (v := .tuple #[.agg #[.int .i64 now, .slice ao2 (n + 1) cap2], .int .i64 0]) (by simp [results, Try.results66, go_sem, u0, u1]) rfl ⟨ao2, cap2, rfl, _, (S3.out.setNew (p := ⟨w.heap.size + 1, 0, none⟩) _ (by simp)).setNew (p := ⟨w.heap.size + 1, 1, none⟩) _ (by simp), ?_⟩
    have r := (R3.out.other (p := ⟨w.heap.size + 1, 0, none⟩) (.int .i64 now) (R3.out.ne_blk E3.out (by decide)) rfl).other (p := ⟨w.heap.size + 1, 1, none⟩) (.slice ao2 (n + 1) cap2) (R3.out.ne_blk E3.out (by decide)) rfl
    simpa [Tm.cells] using r
end Go.Proofs.Ytmhhhiegioniaaa
