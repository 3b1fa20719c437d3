/- Contracts of the clock's closures, of slices.IndexFunc of timers, and of slices.Insert of one timer at the end. No condition beyond each contract's own. -/
import Derived.Test.YtiphdedfbafhkaaGreatDoorClock
namespace Go.Proofs.YtiphdedfbafhkaaGreatDoor
open Go.RowKit

theorem ksetf_any {w : World} {c : Nat → Nat} {b : Nat} {x : Int} (hb : w.cell? ⟨b, 0, none⟩ = some (.int .i64 x)) (y : Tm) (v : Bool) (hv : decide (x < y.at_) = v) :
    Calls Tryz.prog 112 #[.agg #[.int .i64 y.at_, .int .i64 y.who], .pointer (some ⟨b, 0, none⟩)] w fun e w' => e = .returned (.bool v) ∧ ∃ c', Stp (fun _ => False) c c' w w' := by
  have hlt := World.block_lt_of_cell? w _ hb
  subst hv
  go_enter Tryz.func112, Tryz.ntmps112
  go_wp2
  go_ret
  exact ⟨rfl, _, (Stp.refl _ c w).alloc _ 0⟩

theorem kdropf_any {w : World} {c : Nat → Nat} {b : Nat} {x : Int} (hb : w.cell? ⟨b, 0, none⟩ = some (.int .i64 x)) (y : Tm) (v : Bool) (hv : (y.who == x) = v) :
    Calls Tryz.prog 110 #[.agg #[.int .i64 y.at_, .int .i64 y.who], .pointer (some ⟨b, 0, none⟩)] w fun e w' => e = .returned (.bool v) ∧ ∃ c', Stp (fun _ => False) c c' w w' := by
  have hlt := World.block_lt_of_cell? w _ hb
  subst hv
  go_enter Tryz.func110, Tryz.ntmps110
  go_wp2
  go_ret
  exact ⟨rfl, _, (Stp.refl _ c w).alloc _ 0⟩

/-- The first place of one that a test holds of; -1: none. -/
def ixOfP (l : List Tm) (q : Tm → Bool) : Int := if l.any q then (l.findIdx q : Nat) else -1

theorem ixOfP_hit {l : List Tm} {q : Tm → Bool} {j : Nat} {x : Tm} (hj : l[j]? = some x) (hx : q x = true) (hn : ∀ t ∈ l.take j, q t = false) : ixOfP l q = j := by
  have hl := (List.getElem?_eq_some_iff.1 hj).1
  have ha : l.any q = true := List.any_eq_true.2 ⟨x, List.mem_of_getElem? hj, hx⟩
  rw [ixOfP, if_pos ha]
  congr 1
  rw [List.findIdx_eq hl]
  refine ⟨?_, fun i hi => hn _ ?_⟩
  · have := (List.getElem?_eq_some_iff.1 hj).2
    rw [this]; exact hx
  · rw [List.mem_take_iff_getElem]
    exact ⟨i, by omega, rfl⟩

theorem ixOfP_none {l : List Tm} {q : Tm → Bool} (hn : ∀ t ∈ l, q t = false) : ixOfP l q = -1 := by
  have ha : l.any q = false := by
    rw [List.any_eq_false]
    intro x hx
    rw [hn x hx]; decide
  simp [ixOfP, ha]

set_option maxRecDepth 100000 in
/-- slices.IndexFunc of timers, the test a closure over one number. -/
theorem kindex_set {c : Nat → Nat} {k : Nat} {w : World} {ao : Option Addr} {n cap : Nat} {l : List Tm} {b : Nat} {x : Int} (h : In c k w 2 ao n cap (l.flatMap Tm.cells)) (hln : l.length = n) (hb : w.cell? ⟨b, 0, none⟩ = some (.int .i64 x)) :
    Calls Tryz.prog 111 #[.slice ao n cap, .func (.func 112) #[] #[.pointer (some ⟨b, 0, none⟩)]] w fun e w' => e = .returned (.int .i64 (ixOfP l (fun t => decide (x < t.at_)))) ∧ ∃ c', Stp (fun _ => False) c c' w w' := by
  have hm : n ≤ 9223372036854775807 := by have h1 := h.2.1; have h2 := h.2.2.1; simp only [maxLen] at h2; omega
  have H := Lib.hid h
  have Hn := Lib.hid hln
  have Hb := Lib.hid hb
  have hbl := World.block_lt_of_cell? w _ hb
  have Hbl := Lib.hid hbl
  clear h hln hb hbl
  go_enter Tryz.func111, Tryz.ntmps111
  go_wp2
  go_loopw [8] (fun i wr => ∃ (c' : Nat → Nat) (j : Nat), i = .int .i64 j ∧ j ≤ n ∧ (∀ t ∈ l.take j, (fun t => decide (x < t.at_)) t = false) ∧ Stp (fun _ => False) c c' w wr) (fun i _ => n - (intOf i).toNat)
  case atStart => exact ⟨c, 0, rfl, Nat.zero_le _, by simp, Stp.refl _ _ _⟩
  case round =>
    obtain ⟨c1, j, rfl, hj, hno, st⟩ := hrel
    have St := Lib.hid st
    have Hno := Lib.hid hno
    clear st hno
    by_cases hlt : j < n
    · obtain ⟨y, hy⟩ : ∃ y, l[j]? = some y := ⟨_, List.getElem?_eq_getElem (by rw [Hn.out]; exact hlt)⟩
      have hIn := H.out.stp St.out id
      obtain ⟨a, ha, y0⟩ := hIn.field Tm.len hy (f := 0) (v := .int .i64 y.at_) rfl
      obtain ⟨a1, ha1, y1⟩ := hIn.field Tm.len hy (f := 1) (v := .int .i64 y.who) rfl
      subst ha
      cases ha1
      have y1' : wr.cell? ⟨(a.add (j * 2)).block, (a.add (j * 2)).off + 1, none⟩ = some (.int .i64 y.who) := by rw [← add_add'] at y1; exact y1
      rw [Nat.add_zero] at y0
      have Hy := Lib.hid hy
      have Hbc := Lib.hid ((World.cell?_of_block (St.out.block b Hbl.out id)).trans Hb.out)
      clear hIn y1 hy
      by_cases hq : (fun t => decide (x < t.at_)) y = true
      · have Hq := Lib.hid hq
        clear hq
        go_wp2_with fail
        refine (ksetf_any (c := c1) Hbc.out y true Hq.out).mono ?_
        rintro e w2 ⟨rfl, c2, s2⟩
        have S2 := Lib.hid (St.out.trans s2)
        clear s2 y0 y1'
        go_wp2
        go_ret
        refine ⟨?_, c2, S2.out⟩
        rw [ixOfP_hit Hy.out Hq.out Hno.out]
        rfl
      · have Hq := Lib.hid (show (fun t => decide (x < t.at_)) y = false by simpa using hq)
        clear hq
        go_wp2_with fail
        refine (ksetf_any (c := c1) Hbc.out y false Hq.out).mono ?_
        rintro e w2 ⟨rfl, c2, s2⟩
        have S2 := Lib.hid (St.out.trans s2)
        clear s2 y0 y1'
        go_wp2
        go_roundw
        case rel => exact ⟨c2, j + 1, by go_num, by omega, fun t ht => by
          rw [List.take_add_one, Hy.out] at ht
          rcases List.mem_append.1 ht with ht | ht
          · exact Hno.out t ht
          · simp at ht; subst ht; exact Hq.out, S2.out⟩
        case measure => simp [intOf]; omega
    · have hjn : n ≤ j := by omega
      have Hx := Lib.hid (ixOfP_none (l := l) (q := (fun t => decide (x < t.at_))) (fun t ht => Hno.out t (by rw [List.take_of_length_le (by rw [Hn.out]; exact hjn)]; exact ht)))
      clear hjn
      go_wp2
      go_ret
      refine ⟨?_, c1, St.out⟩
      rw [Hx.out]
      rfl

set_option maxRecDepth 100000 in
/-- slices.IndexFunc of timers, the test a closure over one number. -/
theorem kindex_drop {c : Nat → Nat} {k : Nat} {w : World} {ao : Option Addr} {n cap : Nat} {l : List Tm} {b : Nat} {x : Int} (h : In c k w 2 ao n cap (l.flatMap Tm.cells)) (hln : l.length = n) (hb : w.cell? ⟨b, 0, none⟩ = some (.int .i64 x)) :
    Calls Tryz.prog 111 #[.slice ao n cap, .func (.func 110) #[] #[.pointer (some ⟨b, 0, none⟩)]] w fun e w' => e = .returned (.int .i64 (ixOfP l (fun t => t.who == x))) ∧ ∃ c', Stp (fun _ => False) c c' w w' := by
  have hm : n ≤ 9223372036854775807 := by have h1 := h.2.1; have h2 := h.2.2.1; simp only [maxLen] at h2; omega
  have H := Lib.hid h
  have Hn := Lib.hid hln
  have Hb := Lib.hid hb
  have hbl := World.block_lt_of_cell? w _ hb
  have Hbl := Lib.hid hbl
  clear h hln hb hbl
  go_enter Tryz.func111, Tryz.ntmps111
  go_wp2
  go_loopw [8] (fun i wr => ∃ (c' : Nat → Nat) (j : Nat), i = .int .i64 j ∧ j ≤ n ∧ (∀ t ∈ l.take j, (fun t => t.who == x) t = false) ∧ Stp (fun _ => False) c c' w wr) (fun i _ => n - (intOf i).toNat)
  case atStart => exact ⟨c, 0, rfl, Nat.zero_le _, by simp, Stp.refl _ _ _⟩
  case round =>
    obtain ⟨c1, j, rfl, hj, hno, st⟩ := hrel
    have St := Lib.hid st
    have Hno := Lib.hid hno
    clear st hno
    by_cases hlt : j < n
    · obtain ⟨y, hy⟩ : ∃ y, l[j]? = some y := ⟨_, List.getElem?_eq_getElem (by rw [Hn.out]; exact hlt)⟩
      have hIn := H.out.stp St.out id
      obtain ⟨a, ha, y0⟩ := hIn.field Tm.len hy (f := 0) (v := .int .i64 y.at_) rfl
      obtain ⟨a1, ha1, y1⟩ := hIn.field Tm.len hy (f := 1) (v := .int .i64 y.who) rfl
      subst ha
      cases ha1
      have y1' : wr.cell? ⟨(a.add (j * 2)).block, (a.add (j * 2)).off + 1, none⟩ = some (.int .i64 y.who) := by rw [← add_add'] at y1; exact y1
      rw [Nat.add_zero] at y0
      have Hy := Lib.hid hy
      have Hbc := Lib.hid ((World.cell?_of_block (St.out.block b Hbl.out id)).trans Hb.out)
      clear hIn y1 hy
      by_cases hq : (fun t => t.who == x) y = true
      · have Hq := Lib.hid hq
        clear hq
        go_wp2_with fail
        refine (kdropf_any (c := c1) Hbc.out y true Hq.out).mono ?_
        rintro e w2 ⟨rfl, c2, s2⟩
        have S2 := Lib.hid (St.out.trans s2)
        clear s2 y0 y1'
        go_wp2
        go_ret
        refine ⟨?_, c2, S2.out⟩
        rw [ixOfP_hit Hy.out Hq.out Hno.out]
        rfl
      · have Hq := Lib.hid (show (fun t => t.who == x) y = false by simpa using hq)
        clear hq
        go_wp2_with fail
        refine (kdropf_any (c := c1) Hbc.out y false Hq.out).mono ?_
        rintro e w2 ⟨rfl, c2, s2⟩
        have S2 := Lib.hid (St.out.trans s2)
        clear s2 y0 y1'
        go_wp2
        go_roundw
        case rel => exact ⟨c2, j + 1, by go_num, by omega, fun t ht => by
          rw [List.take_add_one, Hy.out] at ht
          rcases List.mem_append.1 ht with ht | ht
          · exact Hno.out t ht
          · simp at ht; subst ht; exact Hq.out, S2.out⟩
        case measure => simp [intOf]; omega
    · have hjn : n ≤ j := by omega
      have Hx := Lib.hid (ixOfP_none (l := l) (q := (fun t => t.who == x)) (fun t ht => Hno.out t (by rw [List.take_of_length_le (by rw [Hn.out]; exact hjn)]; exact ht)))
      clear hjn
      go_wp2
      go_ret
      refine ⟨?_, c1, St.out⟩
      rw [Hx.out]
      rfl

/-- slices.Insert of one timer, at the end. -/
theorem kinsert_end {c : Nat → Nat} {k : Nat} {w : World} {ao : Option Addr} {n cap : Nat} {l : List Tm} {vb : Nat} {y : Tm} (h : Row c k w 196 2 ao n cap (l.flatMap Tm.cells)) (hv : Blk c 0 w vb y.cells 196) (hn : (n : Int) ≤ 1000) :
    Calls Tryz.prog 113 #[.slice ao n cap, .int .i64 n, .slice (some ⟨vb, 0, none⟩) 1 1] w fun e w' => ∃ ao' cap', e = .returned (.slice ao' (n + 1) cap') ∧ ∃ c', Stp (· = k) c c' w w' ∧ Row c' k w' 196 2 ao' (n + 1) cap' ((l ++ [y]).flatMap Tm.cells) := by
  have hcap := h.2.1
  have hmax : cap ≤ 9223372036854775807 := by have := h.2.2.1; simp only [maxLen] at this; omega
  have H := Lib.hid h
  have V := Lib.hid (show Src w 2 (.slice (some ⟨vb, 0, none⟩) 1 1) 1 y.cells from (Row.blk (n := 1) hv rfl (by decide)).src)
  have d2 : Hid (n + 1 ≤ maxLen) := Lib.hid (by unfold maxLen; omega)
  have d3 : Hid ((n + 1) * 16 ≤ 140737488355328) := Lib.hid (by omega)
  have hci : (n : Int) ≤ cap := by omega
  have hn0 : ao = none → n = 0 ∧ cap = 0 := fun e => by subst e; have := h.2.2.2; simp only at this; omega
  clear h hv hn
  rcases (show (∃ a, ao = some a ∧ ¬ cap = n) ∨ (∃ a, ao = some a ∧ cap = n) ∨ (ao = none ∧ n = 0 ∧ cap = 0) by
    cases ao with
    | none => exact .inr (.inr ⟨rfl, hn0 rfl⟩)
    | some a =>
      by_cases hz : cap = n
      · exact .inr (.inl ⟨a, rfl, hz⟩)
      · exact .inl ⟨a, rfl, hz⟩) with ⟨a, rfl, hz⟩ | ⟨a, rfl, rfl⟩ | ⟨rfl, rfl, rfl⟩
  all_goals
    clear hn0
    go_enter Tryz.func113, Tryz.ntmps113
    go_wp2_with (at_builtin; refine wpList_append_row _ rfl (.tmp 23) (.tmp 24) 131 rfl c k 196 (.agg #[.int .i64 0, .int .i64 0]) 2 16 Tryz.underlying131 Tryz.infoTimer rfl _ _ _ (l.flatMap Tm.cells) rfl H.out _ 1 y.cells rfl V.out (by simp [Tm.cells, Value.oneCell']) d2.out d3.out ?_)
    intro ao2 cap2 w2 hr2 st2 _
    have R2 := Lib.hid hr2
    have S2 := Lib.hid st2
    clear hr2 st2
    go_wp2
    go_ret
    exact ⟨ao2, cap2, rfl, _, S2.out, by simpa [Tm.cells] using R2.out⟩
end Go.Proofs.YtiphdedfbafhkaaGreatDoor
