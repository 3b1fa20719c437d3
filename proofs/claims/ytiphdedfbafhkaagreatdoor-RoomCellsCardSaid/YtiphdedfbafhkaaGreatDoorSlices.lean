/- Contracts of slices.Index, Contains, Clone of numbers: of every slice that reads as a list. No condition beyond each contract's own. -/
import Derived.Test.YtiphdedfbafhkaaGreatDoorMem3
import Derived.Test.YtiphdedfbafhkaaGreatDoorRows
import Derived.Deep.QuietTactic
import Derived.BigQuiet
import Derived.Lib.SliceRun
namespace Go.Proofs.YtiphdedfbafhkaaGreatDoor
open Go.RowKit

/-- The first place of a number; -1: none. -/
def ixOf (l : List Int) (v : Int) : Int := if v ∈ l then (l.idxOf v : Nat) else -1

theorem ixOf_hit {l : List Int} {v : Int} {j : Nat} (hj : j < l.length) (he : l.getD j 0 = v) (hn : v ∉ l.take j) : ixOf l v = j := by
  have hv : l[j] = v := by simpa [List.getD, hj] using he
  have hm : v ∈ l := hv ▸ List.getElem_mem hj
  rw [ixOf, if_pos hm]
  have h1 : l = l.take j ++ l.drop j := (List.take_append_drop j l).symm
  have h2 : l.idxOf v = (l.take j).length + (l.drop j).idxOf v := by
    conv => lhs; rw [h1]
    rw [List.idxOf_append, if_neg hn]
    omega
  have h3 : (l.drop j).idxOf v = 0 := by
    rw [List.drop_eq_getElem_cons hj, hv]
    simp
  rw [h2, h3, List.length_take]
  omega

theorem not_mem_succ {l : List Int} {v : Int} {j : Nat} (hj : j < l.length) (he : l.getD j 0 ≠ v) (hn : v ∉ l.take j) : v ∉ l.take (j + 1) := by
  rw [List.take_succ_eq_append_getElem hj]
  intro h
  rcases List.mem_append.1 h with h | h
  · exact hn h
  · simp at h
    exact he (by simp [List.getD, hj, h])

theorem index_in {c : Nat → Nat} {k : Nat} {w : World} {ao : Option Addr} {n cap : Nat} {l : List Int} (h : In c k w 1 ao n cap (l.map (Value.int .i64))) (v : Int) :
    Calls Tryz.prog 116 #[.slice ao n cap, .int .i64 v] w fun e w' => e = .returned (.int .i64 (ixOf l v)) ∧ w = w' := by
  have hl : l.length = n := by simpa using h.1
  have hm : n ≤ 9223372036854775807 := by have h1 := h.2.1; have h2 := h.2.2.1; simp only [maxLen] at h2; omega
  have H := Lib.hid h
  have Hl := Lib.hid hl
  clear h hl
  go_enter Tryz.func116, Tryz.ntmps116
  go_wp2
  go_loop [8] (fun i => ∃ j : Nat, i = .int .i64 j ∧ j ≤ n ∧ v ∉ l.take j) (fun i => n - (intOf i).toNat)
  case atStart => exact ⟨0, rfl, Nat.zero_le _, by simp⟩
  case round =>
    obtain ⟨j, rfl, hj, hn⟩ := hrel
    have Hn := Lib.hid hn
    clear hn
    by_cases hlt : j < n
    · obtain ⟨a, ha, hc⟩ := H.out.ints hlt
      subst ha
      have hjl : j < l.length := by rw [Hl.out]; exact hlt
      by_cases he : l.getD j 0 = v
      · have Hx := Lib.hid (ixOf_hit hjl he Hn.out)
        have t : (v == l.getD j 0) = true := by simpa using he.symm
        generalize l.getD j 0 = x at *
        clear he hj hjl
        go_wp2
        go_ret
        exact ⟨by rw [Hx.out]; rfl, rfl⟩
      · have Hx := Lib.hid (not_mem_succ hjl he Hn.out)
        have t : (v == l.getD j 0) = false := by simpa using fun e => he (Eq.symm e)
        generalize l.getD j 0 = x at *
        clear he hj hjl
        go_wp2
        go_round
        case rel => exact ⟨j + 1, by go_num, by omega, Hx.out⟩
        case measure => simp [intOf]; omega
    · have hjn : j = n := by omega
      have Hx : Hid (ixOf l v = -1) := Lib.hid (by
        have := Hn.out
        rw [hjn, ← Hl.out, List.take_length] at this
        simp [ixOf, this])
      clear hj hjn
      go_wp2
      go_ret
      exact ⟨by rw [Hx.out]; rfl, rfl⟩

theorem ixOf_nonneg {l : List Int} {v : Int} (h : v ∈ l) : decide (0 ≤ ixOf l v) = true := by simp [ixOf, h]
theorem ixOf_neg {l : List Int} {v : Int} (h : v ∉ l) : decide (0 ≤ ixOf l v) = false := by simp [ixOf, h]

theorem contains_yes {c : Nat → Nat} {k : Nat} {w : World} {ao : Option Addr} {n cap : Nat} {l : List Int} (h : In c k w 1 ao n cap (l.map (Value.int .i64))) (v : Int) (hv : v ∈ l) :
    Calls Tryz.prog 68 #[.slice ao n cap, .int .i64 v] w fun e w' => e = .returned (.bool true) ∧ w = w' := by
  have t := ixOf_nonneg hv
  have H := Lib.hid h
  clear h hv
  go_enter Tryz.func68, Tryz.ntmps68
  go_wp2_with (go_at_call 116; refine (index_in H.out _).mono ?_; rintro e w' ⟨rfl, rfl⟩)
  go_ret
  exact ⟨by simp, rfl⟩

theorem contains_no {c : Nat → Nat} {k : Nat} {w : World} {ao : Option Addr} {n cap : Nat} {l : List Int} (h : In c k w 1 ao n cap (l.map (Value.int .i64))) (v : Int) (hv : v ∉ l) :
    Calls Tryz.prog 68 #[.slice ao n cap, .int .i64 v] w fun e w' => e = .returned (.bool false) ∧ w = w' := by
  have t := ixOf_neg hv
  have H := Lib.hid h
  clear h hv
  go_enter Tryz.func68, Tryz.ntmps68
  go_wp2_with (go_at_call 116; refine (index_in H.out _).mono ?_; rintro e w' ⟨rfl, rfl⟩)
  go_ret
  exact ⟨by simp, rfl⟩

theorem Tryz.infoInt : (Tryz.prog.info? 3).map (fun i => (i.zero, i.size, i.bytes)) = some (some (.int .i64 0), 1, 8) := by kernel_rfl

theorem ints_one (l : List Int) : ∀ u ∈ l.map (Value.int .i64), u.oneCell' = true := by
  intro u hu
  obtain ⟨x, _, rfl⟩ := List.mem_map.1 hu
  rfl

/-- slices.Clone of numbers: a new array of colour k2. -/
theorem clone_in {c : Nat → Nat} {k : Nat} {w : World} {ao : Option Addr} {n cap : Nat} {l : List Int} (h : In c k w 1 ao n cap (l.map (Value.int .i64))) (k2 : Nat) (hb : (n : Int) ≤ 1048576) :
    Calls Tryz.prog 71 #[.slice ao n cap] w fun e w' => ∃ ao' cap', e = .returned (.slice ao' n cap') ∧ ∃ c', Stp (fun _ => False) c c' w w' ∧ Row c' k2 w' 3 1 ao' n cap' (l.map (Value.int .i64)) := by
  have H := Lib.hid h
  have Hb := Lib.hid hb
  clear hb
  cases ao with
  | none =>
    have hn : n = 0 := by
      rcases Nat.eq_zero_or_pos n with h0 | h0
      · exact h0
      · obtain ⟨a, ha, _⟩ := h.2.2.2.2 h0
        cases ha
    subst hn
    obtain rfl := h.2.2.2.1 rfl
    obtain rfl : l = [] := by
      have := h.1
      simp at this
      exact this
    clear h H
    have hr := fun wx => Lib.run_eql_slice_nil (P := Tryz.prog) wx 29 3 none 0 0 0 0 Tryz.underlying29
    go_enter Tryz.func71, Tryz.ntmps71
    go_wp2
    go_ret
    exact ⟨none, 0, rfl, c, Stp.refl _ _ _, Row.nil _ _ _ _ _⟩
  | some a =>
    clear h
    have hr := fun wx => Lib.run_eql_slice_nil (P := Tryz.prog) wx 29 3 (some a) n cap 0 0 Tryz.underlying29
    go_enter Tryz.func71, Tryz.ntmps71
    go_wp2_with (at_builtin; refine wpList_append_row _ rfl (.tmp 5) (.tmp 6) 29 rfl (paint c w.heap.size k2) k2 3 (.int .i64 0) 1 8 Tryz.underlying29 Tryz.infoInt rfl (some ⟨w.heap.size, 0, none⟩) 0 0 [] rfl (Row.new c k2 w 3 1 0 0 [] rfl (Nat.le_refl _) (Nat.zero_le _)) (.slice (some a) n cap) n (l.map (Value.int .i64)) rfl ?c0 ?c1 ?c2 ?c3 ?_)
    case c0 => exact (H.out.stp ((Stp.refl (fun _ => False) c w).alloc _ k2) id).src
    case c1 => exact ints_one l
    case c2 => have := Hb.out; unfold maxLen; omega
    case c3 => have := Hb.out; omega
    intro ao' cap' w1 hr1 st1 ot1
    have Hr1 := Lib.hid hr1
    have St1 := Lib.hid (Stp.fresh st1 ot1)
    clear hr1 st1 ot1 hr
    go_wp2
    go_ret
    exact ⟨ao', cap', by simp, _, St1.out, by simpa using Hr1.out⟩

end Go.Proofs.YtiphdedfbafhkaaGreatDoor
