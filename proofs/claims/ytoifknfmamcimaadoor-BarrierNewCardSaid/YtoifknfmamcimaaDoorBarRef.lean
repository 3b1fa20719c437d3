/- Contracts of the document's Look and Steps. No condition beyond each contract's own. -/
import Derived.Test.YtoifknfmamcimaaDoorGate3
import Derived.Test.YtoifknfmamcimaaDoorAvailRef
namespace Go.Proofs.YtoifknfmamcimaaDoor
open Go.RowKit

/-- The last index, from lo on, up to hi, up to which all are in the list. -/
def HiS (l : List Int) (lo hi x : Int) : Prop :=
  lo - 1 ≤ x ∧ (x ≤ hi ∨ x = lo - 1) ∧ (∀ s : Int, lo ≤ s → s ≤ x → s ∈ l) ∧ (x < hi → x + 1 ∉ l)

theorem HiS.hiAt {l la : List Int} {lo hi x : Int} {first sh : Nat} (h : HiS l lo hi x) (hs : ∀ s : Int, lo ≤ s → s ≤ hi → (s ∈ l ↔ shownAt la first sh s = true)) : HiAt la first sh lo hi x := by
  refine ⟨h.1, h.2.1, fun s a b => ?_, fun hx => ?_⟩
  · exact (hs s a (by have := h.2.1; omega)).1 (h.2.2.1 s a b)
  · have := h.2.2.2 hx
    rw [hs (x + 1) (by have := h.1; omega) (by omega)] at this
    simpa using this

theorem r12look_cursor (next cursor : Int) (buffer : Bool) (ao : Option Addr) (cap : Nat) (so : Option Addr) (m scap : Nat) (hn : 0 ≤ next ∧ next ≤ 1000) (hc : cursor < next ∨ buffer = false) (w : World) :
    Calls Tryd.prog 27 #[.int .i64 next, .int .i64 cursor, .slice ao 0 cap, .bool buffer, .slice so m scap] w fun e w' => e = .returned (.int .i64 (max cursor (next - 1))) ∧ w = w' := by
  have W1 : wrap64 (next - 1) = next - 1 := IntWalk.wrap64_in _ (by constructor <;> omega)
  by_cases h : cursor < next
  · have t : decide (cursor < next) = true := by simpa using h
    have M : max cursor (next - 1) = next - 1 := Int.max_eq_right (by omega)
    rw [M]
    clear M
    go_enter Tryd.func27, Tryd.ntmps27
    go_wp2
    go_ret
    exact ⟨rfl, rfl⟩
  · have t : decide (cursor < next) = false := by simpa using h
    obtain rfl : buffer = false := by rcases hc with hc | hc; exact absurd hc h; exact hc
    have M : max cursor (next - 1) = cursor := Int.max_eq_left (by omega)
    rw [M]
    clear M
    go_enter Tryd.func27, Tryd.ntmps27
    go_wp2
    go_ret
    exact ⟨rfl, rfl⟩

theorem foldmin_le : ∀ (l : List Int) (a : Int), l.foldl min a ≤ a
  | [], _ => Int.le_refl _
  | x :: l, a => Int.le_trans (foldmin_le l (min a x)) (Int.min_le_left _ _)
theorem foldmin_eq : ∀ (l : List Int) (a b : Int), (l.foldl min a) = min a (l.foldl min b) ∨ b < l.foldl min a
  | [], a, b => by simp only [List.foldl_nil]; omega
  | x :: l, a, b => by
    have := foldmin_eq l (min a x) (min b x)
    simp only [List.foldl_cons]
    have h1 := foldmin_le l (min b x)
    have h2 := foldmin_le l (min a x)
    omega

theorem r12look_after {c : Nat → Nat} {k : Nat} {w : World} {ao : Option Addr} {n cap : Nat} {l : List Int} (h : In c k w 1 ao n cap (l.map (Value.int .i64))) (next cursor : Int) (buffer : Bool) (so : Option Addr) (m scap : Nat) (hn : 0 ≤ next ∧ next ≤ 1000) (h0 : 0 < n) :
    Calls Tryd.prog 27 #[.int .i64 next, .int .i64 cursor, .slice ao n cap, .bool buffer, .slice so m scap] w fun e w' => e = .returned (.int .i64 (max (l.foldl min (l.getD 0 0)) (next - 1))) ∧ w = w' := by
  have W1 : wrap64 (next - 1) = next - 1 := IntWalk.wrap64_in _ (by constructor <;> omega)
  have hl : l.length = n := by simpa using h.1
  have hm : n ≤ 9223372036854775807 := by have h1 := h.2.1; have h2 := h.2.2.1; simp only [maxLen] at h2; omega
  have H := Lib.hid h
  have Hl := Lib.hid hl
  obtain ⟨a, rfl, hc0⟩ := h.ints h0
  rw [show a.add 0 = a by unfold Addr.add; split <;> (cases a; simp_all)] at hc0
  obtain ⟨z0, hz0⟩ : ∃ z0, z0 = l.getD 0 0 := ⟨_, rfl⟩
  rw [← hz0] at hc0 ⊢
  clear hz0
  have hnz : decide (0 < n) = true := by simpa using h0
  clear h hl
  go_enter Tryd.func27, Tryd.ntmps27
  go_wp2
  go_loop [11, 12] (fun m i => ∃ (j : Nat) (x : Int), i = .int .i64 j ∧ j ≤ n ∧ m = .int .i64 x ∧ Hid (x = (l.take j).foldl min z0)) (fun _ i => n - (intOf i).toNat)
  case atStart => exact ⟨0, _, rfl, Nat.zero_le _, rfl, Lib.hid rfl⟩
  case round =>
    obtain ⟨j, x, rfl, hj, rfl, hx⟩ := hrel
    by_cases hlt : j < n
    · obtain ⟨a', ha', hc⟩ := H.out.ints hlt
      cases ha'
      have Hf := Lib.hid (fold_take (l := l) (f := id) (m := z0) (j := j) (by rw [Hl.out]; exact hlt))
      generalize l.getD j 0 = y at *
      by_cases hy : y < x
      · have t : decide (y < x) = true := by simpa using hy
        go_wp2
        go_round
        case rel => exact ⟨j + 1, y, by go_num, by omega, rfl, Lib.hid (by have := Hf.out; simp only [List.map_id, id] at this; rw [this, ← hx.out]; omega)⟩
        case measure => simp [intOf]; omega
      · have t : decide (y < x) = false := by simpa using hy
        go_wp2
        go_round
        case rel => exact ⟨j + 1, x, by go_num, by omega, rfl, Lib.hid (by have := Hf.out; simp only [List.map_id, id] at this; rw [this, ← hx.out]; omega)⟩
        case measure => simp [intOf]; omega
    · have hjn : j = n := by omega
      have Hj := Lib.hid hjn
      have hX : x = l.foldl min z0 := by rw [hx.out, hjn, ← Hl.out, List.take_length]
      have HX := Lib.hid hX
      clear hjn hX
      by_cases hlt2 : x < next
      · have t : decide (x < next) = true := by simpa using hlt2
        go_wp2
        go_ret
        exact ⟨by rw [← HX.out, Int.max_eq_right (by omega)]; rfl, rfl⟩
      · have t : decide (x < next) = false := by simpa using hlt2
        go_wp2
        go_ret
        exact ⟨by rw [← HX.out, Int.max_eq_left (by omega)]; rfl, rfl⟩

theorem r12look_shown {c : Nat → Nat} {k : Nat} {w : World} {so : Option Addr} {m scap : Nat} {l : List Int} (h : In c k w 1 so m scap (l.map (Value.int .i64))) (next cursor : Int) (ao : Option Addr) (cap : Nat) (hn : 0 ≤ next ∧ next ≤ 1000) (hc : next ≤ cursor) (hc2 : cursor ≤ 1000) :
    Calls Tryd.prog 27 #[.int .i64 next, .int .i64 cursor, .slice ao 0 cap, .bool true, .slice so m scap] w fun e w' => ∃ x, e = .returned (.int .i64 x) ∧ HiS l next cursor x ∧ w = w' := by
  have W1 : wrap64 (next - 1) = next - 1 := IntWalk.wrap64_in _ (by constructor <;> omega)
  have t : decide (cursor < next) = false := by simp; omega
  have hl : l.length = m := by simpa using h.1
  have hm : m ≤ 9223372036854775807 := by have h1 := h.2.1; have h2 := h.2.2.1; simp only [maxLen] at h2; omega
  have H := Lib.hid h
  have Hl := Lib.hid hl
  clear h hl
  go_enter Tryd.func27, Tryd.ntmps27
  go_wp2
  go_loop [13] (fun i => ∃ (j : Nat), i = .int .i64 (next - 1 + j) ∧ next - 1 + j ≤ cursor ∧ Hid (∀ s : Int, next ≤ s → s ≤ next - 1 + j → s ∈ l)) (fun i => (cursor - intOf i).toNat)
  case atStart => exact ⟨0, by simp, by omega, Lib.hid (fun s a b => by omega)⟩
  case round =>
    obtain ⟨j, rfl, hj, hs⟩ := hrel
    obtain ⟨y, hy⟩ : ∃ y, y = next - 1 + (j : Int) := ⟨_, rfl⟩
    rw [← hy] at hj ⊢
    have Hy := Lib.hid hy
    have hyb : -1 ≤ y ∧ y ≤ 1000 := by omega
    clear hy
    by_cases hlt : y < cursor
    · have t2 : decide (y < cursor) = true := by simpa using hlt
      have W2 : wrap64 (y + 1) = y + 1 := IntWalk.wrap64_in _ (by constructor <;> omega)
      go_wp2
      go_loop [14, 15] (fun f i => ∃ (u : Nat), i = .int .i64 u ∧ u ≤ m ∧ f = .bool (decide (y + 1 ∈ l.take u))) (fun _ i => m - (intOf i).toNat)
      case atStart => exact ⟨0, rfl, Nat.zero_le _, by simp⟩
      case round =>
        obtain ⟨u, rfl, hu, rfl⟩ := hrel
        by_cases hul : u < m
        · obtain ⟨a, ha, hca⟩ := H.out.ints hul
          subst ha
          have Hf := Lib.hid (show l.take (u + 1) = l.take u ++ [l.getD u 0] by rw [List.take_succ_eq_append_getElem (by rw [Hl.out]; exact hul)]; simp [List.getD, Hl.out, hul])
          generalize l.getD u 0 = z at *
          by_cases hin : y + 1 ∈ l.take u
          · have Hin := Lib.hid hin
            rw [decide_eq_true hin]
            clear hin
            go_wp2
            go_round
            case rel => exact ⟨u + 1, by go_num, by omega, by rw [Hf.out, decide_eq_true (List.mem_append_left _ Hin.out)]⟩
            case measure => simp [intOf]; omega
          · have Hin := Lib.hid hin
            rw [decide_eq_false hin]
            clear hin
            obtain ⟨bz, hbz⟩ : ∃ bz, (z == y + 1) = bz := ⟨_, rfl⟩
            have Hbz := Lib.hid hbz
            go_wp2
            go_round
            case rel => exact ⟨u + 1, by go_num, by omega, by
              rw [Hf.out]
              have := Hin.out
              have h3 := Hbz.out
              cases bz with
              | false => simp at h3; simp [this]; omega
              | true => simp at h3; simp [h3]⟩
            case measure => simp [intOf]; omega
        · have hum : u = m := by omega
          have Hu := Lib.hid (show l.take u = l by rw [hum, ← Hl.out, List.take_length])
          clear hum
          by_cases hin : y + 1 ∈ l
          · have Hin := Lib.hid hin
            rw [decide_eq_true (show y + 1 ∈ l.take u by rw [Hu.out]; exact hin)]
            clear hin
            go_wp2
            go_round
            case rel => exact ⟨j + 1, by have := Hy.out; go_num, by have := Hy.out; omega, Lib.hid (fun s a b => by
              by_cases e : s = y + 1
              · rw [e]; exact Hin.out
              · exact hs.out s a (by have := Hy.out; omega))⟩
            case measure => simp [intOf]; omega
          · have Hin := Lib.hid hin
            rw [decide_eq_false (show y + 1 ∉ l.take u by rw [Hu.out]; exact hin)]
            clear hin
            go_wp2
            go_ret
            exact ⟨y, rfl, ⟨by have := Hy.out; omega, .inl (by omega), fun s a b => hs.out s a (by have := Hy.out; omega), fun _ => Hin.out⟩, rfl⟩
    · have t2 : decide (y < cursor) = false := by simpa using hlt
      go_wp2
      go_ret
      exact ⟨y, rfl, ⟨by have := Hy.out; omega, .inl (by omega), fun s a b => hs.out s a (by have := Hy.out; omega), fun h => absurd h (by omega)⟩, rfl⟩

/-- How many loads the document says. -/
def refSteps (next cursor : Int) (n : Nat) (buffer : Bool) (x : Int) : Int :=
  if 0 < n then 1 + n else if cursor < next ∨ buffer = false then 2 else 2 + (x - next + 1 + if x < cursor then 1 else 0)

theorem r12steps_any (next cursor : Int) (n : Nat) (buffer : Bool) (x : Int) (hn : 0 ≤ next ∧ next ≤ 1000) (hx : -1 ≤ x ∧ x ≤ 1000) (hl : n ≤ 8) (w : World) :
    Calls Tryd.prog 28 #[.int .i64 next, .int .i64 cursor, .int .i64 n, .bool buffer, .int .i64 x] w fun e w' => e = .returned (.int .i64 (refSteps next cursor n buffer x)) ∧ w = w' := by
  by_cases h0 : 0 < n
  · have t0 : decide (0 < n) = true := by simpa using h0
    have R := Lib.hid (show refSteps next cursor n buffer x = 1 + n from if_pos h0)
    have W1 : wrap64 (1 + (n : Int)) = 1 + n := IntWalk.wrap64_in _ (by constructor <;> omega)
    go_enter Tryd.func28, Tryd.ntmps28
    go_wp2
    go_ret
    exact ⟨by rw [R.out]; rfl, rfl⟩
  · obtain rfl : n = 0 := by omega
    by_cases hc : cursor < next
    · have t : decide (cursor < next) = true := by simpa using hc
      have R := Lib.hid (show refSteps next cursor 0 buffer x = 2 by rw [refSteps, if_neg h0, if_pos (.inl hc)])
      go_enter Tryd.func28, Tryd.ntmps28
      go_wp2
      go_ret
      exact ⟨by rw [R.out]; rfl, rfl⟩
    · have t : decide (cursor < next) = false := by simpa using hc
      cases buffer with
      | false =>
        have R := Lib.hid (show refSteps next cursor 0 false x = 2 by rw [refSteps, if_neg h0, if_pos (.inr rfl)])
        go_enter Tryd.func28, Tryd.ntmps28
        go_wp2
        go_ret
        exact ⟨by rw [R.out]; rfl, rfl⟩
      | true =>
        have W1 : wrap64 (x - next) = x - next := IntWalk.wrap64_in _ (by constructor <;> omega)
        have W2 : wrap64 (x - next + 1) = x - next + 1 := IntWalk.wrap64_in _ (by constructor <;> omega)
        by_cases hxc : x < cursor
        · have t2 : decide (x < cursor) = true := by simpa using hxc
          have R := Lib.hid (show refSteps next cursor 0 true x = 2 + (x - next + 1 + 1) by rw [refSteps, if_neg h0, if_neg (by simp; omega), if_pos hxc])
          have W3 : wrap64 (x - next + 1 + 1) = x - next + 1 + 1 := IntWalk.wrap64_in _ (by constructor <;> omega)
          have W4 : wrap64 (2 + (x - next + 1 + 1)) = 2 + (x - next + 1 + 1) := IntWalk.wrap64_in _ (by constructor <;> omega)
          go_enter Tryd.func28, Tryd.ntmps28
          go_wp2
          go_ret
          exact ⟨by rw [R.out]; rfl, rfl⟩
        · have t2 : decide (x < cursor) = false := by simpa using hxc
          have R := Lib.hid (show refSteps next cursor 0 true x = 2 + (x - next + 1 + 0) by rw [refSteps, if_neg h0, if_neg (by simp; omega), if_neg hxc])
          have W4 : wrap64 (2 + (x - next + 1)) = 2 + (x - next + 1) := IntWalk.wrap64_in _ (by constructor <;> omega)
          go_enter Tryd.func28, Tryd.ntmps28
          go_wp2
          go_ret
          exact ⟨by rw [R.out]; simp, rfl⟩
end Go.Proofs.YtoifknfmamcimaaDoor
