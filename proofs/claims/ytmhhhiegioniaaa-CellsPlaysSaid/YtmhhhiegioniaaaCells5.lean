/- Contracts of the document's answer for arenas: Right, Set, Sum. No condition beyond each contract's own. -/
import Derived.Test.YtmhhhiegioniaaaCells4
import Derived.Test.YtmhhhiegioniaaaMem5
namespace Go.Proofs.Ytmhhhiegioniaaa
open Go.RowKit

/-- The document's arena. -/
def RefAt (c : Nat → Nat) (k : Nat) (w : World) (p : Nat) (l : List Int) (s : Int) : Prop :=
  ∃ ao cap, Blk c k w p [.slice ao l.length cap, .int .i64 s] 64 ∧ Row c k w 2 1 ao l.length cap (l.map (Value.int .i64))

theorem RefAt.stp {J : Nat → Prop} {c c' : Nat → Nat} {k : Nat} {w w' : World} {p : Nat} {l : List Int} {s : Int} (h : RefAt c k w p l s) (st : Stp J c c' w w') (hk : ¬ J k) : RefAt c' k w' p l s := by
  obtain ⟨ao, cap, hb, hr⟩ := h
  exact ⟨ao, cap, hb.stp st hk, hr.stp st hk⟩

theorem r03right_in (ao : Option Addr) (n cap : Nat) (s : Int) (j : Nat) (hj : j < n) (w : World) :
    Calls Try.prog 107 #[.agg #[.slice ao n cap, .int .i64 s], .int .i64 j] w fun e w' => e = .returned (.bool true) ∧ Below w.heap.size w w' := by
  have h0 : decide (0 ≤ (j : Int)) = true := by simp
  have h1 : decide ((j : Int) < (n : Int)) = true := by simp; omega
  go_enter Try.func107, Try.ntmps107
  go_wp2
  go_ret
  exact ⟨rfl, (Below.refl _ _).alloc (Nat.le_refl _) _⟩

theorem r03right_out (ao : Option Addr) (n cap : Nat) (s : Int) (id : Int) (hid : id < 0 ∨ (n : Int) ≤ id) (w : World) :
    Calls Try.prog 107 #[.agg #[.slice ao n cap, .int .i64 s], .int .i64 id] w fun e w' => e = .returned (.bool false) ∧ Below w.heap.size w w' := by
  rcases (show decide (0 ≤ id) = false ∨ (decide (0 ≤ id) = true ∧ decide (id < (n : Int)) = false) by
    by_cases h : 0 ≤ id
    · exact .inr ⟨by simpa using h, by simp; omega⟩
    · exact .inl (by simpa using h)) with h0 | ⟨h0, h1⟩
  all_goals
    clear hid
    go_enter Try.func107, Try.ntmps107
    go_wp2
    go_ret
    exact ⟨rfl, (Below.refl _ _).alloc (Nat.le_refl _) _⟩

theorem r03sum_ok (a b : Int) (hb : -9223372036854775808 ≤ b ∧ b ≤ 9223372036854775807) (h : -9223372036854775808 ≤ a + b ∧ a + b ≤ 9223372036854775807) (w : World) :
    Calls Try.prog 109 #[.int .i64 a, .int .i64 b] w fun e w' => e = .returned (.tuple #[.int .i64 (a + b), .bool true]) ∧ w = w' := by
  have W : wrap64 (a + b) = a + b := IntWalk.wrap64_in _ ⟨by omega, by omega⟩
  rcases Int.lt_trichotomy b 0 with h0 | h0 | h0
  · have t1 : decide (0 < b) = false := by simp; omega
    have t2 : decide (b < 0) = true := by simp; omega
    have W2 : wrap64 (-9223372036854775808 - b) = -9223372036854775808 - b := IntWalk.wrap64_in _ ⟨by omega, by omega⟩
    have t3 : decide (a < -9223372036854775808 - b) = false := by simp; omega
    clear hb h h0
    go_enter Try.func109, Try.ntmps109
    go_wp2
    go_ret2
    exact ⟨by simp [W], rfl⟩
  · have t1 : decide (0 < b) = false := by simp; omega
    have t2 : decide (b < 0) = false := by simp; omega
    clear hb h h0
    go_enter Try.func109, Try.ntmps109
    go_wp2
    go_ret2
    exact ⟨by simp [W], rfl⟩
  · have t1 : decide (0 < b) = true := by simp; omega
    have t2 : decide (b < 0) = false := by simp; omega
    have W2 : wrap64 (9223372036854775807 - b) = 9223372036854775807 - b := IntWalk.wrap64_in _ ⟨by omega, by omega⟩
    have t3 : decide (9223372036854775807 - b < a) = false := by simp; omega
    clear hb h h0
    go_enter Try.func109, Try.ntmps109
    go_wp2
    go_ret2
    exact ⟨by simp [W], rfl⟩

theorem r03sum_no (a b : Int) (ha : -9223372036854775808 ≤ a ∧ a ≤ 9223372036854775807) (hb : -9223372036854775808 ≤ b ∧ b ≤ 9223372036854775807) (h : a + b < -9223372036854775808 ∨ 9223372036854775807 < a + b) (w : World) :
    Calls Try.prog 109 #[.int .i64 a, .int .i64 b] w fun e w' => e = .returned (.tuple #[.int .i64 0, .bool false]) ∧ w = w' := by
  rcases Int.lt_or_le 0 b with h0 | h0
  · have t1 : decide (0 < b) = true := by simp; omega
    have t2 : decide (b < 0) = false := by simp; omega
    have W2 : wrap64 (9223372036854775807 - b) = 9223372036854775807 - b := IntWalk.wrap64_in _ ⟨by omega, by omega⟩
    have t3 : decide (9223372036854775807 - b < a) = true := by simp; omega
    clear hb h h0
    go_enter Try.func109, Try.ntmps109
    go_wp2
    go_ret2
    exact ⟨rfl, rfl⟩
  · have t1 : decide (0 < b) = false := by simp; omega
    have t2 : decide (b < 0) = true := by simp; omega
    have W2 : wrap64 (-9223372036854775808 - b) = -9223372036854775808 - b := IntWalk.wrap64_in _ ⟨by omega, by omega⟩
    have t3 : decide (a < -9223372036854775808 - b) = true := by simp; omega
    clear hb h h0
    go_enter Try.func109, Try.ntmps109
    go_wp2
    go_ret2
    exact ⟨rfl, rfl⟩

theorem r03set_ok {c : Nat → Nat} {k : Nat} {w : World} {ao : Option Addr} {cap : Nat} {l : List Int} (s : Int) (hr : In c k w 1 ao l.length cap (l.map (Value.int .i64))) (k2 : Nat) (j : Nat) (v : Int) (hj : j < l.length) (hl : (l.length : Int) ≤ 1000000) :
    Calls Try.prog 108 #[.agg #[.slice ao l.length cap, .int .i64 s], .int .i64 j, .int .i64 v] w fun e w' => ∃ ao' cap', e = .returned (.agg #[.slice ao' l.length cap', .int .i64 s]) ∧ ∃ c', Stp (fun _ => False) c c' w w' ∧ Row c' k2 w' 2 1 ao' l.length cap' ((l.set j v).map (Value.int .i64)) := by
  have Hj := Lib.hid hj
  have hcap : l.length ≤ cap := hr.2.1
  obtain ⟨c2, hc2, A2⟩ := (((Stp.refl (fun _ => False) c w).alloc (.cells #[.slice ao l.length cap, .int .i64 s] 64) 0).alloc (.cells #[.slice none 0 0, .int .i64 0] 64) 0).name
  have P2 := Lib.hid (show Blk c2 0 ((w.alloc (.cells #[.slice ao l.length cap, .int .i64 s] 64)).alloc (.cells #[.slice none 0 0, .int .i64 0] 64)) w.heap.size [.slice ao l.length cap, .int .i64 s] 64 by rw [hc2.out]; exact (Blk.new c 0 w _ _).alloc _ 0)
  have Q2 := Lib.hid (show Blk c2 0 ((w.alloc (.cells #[.slice ao l.length cap, .int .i64 s] 64)).alloc (.cells #[.slice none 0 0, .int .i64 0] 64)) (w.heap.size + 1) [.slice none 0 0, .int .i64 0] 64 by rw [hc2.out]; simpa using (Blk.new (paint c w.heap.size 0) 0 (w.alloc (.cells #[.slice ao l.length cap, .int .i64 s] 64)) [.slice none 0 0, .int .i64 0] 64))
  have Hr := Lib.hid (hr.stp A2.out id)
  have d1 : Hid (l.length ≤ maxLen) := Lib.hid (by unfold maxLen; omega)
  have d2 : Hid (l.length * 8 ≤ 140737488355328) := Lib.hid (by omega)
  clear hr hc2 hl
  go_enter Try.func108, Try.ntmps108
  go_wp2_with (at_builtin; refine wpList_append_fresh rfl (.tmp 8) (.tmp 10) 44 rfl c2 k2 2 (.int .i64 0) 1 8 Try.underlying44 Try.info2 rfl rfl (.slice ao l.length cap) l.length (l.map (Value.int .i64)) rfl Hr.out.src ?hm d1.out d2.out ?_)
  case hm => have := Hj.out; omega
  intro cap1 w1 hr1 st1
  obtain ⟨c3, hc3, A3⟩ := st1.name
  rw [← hc3.out] at hr1
  have R3 := Lib.hid hr1
  obtain ⟨b, hb, hbs, hcell, hfr, hadd, hcol⟩ := hr1.cell (j := j) (v := .int .i64 (l.getD j 0)) (by simp [List.getD, hj])
  cases hb
  rw [hadd] at hcell hfr
  generalize l.getD j 0 = xj at hcell
  simp at hcell hfr
  have q0 := (P2.out.stp A3.out id).cell 0
  have q1 := (P2.out.stp A3.out id).cell 1
  have z0 := (Q2.out.stp A3.out id).cell 0
  have z1 := (Q2.out.stp A3.out id).cell 1
  have zf0 := (Q2.out.stp A3.out id).free 0
  have zf1 := (Q2.out.stp A3.out id).free 1
  simp at q0 q1 z0 z1
  clear hr1 st1 hc3 hadd
  go_wp2
  refine bodyPost_ret (v := .agg #[.slice (some ⟨w.heap.size + 1 + 1, 0, none⟩) l.length cap1, .int .i64 s]) (by simp [results, Try.results108, go_sem, z0, z1]) rfl ⟨_, _, rfl, c3, ?_, ?_⟩
  · exact (((A2.out.trans A3.out).setNew _ (by simp; omega)).setNew _ (by simp)).setNew _ (by simp)
  · have r := R3.out.set j (.int .i64 v) (by simpa using Hj.out)
    simp at r
    exact (r.other _ (by rintro a h; cases h; simp) rfl).other _ (by rintro a h; cases h; simp) rfl
end Go.Proofs.Ytmhhhiegioniaaa
