/- Contracts of the clock's Now, Waiting, Next, Clone, Tick: for every clock that is such (ClockAt). No condition beyond each contract's own. -/
import Derived.Test.YtmhhhiegioniaaaErrs2
import Derived.Test.YtmhhhiegioniaaaMem2
import Derived.Test.YtmhhhiegioniaaaMem5
import Derived.Lib.SliceRun
import Derived.Deep.QuietTactic
import Derived.BigQuiet
namespace Go.Proofs.Ytmhhhiegioniaaa
open Go.RowKit

structure Tm where
  at_ : Int
  who : Int

def Tm.cells (x : Tm) : List Value := [.int .i64 x.at_, .int .i64 x.who]
theorem Tm.len (x : Tm) : x.cells.length = 2 := rfl

theorem tm_one (l : List Tm) : ∀ u ∈ l.flatMap Tm.cells, u.oneCell' = true := by
  intro u hu
  obtain ⟨x, _, hx⟩ := List.mem_flatMap.1 hu
  simp [Tm.cells] at hx
  rcases hx with rfl | rfl <;> rfl

theorem Try.infoTimer : (Try.prog.info? 170).map (fun i => (i.zero, i.size, i.bytes)) = some (some (.agg #[.int .i64 0, .int .i64 0]), 2, 16) := by kernel_rfl
theorem Try.infoIntK : (Try.prog.info? 3).map (fun i => (i.zero, i.size, i.bytes)) = some (some (.int .i64 0), 1, 8) := by kernel_rfl

/-- A clock: its block of colour k, its timers' array of colour k + 1. -/
structure ClockIs (c : Nat → Nat) (k : Nat) (w : World) (p : Nat) (now : Int) (l : List Tm) (n : Nat) (ao : Option Addr) (cap : Nat) : Prop where
  hb : Blk c k w p [.int .i64 now, .slice ao n cap] 102
  hr : Row c (k + 1) w 170 2 ao n cap (l.flatMap Tm.cells)
  len : l.length = n

def ClockAt (c : Nat → Nat) (k : Nat) (w : World) (p : Nat) (now : Int) (l : List Tm) : Prop := ∃ n ao cap, ClockIs c k w p now l n ao cap

theorem ClockAt.stp {J : Nat → Prop} {c c' : Nat → Nat} {k : Nat} {w w' : World} {p : Nat} {now : Int} {l : List Tm} (h : ClockAt c k w p now l) (st : Stp J c c' w w') (h0 : ¬ J k) (h1 : ¬ J (k + 1)) : ClockAt c' k w' p now l := by
  obtain ⟨n, ao, cap, hb, hr, hl⟩ := h
  exact ⟨n, ao, cap, hb.stp st h0, hr.stp st h1, hl⟩

theorem know_any {c : Nat → Nat} {k : Nat} {w : World} {p : Nat} {now : Int} {l : List Tm} (h : ClockAt c k w p now l) :
    Calls Try.prog 74 #[.pointer (some ⟨p, 0, none⟩)] w fun e w' => e = .returned (.int .i64 now) ∧ w = w' := by
  obtain ⟨n, ao, cap, hb, hr, hl⟩ := h
  have c0 := hb.cell 0
  simp at c0
  clear hb hr hl
  go_enter Try.func74, Try.ntmps74
  go_wp2
  go_ret
  exact ⟨rfl, rfl⟩

theorem know_nil (w : World) : Calls Try.prog 74 #[.pointer none] w fun e w' => e = .returned (.int .i64 0) ∧ w = w' := by
  go_enter Try.func74, Try.ntmps74
  go_wp2
  go_ret
  exact ⟨rfl, rfl⟩

theorem kwait_any {c : Nat → Nat} {k : Nat} {w : World} {p : Nat} {now : Int} {l : List Tm} (h : ClockAt c k w p now l) :
    Calls Try.prog 75 #[.pointer (some ⟨p, 0, none⟩)] w fun e w' => e = .returned (.int .i64 l.length) ∧ w = w' := by
  obtain ⟨n, ao, cap, hb, hr, hl⟩ := h
  have c1 := hb.cell 1
  simp at c1
  rw [hl]
  clear hb hr hl
  go_enter Try.func75, Try.ntmps75
  go_wp2
  go_ret
  exact ⟨rfl, rfl⟩

theorem kwait_nil (w : World) : Calls Try.prog 75 #[.pointer none] w fun e w' => e = .returned (.int .i64 0) ∧ w = w' := by
  go_enter Try.func75, Try.ntmps75
  go_wp2
  go_ret
  exact ⟨rfl, rfl⟩

theorem kclone_nil (w : World) : Calls Try.prog 84 #[.pointer none] w fun e w' => e = .returned (.pointer none) ∧ w = w' := by
  go_enter Try.func84, Try.ntmps84
  go_wp2
  go_ret
  exact ⟨rfl, rfl⟩

theorem kdrop_nil (who : Int) (w : World) : Calls Try.prog 69 #[.pointer none, .int .i64 who] w fun e w' => e = .returned (.int .i64 0) ∧ Below w.heap.size w w' := by
  go_enter Try.func69, Try.ntmps69
  go_wp2
  go_ret
  exact ⟨rfl, (Below.refl _ _).alloc (Nat.le_refl _) _⟩

theorem kset_nil (at_ who : Int) (w : World) : Calls Try.prog 67 #[.pointer none, .int .i64 at_, .int .i64 who] w fun e w' => e = .returned (.iface 152 (.int .i64 2)) ∧ Below w.heap.size w w' := by
  go_enter Try.func67, Try.ntmps67
  go_wp2
  go_ret
  exact ⟨rfl, (Below.refl _ _).alloc (Nat.le_refl _) _⟩

theorem ktick_nil (d : Int) (w : World) : Calls Try.prog 71 #[.pointer none, .int .i64 d] w fun e w' => e = .returned (.tuple #[.slice none 0 0, .iface 152 (.int .i64 2)]) ∧ w = w' := by
  go_enter Try.func71, Try.ntmps71
  go_wp2
  go_ret2
  exact ⟨rfl, rfl⟩

/-- slices.Clone of timers: a new array of colour k2. -/
theorem ksclone_any {c : Nat → Nat} {k : Nat} {w : World} {ao : Option Addr} {n cap : Nat} {l : List Tm} (h : In c k w 2 ao n cap (l.flatMap Tm.cells)) (k2 : Nat) (hb : (n : Int) ≤ 1048576) :
    Calls Try.prog 120 #[.slice ao n cap] w fun e w' => ∃ ao' cap', e = .returned (.slice ao' n cap') ∧ ∃ c', Stp (fun _ => False) c c' w w' ∧ Row c' k2 w' 170 2 ao' n cap' (l.flatMap Tm.cells) := by
  have H := Lib.hid h
  have Hb := Lib.hid hb
  clear hb
  cases ao with
  | none =>
    have hn : n = 0 := by
      rcases Nat.eq_zero_or_pos n with h0 | h0
      · exact h0
      · obtain ⟨a, ha, _⟩ := h.2.2.2.2 h0
        cases ha
    subst hn
    obtain rfl := h.2.2.2.1 rfl
    have hl0 : l.flatMap Tm.cells = [] := List.eq_nil_of_length_eq_zero (by simpa using h.1)
    rw [hl0]
    clear h H
    have hr := fun wx => Lib.run_eql_slice_nil (P := Try.prog) wx 100 170 none 0 0 0 0 Try.underlying100
    go_enter Try.func120, Try.ntmps120
    go_wp2
    go_ret
    exact ⟨none, 0, rfl, c, Stp.refl _ _ _, Row.nil _ _ _ _ _⟩
  | some a =>
    clear h
    have hr := fun wx => Lib.run_eql_slice_nil (P := Try.prog) wx 100 170 (some a) n cap 0 0 Try.underlying100
    go_enter Try.func120, Try.ntmps120
    go_wp2_with (at_builtin; refine wpList_append_row _ rfl (.tmp 5) (.tmp 6) 100 rfl (paint c w.heap.size k2) k2 170 (.agg #[.int .i64 0, .int .i64 0]) 2 16 Try.underlying100 Try.infoTimer rfl (some ⟨w.heap.size, 0, none⟩) 0 0 [] rfl (Row.new c k2 w 170 2 0 0 [] rfl (Nat.le_refl _) (Nat.zero_le _)) (.slice (some a) n cap) n (l.flatMap Tm.cells) rfl ?c0 ?c1 ?c2 ?c3 ?_)
    case c0 => exact (H.out.stp ((Stp.refl (fun _ => False) c w).alloc _ k2) id).src
    case c1 => exact tm_one l
    case c2 => have := Hb.out; unfold maxLen; omega
    case c3 => have := Hb.out; omega
    intro ao' cap' w1 hr1 st1 ot1
    have Hr1 := Lib.hid hr1
    have St1 := Lib.hid (Stp.fresh st1 ot1)
    clear hr1 st1 ot1 hr
    go_wp2
    go_ret
    exact ⟨ao', cap', by simp, _, St1.out, by simpa using Hr1.out⟩

theorem kclone_any {c : Nat → Nat} {k : Nat} {w : World} {p : Nat} {now : Int} {l : List Tm} (h : ClockAt c k w p now l) (k2 : Nat) (hl : (l.length : Int) ≤ 1000) :
    Calls Try.prog 84 #[.pointer (some ⟨p, 0, none⟩)] w fun e w' => ∃ q, e = .returned (.pointer (some ⟨q, 0, none⟩)) ∧ ∃ c', Stp (fun _ => False) c c' w w' ∧ ClockAt c' k2 w' q now l := by
  obtain ⟨n, ao, cap, hb, hr, hln⟩ := h
  have c0 := hb.cell 0
  have c1 := hb.cell 1
  simp at c0 c1
  have hlt := hb.lt
  have Hb := Lib.hid hb
  have Hr := Lib.hid hr
  have Hln := Lib.hid hln
  have Hn := Lib.hid (show (n : Int) ≤ 1048576 by omega)
  clear hb hr hln hl
  go_enter Try.func84, Try.ntmps84
  go_wp2_with fail
  go_region_with ((go_at_call 120; refine (ksclone_any Hr.out.drew.toIn (k2 + 1) Hn.out).mono ?_; rintro e w1 ⟨ao1, cap1, rfl, c1', s1, r1⟩; have k0 := (Hb.out.drew.stp s1 id).cell 0; have k1 := (Hb.out.drew.stp s1 id).cell 1; simp at k0 k1))
  all_goals
    have S1 := Lib.hid ((Stp.refl (fun _ => False) c w).drew.trans s1)
    have R1 := Lib.hid r1
    clear s1 r1 k0 k1 c0 c1
    go_wp2
    go_ret
    exact ⟨_, rfl, _, S1.out.alloc _ k2, n, ao1, cap1, Blk.new _ k2 w1 _ _, R1.out.alloc _ k2, Hln.out⟩
end Go.Proofs.Ytmhhhiegioniaaa
