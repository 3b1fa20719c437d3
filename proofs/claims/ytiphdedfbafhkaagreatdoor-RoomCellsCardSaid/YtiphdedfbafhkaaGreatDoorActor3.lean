/- Contracts of the actor table's Clear, Halt, Token, Len, Legal: for every table that is such. No condition beyond each contract's own. -/
import Derived.Test.YtiphdedfbafhkaaGreatDoorActor2
namespace Go.Proofs.YtiphdedfbafhkaaGreatDoor
open Go.RowKit

theorem ahalt_ok {c : Nat → Nat} {k : Nat} {w : World} {p : Nat} {l : List One} (h : TableAt c k w p l) (j : Nat) {x : One} (hj : l[j]? = some x) (hx : x.state ≠ 2) :
    Calls Tryz.prog 67 #[.pointer (some ⟨p, 0, none⟩), .int .i64 j] w fun e w' => e = .returned .nilIface ∧ ∃ c', Stp (· = k) c c' w w' ∧ TableAt c' k w' p (l.set j ⟨2, false, x.wakes⟩) := by
  have Hat := Lib.hid h
  have Hj := Lib.hid hj
  have Hx := Lib.hid hx
  obtain ⟨g, off, cap, hb, hr, c0, c1, c2, f0, f1, f2, hne, hlt⟩ := h.open_one hj
  have b0 := hb.cell 0
  simp at b0
  have Hb := Lib.hid hb
  have Hr := Lib.hid hr
  clear hb hr h hj hx
  go_enter Tryz.func67, Tryz.ntmps67
  go_wp2_with (go_at_call 108; refine (aat_ok Hat.out _ _ Hj.out Hx.out).mono ?_; rintro e w' ⟨rfl, rfl⟩)
  go_region
  all_goals
    go_wp2
    go_ret
    have t1 := TableAt.pair Hb.out Hr.out { x with state := 2 } Hj.out 0 (.int .i64 2) (by decide) rfl
    have t2 := TableAt.pair t1.1 t1.2 (j := j) (x := { x with state := 2 }) { x with state := 2, token := false } (by simp [hlt]) 1 (.bool false) (by decide) rfl
    have t3 := TableAt.put t2.1 t2.2 (j := j) (x := { x with state := 2, token := false }) ⟨2, false, x.wakes⟩ (by simp [hlt]) 2 (.int .i64 x.wakes) (by decide) rfl
    refine ⟨rfl, _, ((((Stp.refl _ c w).setCell _ Hr.out.2.2.2.2.1).setCell _ Hr.out.2.2.2.2.1).setCell _ Hr.out.2.2.2.2.1).drew, ?_⟩
    have t4 := t3.stp ((Stp.refl (fun _ => False) c _).drew) id
    simpa using t4

theorem ahalt_bad {c : Nat → Nat} {k : Nat} {w : World} {p : Nat} {l : List One} (h : TableAt c k w p l) (id : Int) (hw : wrongAt l id ≠ 0) :
    Calls Tryz.prog 67 #[.pointer (some ⟨p, 0, none⟩), .int .i64 id] w fun e w' => ∃ ev, e = .returned ev ∧ ∃ c', Stp (fun _ => False) c c' w w' ∧ ErrAt c' w' ev (wrongAt l id) := by
  have Hat := Lib.hid h
  have Hw := Lib.hid hw
  clear h hw
  go_enter Tryz.func67, Tryz.ntmps67
  go_wp2_with (go_at_call 108; refine (aat_bad Hat.out _ _ Hw.out).mono ?_; rintro e w' ⟨t, v, rfl, c', st, he⟩)
  go_ret
  exact ⟨_, rfl, c', st, he⟩

theorem atoken_in {c : Nat → Nat} {k : Nat} {w : World} {p : Nat} {l : List One} (h : TableAt c k w p l) (j : Nat) {x : One} (hj : l[j]? = some x) :
    Calls Tryz.prog 48 #[.pointer (some ⟨p, 0, none⟩), .int .i64 j] w fun e w' => e = .returned (.bool x.token) ∧ w = w' := by
  obtain ⟨g, off, cap, hb, hr, _, c1, _, _, _, _, hne, hlt⟩ := h.open_one hj
  have b0 := hb.cell 0
  simp at b0
  have h0 : decide (0 ≤ (j : Int)) = true := by simp
  have h1 : decide ((j : Int) < (l.length : Int)) = true := by simp; omega
  clear hb hr h hj
  go_enter Tryz.func48, Tryz.ntmps48
  go_wp2
  go_ret
  exact ⟨rfl, rfl⟩

theorem alen_any {c : Nat → Nat} {k : Nat} {w : World} {p : Nat} {l : List One} (h : TableAt c k w p l) :
    Calls Tryz.prog 20 #[.pointer (some ⟨p, 0, none⟩)] w fun e w' => e = .returned (.int .i64 l.length) ∧ w = w' := by
  obtain ⟨ao, cap, hb, hr⟩ := h
  have b0 := hb.cell 0
  simp at b0
  clear hb hr
  go_enter Tryz.func20, Tryz.ntmps20
  go_wp2
  go_ret
  exact ⟨rfl, rfl⟩

/-- The place that any number picks among some. -/
def pickAt (p : Int) (n : Nat) : Nat := (p % n).toNat

theorem tmod_pick (q : Int) (n : Nat) (hn : 0 < n) : pickAt q n < n ∧ ((q.tmod n = (pickAt q n : Nat)) ∨ q.tmod n = (pickAt q n : Nat) - n) := by
  have h0 : 0 ≤ q % (n : Int) := Int.emod_nonneg _ (by omega)
  have h1 : q % (n : Int) < n := Int.emod_lt_of_pos _ (by omega)
  have h2 : ((pickAt q n : Nat) : Int) = q % n := by unfold pickAt; omega
  refine ⟨by omega, ?_⟩
  rw [h2, Int.tmod_eq_emod]
  split
  · exact .inl (by omega)
  · exact .inr (by simp)

end Go.Proofs.YtiphdedfbafhkaaGreatDoor
