/- Contracts of the actor table's Clear, Halt, Token, Len, Legal: for every table that is such. No condition beyond each contract's own. -/
import Derived.Test.YtmhhhiegioniaaaActor2
namespace Go.Proofs.Ytmhhhiegioniaaa
open Go.RowKit

theorem aclear_ok {c : Nat → Nat} {k : Nat} {w : World} {p : Nat} {l : List One} (h : TableAt c k w p l) (j : Nat) {x : One} (hj : l[j]? = some x) (hx : x.state ≠ 2) :
    Calls Try.prog 54 #[.pointer (some ⟨p, 0, none⟩), .int .i64 j] w fun e w' => e = .returned .nilIface ∧ ∃ c', Stp (· = k) c c' w w' ∧ TableAt c' k w' p (l.set j { x with token := false }) := by
  have Hat := Lib.hid h
  have Hj := Lib.hid hj
  have Hx := Lib.hid hx
  obtain ⟨g, off, cap, hb, hr, _, c1, _, _, f1, _, hne, hlt⟩ := h.open_one hj
  have b0 := hb.cell 0
  simp at b0
  have Hb := Lib.hid hb
  have Hr := Lib.hid hr
  clear hb hr h hj hx
  go_enter Try.func54, Try.ntmps54
  go_wp2_with (go_at_call 104; refine (aat_ok Hat.out _ _ Hj.out Hx.out).mono ?_; rintro e w' ⟨rfl, rfl⟩)
  go_ret
  exact ⟨rfl, _, (Stp.refl _ c w).setCell _ Hr.out.2.2.2.2.1, TableAt.put Hb.out Hr.out _ Hj.out 1 _ (by decide) rfl⟩

theorem aclear_bad {c : Nat → Nat} {k : Nat} {w : World} {p : Nat} {l : List One} (h : TableAt c k w p l) (id : Int) (hw : wrongAt l id ≠ 0) :
    Calls Try.prog 54 #[.pointer (some ⟨p, 0, none⟩), .int .i64 id] w fun e w' => ∃ ev, e = .returned ev ∧ ∃ c', Stp (fun _ => False) c c' w w' ∧ ErrAt c' w' ev (wrongAt l id) := by
  have Hat := Lib.hid h
  have Hw := Lib.hid hw
  clear h hw
  go_enter Try.func54, Try.ntmps54
  go_wp2_with (go_at_call 104; refine (aat_bad Hat.out _ _ Hw.out).mono ?_; rintro e w' ⟨t, v, rfl, c', st, he⟩)
  go_ret
  exact ⟨_, rfl, c', st, he⟩

theorem ahalt_ok {c : Nat → Nat} {k : Nat} {w : World} {p : Nat} {l : List One} (h : TableAt c k w p l) (j : Nat) {x : One} (hj : l[j]? = some x) (hx : x.state ≠ 2) :
    Calls Try.prog 55 #[.pointer (some ⟨p, 0, none⟩), .int .i64 j] w fun e w' => e = .returned .nilIface ∧ ∃ c', Stp (· = k) c c' w w' ∧ TableAt c' k w' p (l.set j ⟨2, false, x.wakes⟩) := by
  have Hat := Lib.hid h
  have Hj := Lib.hid hj
  have Hx := Lib.hid hx
  obtain ⟨g, off, cap, hb, hr, c0, c1, c2, f0, f1, f2, hne, hlt⟩ := h.open_one hj
  have b0 := hb.cell 0
  simp at b0
  have Hb := Lib.hid hb
  have Hr := Lib.hid hr
  clear hb hr h hj hx
  go_enter Try.func55, Try.ntmps55
  go_wp2_with (go_at_call 104; refine (aat_ok Hat.out _ _ Hj.out Hx.out).mono ?_; rintro e w' ⟨rfl, rfl⟩)
  go_region
  all_goals
    go_wp2
    go_ret
    have t1 := TableAt.pair Hb.out Hr.out { x with state := 2 } Hj.out 0 (.int .i64 2) (by decide) rfl
    have t2 := TableAt.pair t1.1 t1.2 (j := j) (x := { x with state := 2 }) { x with state := 2, token := false } (by simp [hlt]) 1 (.bool false) (by decide) rfl
    have t3 := TableAt.put t2.1 t2.2 (j := j) (x := { x with state := 2, token := false }) ⟨2, false, x.wakes⟩ (by simp [hlt]) 2 (.int .i64 x.wakes) (by decide) rfl
    refine ⟨rfl, _, ((((Stp.refl _ c w).setCell _ Hr.out.2.2.2.2.1).setCell _ Hr.out.2.2.2.2.1).setCell _ Hr.out.2.2.2.2.1).drew, ?_⟩
    have t4 := t3.stp ((Stp.refl (fun _ => False) c _).drew) id
    simpa using t4

theorem ahalt_bad {c : Nat → Nat} {k : Nat} {w : World} {p : Nat} {l : List One} (h : TableAt c k w p l) (id : Int) (hw : wrongAt l id ≠ 0) :
    Calls Try.prog 55 #[.pointer (some ⟨p, 0, none⟩), .int .i64 id] w fun e w' => ∃ ev, e = .returned ev ∧ ∃ c', Stp (fun _ => False) c c' w w' ∧ ErrAt c' w' ev (wrongAt l id) := by
  have Hat := Lib.hid h
  have Hw := Lib.hid hw
  clear h hw
  go_enter Try.func55, Try.ntmps55
  go_wp2_with (go_at_call 104; refine (aat_bad Hat.out _ _ Hw.out).mono ?_; rintro e w' ⟨t, v, rfl, c', st, he⟩)
  go_ret
  exact ⟨_, rfl, c', st, he⟩

theorem atoken_in {c : Nat → Nat} {k : Nat} {w : World} {p : Nat} {l : List One} (h : TableAt c k w p l) (j : Nat) {x : One} (hj : l[j]? = some x) :
    Calls Try.prog 56 #[.pointer (some ⟨p, 0, none⟩), .int .i64 j] w fun e w' => e = .returned (.bool x.token) ∧ w = w' := by
  obtain ⟨g, off, cap, hb, hr, _, c1, _, _, _, _, hne, hlt⟩ := h.open_one hj
  have b0 := hb.cell 0
  simp at b0
  have h0 : decide (0 ≤ (j : Int)) = true := by simp
  have h1 : decide ((j : Int) < (l.length : Int)) = true := by simp; omega
  clear hb hr h hj
  go_enter Try.func56, Try.ntmps56
  go_wp2
  go_ret
  exact ⟨rfl, rfl⟩

theorem alen_any {c : Nat → Nat} {k : Nat} {w : World} {p : Nat} {l : List One} (h : TableAt c k w p l) :
    Calls Try.prog 58 #[.pointer (some ⟨p, 0, none⟩)] w fun e w' => e = .returned (.int .i64 l.length) ∧ w = w' := by
  obtain ⟨ao, cap, hb, hr⟩ := h
  have b0 := hb.cell 0
  simp at b0
  clear hb hr
  go_enter Try.func58, Try.ntmps58
  go_wp2
  go_ret
  exact ⟨rfl, rfl⟩

/-- The place that any number picks among some. -/
def pickAt (p : Int) (n : Nat) : Nat := (p % n).toNat

theorem alegal_none {c : Nat → Nat} {k : Nat} {w : World} {p : Nat} {l : List One} (h : TableAt c k w p l) (kr : Nat) (hk : k ≠ kr) (hl : (l.length : Int) ≤ 1000000) (q : Int) (hr0 : (readyTo l l.length).length = 0) :
    Calls Try.prog 59 #[.pointer (some ⟨p, 0, none⟩), .int .i64 q] w fun e w' => e = .returned (.tuple #[.int .i64 0, .bool false]) ∧ ∃ c', Stp (· = kr) c c' w w' := by
  have H := Lib.hid h
  have Hl := Lib.hid hl
  clear h hl
  go_enter Try.func59, Try.ntmps59
  go_wp2_with fail
  refine (arunnable_any H.out kr hk Hl.out).mono ?_
  rintro e w1 ⟨ao, cap, rfl, c1, s1, r1⟩
  rw [hr0]
  go_wp2
  go_ret2
  exact ⟨rfl, c1, s1⟩

theorem tmod_pick (q : Int) (n : Nat) (hn : 0 < n) : pickAt q n < n ∧ ((q.tmod n = (pickAt q n : Nat)) ∨ q.tmod n = (pickAt q n : Nat) - n) := by
  have h0 : 0 ≤ q % (n : Int) := Int.emod_nonneg _ (by omega)
  have h1 : q % (n : Int) < n := Int.emod_lt_of_pos _ (by omega)
  have h2 : ((pickAt q n : Nat) : Int) = q % n := by unfold pickAt; omega
  refine ⟨by omega, ?_⟩
  rw [h2, Int.tmod_eq_emod]
  split
  · exact .inl (by omega)
  · exact .inr (by simp)

set_option maxRecDepth 100000 in
theorem alegal_some {c : Nat → Nat} {k : Nat} {w : World} {p : Nat} {l : List One} (h : TableAt c k w p l) (kr : Nat) (hk : k ≠ kr) (hl : (l.length : Int) ≤ 1000000) (q : Int) (n : Nat) (hn : (readyTo l l.length).length = n) (hn0 : 0 < n) :
    Calls Try.prog 59 #[.pointer (some ⟨p, 0, none⟩), .int .i64 q] w fun e w' => e = .returned (.tuple #[.int .i64 ((readyTo l l.length).getD (pickAt q n) 0), .bool true]) ∧ ∃ c', Stp (· = kr) c c' w w' := by
  have H := Lib.hid h
  have Hl := Lib.hid hl
  have Hn := Lib.hid hn
  have hn9 : (n : Int) ≤ 1000000 := by have := readyTo_len l l.length; omega
  have hn1 : decide ((n : Int) = 0) = false := by simp; omega
  obtain ⟨ht, hE⟩ := tmod_pick q n hn0
  obtain ⟨t, hte⟩ : ∃ t, t = pickAt q n := ⟨_, rfl⟩
  rw [← hte] at ht hE ⊢
  have Hn9 := Lib.hid hn9
  clear h hl hn hte hn9
  rcases hE with E | E
  all_goals
    have t1 : decide ((t : Int) - n < 0) = true := by simp; omega
    have W0 : wrap64 (t : Int) = t := IntWalk.wrap64_in _ (by have := Hn9.out; constructor <;> omega)
    have W1 : wrap64 ((t : Int) - n + n) = t := by rw [Int.sub_add_cancel]; exact W0
    go_enter Try.func59, Try.ntmps59
    go_wp2_with fail
    refine (arunnable_any H.out kr hk Hl.out).mono ?_
    rintro e w1 ⟨ao, cap, rfl, c1, s1, r1⟩
    rw [Hn.out] at r1 ⊢
    have S1 := Lib.hid s1
    obtain ⟨b, rfl, hbs, hc, -, hadd, -⟩ := r1.cell (j := t) (v := .int .i64 ((readyTo l l.length).getD t 0)) (by simp [List.getD, Hn.out, ht])
    obtain ⟨g, off, sp⟩ := b
    simp only at hbs hadd
    subst hbs
    rw [hadd] at hc
    obtain ⟨x, hx⟩ : ∃ x, x = (readyTo l l.length).getD t 0 := ⟨_, rfl⟩
    rw [← hx] at hc
    have Hx := Lib.hid hx
    clear hx
    clear s1 r1 hadd
    go_wp2
    go_ret2
    exact ⟨by have := Hx.out; subst this; rfl, c1, S1.out⟩
end Go.Proofs.Ytmhhhiegioniaaa
