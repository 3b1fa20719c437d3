/- Contracts of the document's answer for actors: Wrong, Add, Park, Wake, Runnable: for every table of the document's that is such. No condition beyond each contract's own. -/
import Derived.Test.YtmhhhiegioniaaaActor3
import Derived.Test.YtmhhhiegioniaaaMem5
import Derived.Deep.QuietTactic
import Derived.BigQuiet
namespace Go.Proofs.Ytmhhhiegioniaaa
open Go.RowKit

def stOf (x : One) : Value := .int .i64 x.state
def tkOf (x : One) : Value := .bool x.token
def wkOf (x : One) : Value := .int .i64 x.wakes

/-- The document's table: three slices, each of a colour of its own. -/
structure RTab (c : Nat → Nat) (w : World) (p : Nat) (l : List One) (sa ta wa : Option Addr) (sc tc wc : Nat) : Prop where
  hb : Blk c 3 w p [.slice sa l.length sc, .slice ta l.length tc, .slice wa l.length wc] 78
  rs : Row c 4 w 3 1 sa l.length sc (l.map stOf)
  rt : Row c 5 w 4 1 ta l.length tc (l.map tkOf)
  rw : Row c 6 w 3 1 wa l.length wc (l.map wkOf)

def RTabAt (c : Nat → Nat) (w : World) (p : Nat) (l : List One) : Prop := ∃ sa ta wa sc tc wc, RTab c w p l sa ta wa sc tc wc

theorem RTab.stp {J : Nat → Prop} {c c' : Nat → Nat} {w w' : World} {p : Nat} {l : List One} {sa ta wa : Option Addr} {sc tc wc : Nat} (h : RTab c w p l sa ta wa sc tc wc) (st : Stp J c c' w w') (h3 : ¬ J 3) (h4 : ¬ J 4) (h5 : ¬ J 5) (h6 : ¬ J 6) : RTab c' w' p l sa ta wa sc tc wc :=
  ⟨h.hb.stp st h3, h.rs.stp st h4, h.rt.stp st h5, h.rw.stp st h6⟩

theorem RTabAt.stp {J : Nat → Prop} {c c' : Nat → Nat} {w w' : World} {p : Nat} {l : List One} (h : RTabAt c w p l) (st : Stp J c c' w w') (h3 : ¬ J 3) (h4 : ¬ J 4) (h5 : ¬ J 5) (h6 : ¬ J 6) : RTabAt c' w' p l := by
  obtain ⟨sa, ta, wa, sc, tc, wc, h⟩ := h
  exact ⟨sa, ta, wa, sc, tc, wc, h.stp st h3 h4 h5 h6⟩

theorem Row.open1 {c : Nat → Nat} {k : Nat} {w : World} {e : TypeId} {ao : Option Addr} {n cap : Nat} {α : Type} {f : α → Value} {l : List α} (h : Row c k w e 1 ao n cap (l.map f)) {j : Nat} {x : α} (hj : l[j]? = some x) :
    ∃ g off, ao = some ⟨g, off, none⟩ ∧ w.cell? ⟨g, off + j, none⟩ = some (f x) ∧ w.frozen? ⟨g, off + j, none⟩ = false ∧ c g = k := by
  obtain ⟨a, rfl, hs, hc, hf, ha, hk⟩ := h.cell (j := j) (v := f x) (by simp [hj])
  obtain ⟨g, off, sp⟩ := a
  simp only at hs
  subst hs
  rw [ha] at hc hf
  exact ⟨g, off, rfl, hc, hf, hk⟩

theorem wrong_eq {l : List One} {j : Nat} {x : One} (hj : l[j]? = some x) : wrongAt l (j : Int) = if x.state = 2 then 17 else 0 := by
  have : j < l.length := (List.getElem?_eq_some_iff.1 hj).1
  simp [wrongAt, hj]; omega

theorem r05wrong_any {c : Nat → Nat} {w : World} {p : Nat} {l : List One} (h : RTabAt c w p l) (id : Int) :
    Calls Try.prog 53 #[.pointer (some ⟨p, 0, none⟩), .int .i64 id] w fun e w' => e = .returned (.int .i64 (wrongAt l id)) ∧ w = w' := by
  obtain ⟨sa, ta, wa, sc, tc, wc, h⟩ := h
  have b0 := h.hb.cell 0
  simp at b0
  by_cases h0 : id < 0
  · have e3 : wrongAt l id = 3 := by simp [wrongAt, h0]
    rw [e3]
    have t0 : decide (id < 0) = true := by simpa using h0
    clear h h0 e3
    go_enter Try.func53, Try.ntmps53
    go_wp2
    go_ret
    exact ⟨rfl, rfl⟩
  · have t0 : decide (id < 0) = false := by simpa using h0
    by_cases h1 : (l.length : Int) ≤ id
    · have e3 : wrongAt l id = 3 := by simp [wrongAt, h1]
      rw [e3]
      have t1 : decide ((l.length : Int) ≤ id) = true := by simpa using h1
      clear h h0 e3
      go_enter Try.func53, Try.ntmps53
      go_wp2
      go_ret
      exact ⟨rfl, rfl⟩
    · obtain ⟨j, rfl⟩ := Int.eq_ofNat_of_zero_le (show 0 ≤ id by omega)
      have hjl : j < l.length := by omega
      have hj : l[j]? = some l[j] := List.getElem?_eq_getElem hjl
      rw [wrong_eq hj]
      obtain ⟨g, off, rfl, hc, -, -⟩ := h.rs.open1 hj
      generalize l[j] = x at *
      have t1 : decide ((l.length : Int) ≤ (j : Int)) = false := by simp; omega
      clear h h0 h1 hj
      by_cases hx : x.state = 2
      · have t2 : (x.state == 2) = true := by simpa using hx
        rw [if_pos hx]
        simp only [stOf] at hc
        clear hx
        go_enter Try.func53, Try.ntmps53
        go_wp2
        go_ret
        exact ⟨rfl, rfl⟩
      · have t2 : (x.state == 2) = false := by simpa using hx
        rw [if_neg hx]
        simp only [stOf] at hc
        clear hx
        go_enter Try.func53, Try.ntmps53
        go_wp2
        go_ret
        exact ⟨rfl, rfl⟩

theorem r05park_bad {c : Nat → Nat} {w : World} {p : Nat} {l : List One} (h : RTabAt c w p l) (id : Int) (hw : wrongAt l id ≠ 0) :
    Calls Try.prog 51 #[.pointer (some ⟨p, 0, none⟩), .int .i64 id] w fun e w' => e = .returned (.tuple #[.bool false, .int .i64 (wrongAt l id)]) ∧ w = w' := by
  have H := Lib.hid h
  have Hx := Lib.hid (rfl : wrongAt l id = wrongAt l id)
  obtain ⟨x, hx⟩ : ∃ x, x = wrongAt l id := ⟨_, rfl⟩
  rw [← hx] at hw ⊢
  have Hx := Lib.hid hx
  have t0 : (x != 0) = true := by simpa using hw
  clear h hx hw
  go_enter Try.func51, Try.ntmps51
  go_wp2_with (go_at_call 53; refine (r05wrong_any H.out _).mono ?_; rintro e w' ⟨rfl, rfl⟩; rw [← Hx.out])
  go_ret2
  exact ⟨rfl, rfl⟩

theorem r05wake_bad {c : Nat → Nat} {w : World} {p : Nat} {l : List One} (h : RTabAt c w p l) (id : Int) (hw : wrongAt l id ≠ 0) :
    Calls Try.prog 52 #[.pointer (some ⟨p, 0, none⟩), .int .i64 id] w fun e w' => e = .returned (.tuple #[.bool false, .int .i64 (wrongAt l id)]) ∧ w = w' := by
  have H := Lib.hid h
  obtain ⟨x, hx⟩ : ∃ x, x = wrongAt l id := ⟨_, rfl⟩
  rw [← hx] at hw ⊢
  have Hx := Lib.hid hx
  have t0 : (x != 0) = true := by simpa using hw
  clear h hx hw
  go_enter Try.func52, Try.ntmps52
  go_wp2_with (go_at_call 53; refine (r05wrong_any H.out _).mono ?_; rintro e w' ⟨rfl, rfl⟩; rw [← Hx.out])
  go_ret2
  exact ⟨rfl, rfl⟩

theorem set_eq_self {α β : Type} (f : α → β) (l : List α) (j : Nat) (x y : α) (hj : l[j]? = some x) (he : f y = f x) : (l.set j y).map f = l.map f := by
  rw [List.map_set]
  apply List.ext_getElem?
  intro i
  by_cases hi : j = i
  · subst hi
    have hl := (List.getElem?_eq_some_iff.1 hj).1
    rw [List.getElem?_set_self (by simpa using hl), List.getElem?_map, hj, he]
    rfl
  · rw [List.getElem?_set_ne hi]

/-- A store into one of the three. -/
theorem RTab.setToken {c : Nat → Nat} {w : World} {p : Nat} {l : List One} {sa wa : Option Addr} {sc tc wc g off : Nat} (h : RTab c w p l sa (some ⟨g, off, none⟩) wa sc tc wc) {j : Nat} {x : One} (hj : l[j]? = some x) (b : Bool) :
    RTab c (w.setCell ⟨g, off + j, none⟩ (.bool b)) p (l.set j { x with token := b }) sa (some ⟨g, off, none⟩) wa sc tc wc := by
  have hl := (List.getElem?_eq_some_iff.1 hj).1
  have hg : c g = 5 := h.rt.2.2.2.2.1
  have st : Stp (· = 5) c c w (w.setCell ⟨g, off + j, none⟩ (.bool b)) := (Stp.refl _ c w).setCell _ hg
  refine ⟨?_, ?_, ?_, ?_⟩
  · rw [List.length_set]; exact h.hb.stp st (by decide)
  · rw [List.length_set, set_eq_self stOf l j x { x with token := b } hj rfl]; exact h.rs.stp st (by decide)
  · rw [List.length_set, List.map_set]; exact h.rt.set j (.bool b) (by simpa using hl)
  · rw [List.length_set, set_eq_self wkOf l j x { x with token := b } hj rfl]; exact h.rw.stp st (by decide)

theorem RTab.setState {c : Nat → Nat} {w : World} {p : Nat} {l : List One} {ta wa : Option Addr} {sc tc wc g off : Nat} (h : RTab c w p l (some ⟨g, off, none⟩) ta wa sc tc wc) {j : Nat} {x : One} (hj : l[j]? = some x) (b : Int) :
    RTab c (w.setCell ⟨g, off + j, none⟩ (.int .i64 b)) p (l.set j { x with state := b }) (some ⟨g, off, none⟩) ta wa sc tc wc := by
  have hl := (List.getElem?_eq_some_iff.1 hj).1
  have hg : c g = 4 := h.rs.2.2.2.2.1
  have st : Stp (· = 4) c c w (w.setCell ⟨g, off + j, none⟩ (.int .i64 b)) := (Stp.refl _ c w).setCell _ hg
  refine ⟨?_, ?_, ?_, ?_⟩
  · rw [List.length_set]; exact h.hb.stp st (by decide)
  · rw [List.length_set, List.map_set]; exact h.rs.set j (.int .i64 b) (by simpa using hl)
  · rw [List.length_set, set_eq_self tkOf l j x { x with state := b } hj rfl]; exact h.rt.stp st (by decide)
  · rw [List.length_set, set_eq_self wkOf l j x { x with state := b } hj rfl]; exact h.rw.stp st (by decide)

theorem RTab.setWakes {c : Nat → Nat} {w : World} {p : Nat} {l : List One} {sa ta : Option Addr} {sc tc wc g off : Nat} (h : RTab c w p l sa ta (some ⟨g, off, none⟩) sc tc wc) {j : Nat} {x : One} (hj : l[j]? = some x) (b : Int) :
    RTab c (w.setCell ⟨g, off + j, none⟩ (.int .i64 b)) p (l.set j { x with wakes := b }) sa ta (some ⟨g, off, none⟩) sc tc wc := by
  have hl := (List.getElem?_eq_some_iff.1 hj).1
  have hg : c g = 6 := h.rw.2.2.2.2.1
  have st : Stp (· = 6) c c w (w.setCell ⟨g, off + j, none⟩ (.int .i64 b)) := (Stp.refl _ c w).setCell _ hg
  refine ⟨?_, ?_, ?_, ?_⟩
  · rw [List.length_set]; exact h.hb.stp st (by decide)
  · rw [List.length_set, set_eq_self stOf l j x { x with wakes := b } hj rfl]; exact h.rs.stp st (by decide)
  · rw [List.length_set, set_eq_self tkOf l j x { x with wakes := b } hj rfl]; exact h.rt.stp st (by decide)
  · rw [List.length_set, List.map_set]; exact h.rw.set j (.int .i64 b) (by simpa using hl)
end Go.Proofs.Ytmhhhiegioniaaa
