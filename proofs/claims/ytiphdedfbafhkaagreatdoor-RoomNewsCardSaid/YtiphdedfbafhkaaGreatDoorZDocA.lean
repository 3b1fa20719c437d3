/- Contracts that the closing theorem wants (DocA). No condition beyond each law's own. -/
import Derived.Test.YtiphdedfbafhkaaGreatDoorZKcX
import Derived.Test.YtiphdedfbafhkaaGreatDoorZAct
import Derived.Test.YtiphdedfbafhkaaGreatDoorZBB
import Derived.Deep.QuietTactic
import Derived.BigQuiet
namespace Go.Proofs.YtiphdedfbafhkaaGreatDoor

/-- The document's timers, sorted. -/
def srt (m : List Tm) : List Tm := m.foldl (fun acc t => insT t acc) []

theorem srt_snoc (m : List Tm) (t : Tm) : srt (m ++ [t]) = insT t (srt m) := by simp [srt, List.foldl_append]

theorem insT_eq (t : Tm) (l : List Tm) : insT t l = l.takeWhile (fun x => !decide (t.at_ < x.at_)) ++ t :: l.dropWhile (fun x => !decide (t.at_ < x.at_)) := by
  unfold insT
  rw [List.takeWhile_eq_take_findIdx_not, List.dropWhile_eq_drop_findIdx_not]
  simp

def Sorted (l : List Tm) : Prop := l.Pairwise (fun a b => a.at_ ≤ b.at_)

theorem insT_cons (t x : Tm) (l : List Tm) : insT t (x :: l) = if t.at_ < x.at_ then t :: x :: l else x :: insT t l := by
  rw [insT_eq, insT_eq]
  by_cases h : t.at_ < x.at_
  · simp [h]
  · simp [h]

theorem insT_mem {t y : Tm} {l : List Tm} : y ∈ insT t l ↔ y = t ∨ y ∈ l := by
  unfold insT
  rw [List.mem_append, List.mem_cons]
  constructor
  · rintro (h | h | h)
    · exact .inr (List.mem_of_mem_take h)
    · exact .inl h
    · exact .inr (List.mem_of_mem_drop h)
  · rintro (h | h)
    · exact .inr (.inl h)
    · rw [← List.take_append_drop (l.findIdx (fun z => decide (t.at_ < z.at_))) l] at h
      rcases List.mem_append.1 h with h | h
      · exact .inl h
      · exact .inr (.inr h)

theorem insT_len (t : Tm) (l : List Tm) : (insT t l).length = l.length + 1 := by
  unfold insT
  rw [List.length_append, List.length_cons, List.length_take, List.length_drop]
  have := List.findIdx_le_length (xs := l) (p := fun z => decide (t.at_ < z.at_))
  omega

theorem srt_len (m : List Tm) : (srt m).length = m.length := by
  suffices h : ∀ (m acc : List Tm), (m.foldl (fun acc t => insT t acc) acc).length = m.length + acc.length by simpa [srt] using h m []
  intro m
  induction m with
  | nil => intro acc; simp
  | cons x m ih => intro acc; rw [List.foldl_cons, ih, insT_len, List.length_cons]; omega

theorem insT_sorted {t : Tm} {l : List Tm} (h : Sorted l) : Sorted (insT t l) := by
  induction l with
  | nil => simp [insT, Sorted]
  | cons x l ih =>
    rw [insT_cons]
    have hx := List.pairwise_cons.1 h
    split
    · next hlt =>
      refine List.pairwise_cons.2 ⟨fun y hy => ?_, h⟩
      rcases List.mem_cons.1 hy with rfl | hy
      · omega
      · have := hx.1 y hy; omega
    · next hlt =>
      refine List.pairwise_cons.2 ⟨fun y hy => ?_, ih hx.2⟩
      rcases insT_mem.1 hy with rfl | hy
      · omega
      · exact hx.1 y hy

theorem insT_filter (p : Tm → Bool) (t : Tm) (l : List Tm) (h : Sorted l) : (insT t l).filter p = if p t then insT t (l.filter p) else l.filter p := by
  induction l with
  | nil => simp [insT]; split <;> simp_all
  | cons x l ih =>
    have hx := List.pairwise_cons.1 h
    rw [insT_cons]
    by_cases hlt : t.at_ < x.at_
    · rw [if_pos hlt]
      by_cases hp : p t = true
      · rw [if_pos hp, List.filter_cons, if_pos hp]
        -- t stands ahead of all
        have hall : ∀ y ∈ (x :: l).filter p, t.at_ < y.at_ := by
          intro y hy
          rcases List.mem_cons.1 (List.mem_filter.1 hy).1 with rfl | hy
          · exact hlt
          · have := hx.1 y hy; omega
        cases hq : (x :: l).filter p with
        | nil => simp [insT]
        | cons z r => rw [insT_cons, if_pos (hall z (by rw [hq]; simp))]
      · simp only [hp]
        rw [List.filter_cons, if_neg (by simpa using hp)]
        simp
    · rw [if_neg hlt]
      by_cases hpx : p x = true
      · rw [List.filter_cons, if_pos hpx, ih hx.2, List.filter_cons, if_pos hpx]
        split
        · rw [insT_cons, if_neg hlt]
        · rfl
      · rw [List.filter_cons, if_neg hpx, ih hx.2, List.filter_cons, if_neg hpx]

theorem srt_filter (p : Tm → Bool) (m : List Tm) : srt (m.filter p) = (srt m).filter p := by
  suffices h : ∀ (m acc : List Tm), Sorted acc → (m.filter p).foldl (fun acc t => insT t acc) (acc.filter p) = (m.foldl (fun acc t => insT t acc) acc).filter p from h m [] List.Pairwise.nil
  intro m
  induction m with
  | nil => intro acc _; rfl
  | cons x m ih =>
    intro acc h
    rw [List.foldl_cons, ← ih _ (insT_sorted h), insT_filter p x acc h, List.filter_cons]
    split
    · rfl
    · rfl

/-- The place of the first least among the first j; -1: none. -/
def lstTo (m : List Tm) : Nat → Int
  | 0 => -1
  | j + 1 => if lstTo m j < 0 ∨ (m.getD j ⟨0, 0⟩).at_ < (m.getD (lstTo m j).toNat ⟨0, 0⟩).at_ then (j : Int) else lstTo m j

theorem lstTo_ok (m : List Tm) : ∀ j, j < m.length → ∃ i : Nat, lstTo m (j + 1) = i ∧ i ≤ j ∧ srt (m.take (j + 1)) = m.getD i ⟨0, 0⟩ :: srt ((m.take (j + 1)).eraseIdx i)
  | 0, h => by
    obtain ⟨x, r, rfl⟩ : ∃ x r, m = x :: r := by cases m with | nil => simp at h | cons x r => exact ⟨x, r, rfl⟩
    exact ⟨0, by simp [lstTo], Nat.le_refl _, by simp [srt, insT]⟩
  | j + 1, h => by
    obtain ⟨i, hi, hij, hs⟩ := lstTo_ok m j (by omega)
    have ht : m.take (j + 1 + 1) = m.take (j + 1) ++ [m.getD (j + 1) ⟨0, 0⟩] := by
      rw [List.take_add_one, List.getElem?_eq_getElem h]; simp [List.getD, h]
    have hl : (m.take (j + 1)).length = j + 1 := by rw [List.length_take]; omega
    by_cases hc : (m.getD (j + 1) ⟨0, 0⟩).at_ < (m.getD i ⟨0, 0⟩).at_
    · refine ⟨j + 1, ?_, Nat.le_refl _, ?_⟩
      · rw [lstTo, hi, if_pos (.inr (by simpa using hc))]
      · rw [ht, srt_snoc, hs, insT_cons, if_pos hc, ← hs]
        rw [List.eraseIdx_append_of_length_le (by omega), hl]
        simp
    · refine ⟨i, ?_, by omega, ?_⟩
      · rw [lstTo, hi, if_neg (fun h => by
          rcases h with h | h
          · omega
          · exact hc (by simpa using h))]
      · rw [ht, srt_snoc, hs, insT_cons, if_neg hc, List.eraseIdx_append_of_lt_length (by omega), srt_snoc]

theorem least_head {m : List Tm} (h : m ≠ []) : ∃ i : Nat, lstTo m m.length = i ∧ i < m.length ∧ srt m = m.getD i ⟨0, 0⟩ :: srt (m.eraseIdx i) := by
  have hl : 0 < m.length := List.length_pos_iff.2 h
  obtain ⟨i, h1, h2, h3⟩ := lstTo_ok m (m.length - 1) (by omega)
  have e : m.length - 1 + 1 = m.length := by omega
  rw [e] at h1 h3
  rw [List.take_length] at h3
  exact ⟨i, h1, by omega, h3⟩
end Go.Proofs.YtiphdedfbafhkaaGreatDoor

namespace Go.Proofs.YtiphdedfbafhkaaGreatDoor
open Go.RowKit

def stOf (x : One) : Value := .int .i64 x.state
def tkOf (x : One) : Value := .bool x.token
def wkOf (x : One) : Value := .int .i64 x.wakes

/-- The document's table: three slices, each of a colour of its own. -/
structure RTab (c : Nat → Nat) (w : World) (p : Nat) (l : List One) (sa ta wa : Option Addr) (sc tc wc : Nat) : Prop where
  hb : Blk c 3 w p [.slice sa l.length sc, .slice ta l.length tc, .slice wa l.length wc] 152
  rs : Row c 4 w 3 1 sa l.length sc (l.map stOf)
  rt : Row c 5 w 4 1 ta l.length tc (l.map tkOf)
  rw : Row c 6 w 3 1 wa l.length wc (l.map wkOf)

def RTabAt (c : Nat → Nat) (w : World) (p : Nat) (l : List One) : Prop := ∃ sa ta wa sc tc wc, RTab c w p l sa ta wa sc tc wc

theorem RTab.stp {J : Nat → Prop} {c c' : Nat → Nat} {w w' : World} {p : Nat} {l : List One} {sa ta wa : Option Addr} {sc tc wc : Nat} (h : RTab c w p l sa ta wa sc tc wc) (st : Stp J c c' w w') (h3 : ¬ J 3) (h4 : ¬ J 4) (h5 : ¬ J 5) (h6 : ¬ J 6) : RTab c' w' p l sa ta wa sc tc wc :=
  ⟨h.hb.stp st h3, h.rs.stp st h4, h.rt.stp st h5, h.rw.stp st h6⟩

theorem RTabAt.stp {J : Nat → Prop} {c c' : Nat → Nat} {w w' : World} {p : Nat} {l : List One} (h : RTabAt c w p l) (st : Stp J c c' w w') (h3 : ¬ J 3) (h4 : ¬ J 4) (h5 : ¬ J 5) (h6 : ¬ J 6) : RTabAt c' w' p l := by
  obtain ⟨sa, ta, wa, sc, tc, wc, h⟩ := h
  exact ⟨sa, ta, wa, sc, tc, wc, h.stp st h3 h4 h5 h6⟩

theorem Row.open1 {c : Nat → Nat} {k : Nat} {w : World} {e : TypeId} {ao : Option Addr} {n cap : Nat} {α : Type} {f : α → Value} {l : List α} (h : Row c k w e 1 ao n cap (l.map f)) {j : Nat} {x : α} (hj : l[j]? = some x) :
    ∃ g off, ao = some ⟨g, off, none⟩ ∧ w.cell? ⟨g, off + j, none⟩ = some (f x) ∧ w.frozen? ⟨g, off + j, none⟩ = false ∧ c g = k := by
  obtain ⟨a, rfl, hs, hc, hf, ha, hk⟩ := h.cell (j := j) (v := f x) (by simp [hj])
  obtain ⟨g, off, sp⟩ := a
  simp only at hs
  subst hs
  rw [ha] at hc hf
  exact ⟨g, off, rfl, hc, hf, hk⟩

theorem wrong_eq {l : List One} {j : Nat} {x : One} (hj : l[j]? = some x) : wrongAt l (j : Int) = if x.state = 2 then 17 else 0 := by
  have : j < l.length := (List.getElem?_eq_some_iff.1 hj).1
  simp [wrongAt, hj]; omega

theorem r05wrong_any {c : Nat → Nat} {w : World} {p : Nat} {l : List One} (h : RTabAt c w p l) (id : Int) :
    Calls Tryz.prog 145 #[.pointer (some ⟨p, 0, none⟩), .int .i64 id] w fun e w' => e = .returned (.int .i64 (wrongAt l id)) ∧ w = w' := by
  obtain ⟨sa, ta, wa, sc, tc, wc, h⟩ := h
  have b0 := h.hb.cell 0
  simp at b0
  by_cases h0 : id < 0
  · have e3 : wrongAt l id = 3 := by simp [wrongAt, h0]
    rw [e3]
    have t0 : decide (id < 0) = true := by simpa using h0
    clear h h0 e3
    go_enter Tryz.func145, Tryz.ntmps145
    go_wp2
    go_ret
    exact ⟨rfl, rfl⟩
  · have t0 : decide (id < 0) = false := by simpa using h0
    by_cases h1 : (l.length : Int) ≤ id
    · have e3 : wrongAt l id = 3 := by simp [wrongAt, h1]
      rw [e3]
      have t1 : decide ((l.length : Int) ≤ id) = true := by simpa using h1
      clear h h0 e3
      go_enter Tryz.func145, Tryz.ntmps145
      go_wp2
      go_ret
      exact ⟨rfl, rfl⟩
    · obtain ⟨j, rfl⟩ := Int.eq_ofNat_of_zero_le (show 0 ≤ id by omega)
      have hjl : j < l.length := by omega
      have hj : l[j]? = some l[j] := List.getElem?_eq_getElem hjl
      rw [wrong_eq hj]
      obtain ⟨g, off, rfl, hc, -, -⟩ := h.rs.open1 hj
      generalize l[j] = x at *
      have t1 : decide ((l.length : Int) ≤ (j : Int)) = false := by simp; omega
      clear h h0 h1 hj
      by_cases hx : x.state = 2
      · have t2 : (x.state == 2) = true := by simpa using hx
        rw [if_pos hx]
        simp only [stOf] at hc
        clear hx
        go_enter Tryz.func145, Tryz.ntmps145
        go_wp2
        go_ret
        exact ⟨rfl, rfl⟩
      · have t2 : (x.state == 2) = false := by simpa using hx
        rw [if_neg hx]
        simp only [stOf] at hc
        clear hx
        go_enter Tryz.func145, Tryz.ntmps145
        go_wp2
        go_ret
        exact ⟨rfl, rfl⟩

theorem r05wake_bad {c : Nat → Nat} {w : World} {p : Nat} {l : List One} (h : RTabAt c w p l) (id : Int) (hw : wrongAt l id ≠ 0) :
    Calls Tryz.prog 130 #[.pointer (some ⟨p, 0, none⟩), .int .i64 id] w fun e w' => e = .returned (.tuple #[.bool false, .int .i64 (wrongAt l id)]) ∧ w = w' := by
  have H := Lib.hid h
  obtain ⟨x, hx⟩ : ∃ x, x = wrongAt l id := ⟨_, rfl⟩
  rw [← hx] at hw ⊢
  have Hx := Lib.hid hx
  have t0 : (x != 0) = true := by simpa using hw
  clear h hx hw
  go_enter Tryz.func130, Tryz.ntmps130
  go_wp2_with (go_at_call 145; refine (r05wrong_any H.out _).mono ?_; rintro e w' ⟨rfl, rfl⟩; rw [← Hx.out])
  go_ret2
  exact ⟨rfl, rfl⟩

theorem set_eq_self {α β : Type} (f : α → β) (l : List α) (j : Nat) (x y : α) (hj : l[j]? = some x) (he : f y = f x) : (l.set j y).map f = l.map f := by
  rw [List.map_set]
  apply List.ext_getElem?
  intro i
  by_cases hi : j = i
  · subst hi
    have hl := (List.getElem?_eq_some_iff.1 hj).1
    rw [List.getElem?_set_self (by simpa using hl), List.getElem?_map, hj, he]
    rfl
  · rw [List.getElem?_set_ne hi]

/-- A store into one of the three. -/
theorem RTab.setToken {c : Nat → Nat} {w : World} {p : Nat} {l : List One} {sa wa : Option Addr} {sc tc wc g off : Nat} (h : RTab c w p l sa (some ⟨g, off, none⟩) wa sc tc wc) {j : Nat} {x : One} (hj : l[j]? = some x) (b : Bool) :
    RTab c (w.setCell ⟨g, off + j, none⟩ (.bool b)) p (l.set j { x with token := b }) sa (some ⟨g, off, none⟩) wa sc tc wc := by
  have hl := (List.getElem?_eq_some_iff.1 hj).1
  have hg : c g = 5 := h.rt.2.2.2.2.1
  have st : Stp (· = 5) c c w (w.setCell ⟨g, off + j, none⟩ (.bool b)) := (Stp.refl _ c w).setCell _ hg
  refine ⟨?_, ?_, ?_, ?_⟩
  · rw [List.length_set]; exact h.hb.stp st (by decide)
  · rw [List.length_set, set_eq_self stOf l j x { x with token := b } hj rfl]; exact h.rs.stp st (by decide)
  · rw [List.length_set, List.map_set]; exact h.rt.set j (.bool b) (by simpa using hl)
  · rw [List.length_set, set_eq_self wkOf l j x { x with token := b } hj rfl]; exact h.rw.stp st (by decide)

theorem RTab.setState {c : Nat → Nat} {w : World} {p : Nat} {l : List One} {ta wa : Option Addr} {sc tc wc g off : Nat} (h : RTab c w p l (some ⟨g, off, none⟩) ta wa sc tc wc) {j : Nat} {x : One} (hj : l[j]? = some x) (b : Int) :
    RTab c (w.setCell ⟨g, off + j, none⟩ (.int .i64 b)) p (l.set j { x with state := b }) (some ⟨g, off, none⟩) ta wa sc tc wc := by
  have hl := (List.getElem?_eq_some_iff.1 hj).1
  have hg : c g = 4 := h.rs.2.2.2.2.1
  have st : Stp (· = 4) c c w (w.setCell ⟨g, off + j, none⟩ (.int .i64 b)) := (Stp.refl _ c w).setCell _ hg
  refine ⟨?_, ?_, ?_, ?_⟩
  · rw [List.length_set]; exact h.hb.stp st (by decide)
  · rw [List.length_set, List.map_set]; exact h.rs.set j (.int .i64 b) (by simpa using hl)
  · rw [List.length_set, set_eq_self tkOf l j x { x with state := b } hj rfl]; exact h.rt.stp st (by decide)
  · rw [List.length_set, set_eq_self wkOf l j x { x with state := b } hj rfl]; exact h.rw.stp st (by decide)

theorem RTab.setWakes {c : Nat → Nat} {w : World} {p : Nat} {l : List One} {sa ta : Option Addr} {sc tc wc g off : Nat} (h : RTab c w p l sa ta (some ⟨g, off, none⟩) sc tc wc) {j : Nat} {x : One} (hj : l[j]? = some x) (b : Int) :
    RTab c (w.setCell ⟨g, off + j, none⟩ (.int .i64 b)) p (l.set j { x with wakes := b }) sa ta (some ⟨g, off, none⟩) sc tc wc := by
  have hl := (List.getElem?_eq_some_iff.1 hj).1
  have hg : c g = 6 := h.rw.2.2.2.2.1
  have st : Stp (· = 6) c c w (w.setCell ⟨g, off + j, none⟩ (.int .i64 b)) := (Stp.refl _ c w).setCell _ hg
  refine ⟨?_, ?_, ?_, ?_⟩
  · rw [List.length_set]; exact h.hb.stp st (by decide)
  · rw [List.length_set, set_eq_self stOf l j x { x with wakes := b } hj rfl]; exact h.rs.stp st (by decide)
  · rw [List.length_set, set_eq_self tkOf l j x { x with wakes := b } hj rfl]; exact h.rt.stp st (by decide)
  · rw [List.length_set, List.map_set]; exact h.rw.set j (.int .i64 b) (by simpa using hl)
end Go.Proofs.YtiphdedfbafhkaaGreatDoor

namespace Go.Proofs.YtiphdedfbafhkaaGreatDoor
open Go.RowKit

theorem wrong_zero {l : List One} {j : Nat} {x : One} (hj : l[j]? = some x) (hx : x.state ≠ 2) : wrongAt l (j : Int) = 0 := by
  rw [wrong_eq hj, if_neg hx]

theorem r05wrong_ok {c : Nat → Nat} {w : World} {p : Nat} {l : List One} (h : RTabAt c w p l) {j : Nat} {x : One} (hj : l[j]? = some x) (hx : x.state ≠ 2) :
    Calls Tryz.prog 145 #[.pointer (some ⟨p, 0, none⟩), .int .i64 j] w fun e w' => e = .returned (.int .i64 0) ∧ w = w' :=
  (r05wrong_any h _).mono fun _ _ ⟨he, hw⟩ => ⟨by rw [he, wrong_zero hj hx], hw⟩

theorem r05park_token {c : Nat → Nat} {w : World} {p : Nat} {l : List One} (h : RTabAt c w p l) (j : Nat) {x : One} (hj : l[j]? = some x) (hx : x.state ≠ 2) (ht : x.token = true) :
    Calls Tryz.prog 127 #[.pointer (some ⟨p, 0, none⟩), .int .i64 j] w fun e w' => e = .returned (.tuple #[.bool false, .int .i64 0]) ∧ ∃ c', Stp (fun j => 3 ≤ j ∧ j ≤ 6) c c' w w' ∧ RTabAt c' w' p (l.set j { x with token := false }) := by
  have H := Lib.hid h
  have Hj := Lib.hid hj
  have Hx := Lib.hid hx
  obtain ⟨sa, ta, wa, sc, tc, wc, h⟩ := h
  obtain ⟨g, off, rfl, hc, hf, hg⟩ := h.rt.open1 hj
  simp only [tkOf] at hc
  rw [ht] at hc
  have b1 := h.hb.cell 1
  simp at b1
  have HR := Lib.hid h
  have hjl := (List.getElem?_eq_some_iff.1 hj).1
  clear h hj hx ht
  go_enter Tryz.func127, Tryz.ntmps127
  go_wp2_with (go_at_call 145; refine (r05wrong_ok H.out Hj.out Hx.out).mono ?_; rintro e w' ⟨rfl, rfl⟩)
  go_ret2
  exact ⟨rfl, c, (Stp.refl _ c w).setCell _ (by show 3 ≤ c g ∧ c g ≤ 6; omega), _, _, _, _, _, _, HR.out.setToken Hj.out false⟩

theorem r05park_yes {c : Nat → Nat} {w : World} {p : Nat} {l : List One} (h : RTabAt c w p l) (j : Nat) {x : One} (hj : l[j]? = some x) (hx : x.state ≠ 2) (ht : x.token = false) :
    Calls Tryz.prog 127 #[.pointer (some ⟨p, 0, none⟩), .int .i64 j] w fun e w' => e = .returned (.tuple #[.bool true, .int .i64 0]) ∧ ∃ c', Stp (fun j => 3 ≤ j ∧ j ≤ 6) c c' w w' ∧ RTabAt c' w' p (l.set j { x with state := 1 }) := by
  have H := Lib.hid h
  have Hj := Lib.hid hj
  have Hx := Lib.hid hx
  obtain ⟨sa, ta, wa, sc, tc, wc, h⟩ := h
  obtain ⟨g, off, rfl, hc, -, -⟩ := h.rt.open1 hj
  obtain ⟨g2, off2, rfl, hc2, hf2, hg2⟩ := h.rs.open1 hj
  simp only [tkOf, stOf] at hc hc2
  rw [ht] at hc
  have b0 := h.hb.cell 0
  have b1 := h.hb.cell 1
  simp at b0 b1
  have HR := Lib.hid h
  have hjl := (List.getElem?_eq_some_iff.1 hj).1
  clear h hj hx ht
  go_enter Tryz.func127, Tryz.ntmps127
  go_wp2_with (go_at_call 145; refine (r05wrong_ok H.out Hj.out Hx.out).mono ?_; rintro e w' ⟨rfl, rfl⟩)
  go_ret2
  exact ⟨rfl, c, (Stp.refl _ c w).setCell _ (by show 3 ≤ c g2 ∧ c g2 ≤ 6; omega), _, _, _, _, _, _, HR.out.setState Hj.out 1⟩

theorem r05wake_parked {c : Nat → Nat} {w : World} {p : Nat} {l : List One} (h : RTabAt c w p l) (j : Nat) {x : One} (hj : l[j]? = some x) (hx : x.state = 1) (h0 : 0 ≤ x.wakes) (h1 : x.wakes < 4611686018427387904) :
    Calls Tryz.prog 130 #[.pointer (some ⟨p, 0, none⟩), .int .i64 j] w fun e w' => e = .returned (.tuple #[.bool true, .int .i64 0]) ∧ ∃ c', Stp (fun j => 3 ≤ j ∧ j ≤ 6) c c' w w' ∧ RTabAt c' w' p (l.set j { x with state := 0, wakes := x.wakes + 1 }) := by
  have H := Lib.hid h
  have Hj := Lib.hid hj
  have Hx := Lib.hid (show x.state ≠ 2 by omega)
  obtain ⟨sa, ta, wa, sc, tc, wc, h⟩ := h
  obtain ⟨g, off, rfl, hc, hf, hg⟩ := h.rw.open1 hj
  obtain ⟨g2, off2, rfl, hc2, hf2, hg2⟩ := h.rs.open1 hj
  simp only [wkOf, stOf] at hc hc2
  rw [hx] at hc2
  have b0 := h.hb.cell 0
  have b2 := h.hb.cell 2
  simp at b0 b2
  have hne : g ≠ g2 := by rintro rfl; omega
  have hnp : g ≠ p := by have := h.hb.1; rintro rfl; omega
  have hnp2 : g2 ≠ p := by have := h.hb.1; rintro rfl; omega
  have HR := Lib.hid h
  have hjl := (List.getElem?_eq_some_iff.1 hj).1
  have Hg := Lib.hid hg
  have Hg2 := Lib.hid hg2
  clear h hj hx hg hg2
  go_enter Tryz.func130, Tryz.ntmps130
  go_wp2_with (go_at_call 145; refine (r05wrong_ok H.out Hj.out Hx.out).mono ?_; rintro e w' ⟨rfl, rfl⟩)
  go_ret2
  have t := (HR.out.setWakes Hj.out (x.wakes + 1)).setState (j := j) (x := { x with wakes := x.wakes + 1 }) (by simp [hjl]) 0
  refine ⟨rfl, c, ((Stp.refl _ c w).setCell _ (by show 3 ≤ c g ∧ c g ≤ 6; have := Hg.out; omega)).setCell _ (by show 3 ≤ c g2 ∧ c g2 ≤ 6; have := Hg2.out; omega), some ⟨g2, off2, none⟩, ta, some ⟨g, off, none⟩, sc, tc, wc, ?_⟩
  simpa using t

theorem r05wake_ready {c : Nat → Nat} {w : World} {p : Nat} {l : List One} (h : RTabAt c w p l) (j : Nat) {x : One} (hj : l[j]? = some x) (hx : x.state ≠ 2) (hx1 : x.state ≠ 1) (h0 : 0 ≤ x.wakes) (h1 : x.wakes < 4611686018427387904) :
    Calls Tryz.prog 130 #[.pointer (some ⟨p, 0, none⟩), .int .i64 j] w fun e w' => e = .returned (.tuple #[.bool false, .int .i64 0]) ∧ ∃ c', Stp (fun j => 3 ≤ j ∧ j ≤ 6) c c' w w' ∧ RTabAt c' w' p (l.set j { x with token := true, wakes := x.wakes + 1 }) := by
  have H := Lib.hid h
  have Hj := Lib.hid hj
  have Hx := Lib.hid hx
  have hx1' : (x.state == 1) = false := by simpa using hx1
  obtain ⟨sa, ta, wa, sc, tc, wc, h⟩ := h
  obtain ⟨g, off, rfl, hc, hf, hg⟩ := h.rw.open1 hj
  obtain ⟨g2, off2, rfl, hc2, hf2, hg2⟩ := h.rs.open1 hj
  obtain ⟨g3, off3, rfl, hc3, hf3, hg3⟩ := h.rt.open1 hj
  simp only [wkOf, stOf, tkOf] at hc hc2 hc3
  have b0 := h.hb.cell 0
  have b1 := h.hb.cell 1
  have b2 := h.hb.cell 2
  simp at b0 b1 b2
  have hne : g ≠ g2 := by rintro rfl; omega
  have hne3 : g ≠ g3 := by rintro rfl; omega
  have hnp : g ≠ p := by have := h.hb.1; rintro rfl; omega
  have HR := Lib.hid h
  have hjl := (List.getElem?_eq_some_iff.1 hj).1
  have Hg := Lib.hid hg
  have Hg3 := Lib.hid hg3
  clear h hj hx hx1 hg hg2 hg3
  go_enter Tryz.func130, Tryz.ntmps130
  go_wp2_with (go_at_call 145; refine (r05wrong_ok H.out Hj.out Hx.out).mono ?_; rintro e w' ⟨rfl, rfl⟩)
  go_ret2
  have t := (HR.out.setWakes Hj.out (x.wakes + 1)).setToken (j := j) (x := { x with wakes := x.wakes + 1 }) (by simp [hjl]) true
  refine ⟨rfl, c, ((Stp.refl _ c w).setCell _ (by show 3 ≤ c g ∧ c g ≤ 6; have := Hg.out; omega)).setCell _ (by show 3 ≤ c g3 ∧ c g3 ≤ 6; have := Hg3.out; omega), some ⟨g2, off2, none⟩, some ⟨g3, off3, none⟩, some ⟨g, off, none⟩, sc, tc, wc, ?_⟩
  simpa using t

theorem r05add_full {c : Nat → Nat} {w : World} {p : Nat} {l : List One} (h : RTabAt c w p l) (hl : 64 ≤ (l.length : Int)) :
    Calls Tryz.prog 90 #[.pointer (some ⟨p, 0, none⟩)] w fun e w' => e = .returned (.int .i64 8) ∧ w = w' := by
  obtain ⟨sa, ta, wa, sc, tc, wc, h⟩ := h
  have b0 := h.hb.cell 0
  simp at b0
  clear h
  go_enter Tryz.func90, Tryz.ntmps90
  go_wp2
  go_ret
  exact ⟨rfl, rfl⟩

theorem Tryz.infoBool : (Tryz.prog.info? 4).map (fun i => (i.zero, i.size, i.bytes)) = some (some (.bool false), 1, 1) := by kernel_rfl

theorem r05add_ok {c : Nat → Nat} {w : World} {p : Nat} {l : List One} (h : RTabAt c w p l) (hl : (l.length : Int) < 64) :
    Calls Tryz.prog 90 #[.pointer (some ⟨p, 0, none⟩)] w fun e w' => e = .returned (.int .i64 0) ∧ ∃ c', Stp (fun j => 3 ≤ j ∧ j ≤ 6) c c' w w' ∧ RTabAt c' w' p (l ++ [⟨0, false, 0⟩]) := by
  obtain ⟨sa, ta, wa, sc, tc, wc, h⟩ := h
  have b0 := h.hb.cell 0
  simp at b0
  have HR := Lib.hid h
  have d2 : Hid (l.length + 1 ≤ maxLen) := Lib.hid (by unfold maxLen; omega)
  have d3 : Hid ((l.length + 1) * 8 ≤ 140737488355328) := Lib.hid (by omega)
  have d4 : Hid ((l.length + 1) * 1 ≤ 140737488355328) := Lib.hid (by omega)
  clear h
  go_enter Tryz.func90, Tryz.ntmps90
  have HB := Lib.hid HR.out.hb
  have RS := Lib.hid HR.out.rs
  have RT := Lib.hid HR.out.rt
  have RW := Lib.hid HR.out.rw
  have S0 := Lib.hid (Stp.refl (fun j => 3 ≤ j ∧ j ≤ 6) c w)
  clear HR
  go_wp2_with (at_builtin; refine wpList_append_row _ rfl (.tmp 13) (.tmp 14) 29 rfl (paint c w.heap.size 4) 4 3 (.int .i64 0) 1 8 Tryz.underlying29 Tryz.infoInt rfl sa l.length sc (l.map stOf) rfl (RS.out.allocG (by simp)) _ 1 [.int .i64 0] rfl (Src.oneAt (by simp)) (by simp [Value.oneCell']) d2.out d3.out ?_)
  intro ao4 cap4 w4 r4 st4 _
  obtain ⟨e4, he4, A4⟩ := ((Stp.allocG (n := w.heap.size) (j := 4) (o := .cells #[.int .i64 0] 3) (Stp.refl (· = 4) c w) (by simp)).trans st4).name
  rw [← he4.out] at r4
  clear b0
  have q0 := (HB.out.stp A4.out (by decide)).cell 0
  have q1 := (HB.out.stp A4.out (by decide)).cell 1
  have q2 := (HB.out.stp A4.out (by decide)).cell 2
  have f0 := (HB.out.stp A4.out (by decide)).free 0
  have hp := (HB.out.stp A4.out (by decide)).lt
  simp at q0 q1 q2
  have C4 : Stp (· = 3) e4 e4 w4 (w4.setCell ⟨p, 0, none⟩ (.slice ao4 (l.length + 1) cap4)) := (Stp.refl _ _ _).setCell _ (HB.out.stp A4.out (by decide)).1
  have S1 := Lib.hid ((S0.out.trans (A4.out.mono (J' := (fun j => 3 ≤ j ∧ j ≤ 6)) (fun _ h => by rw [h]; decide))).trans (C4.mono (J' := (fun j => 3 ≤ j ∧ j ≤ 6)) (fun _ h => by rw [h]; decide)))
  have HB' := Lib.hid (show Blk e4 3 (w4.setCell ⟨p, 0, none⟩ (.slice ao4 (l.length + 1) cap4)) p [.slice ao4 (l.length + 1) cap4, .slice ta l.length tc, .slice wa l.length wc] 152 from (HB.out.stp A4.out (by decide)).set 0 (.slice ao4 (l.length + 1) cap4))
  have RS' := Lib.hid (r4.stp C4 (by decide))
  have RT' := Lib.hid ((RT.out.stp A4.out (by decide)).stp C4 (by decide))
  have RW' := Lib.hid ((RW.out.stp A4.out (by decide)).stp C4 (by decide))
  clear HB RS RT RW r4 st4 he4 A4 C4
  have HB := HB'
  have RS := RS'
  have RT := RT'
  have RW := RW'
  clear HB' RS' RT' RW'
  go_wp2_with (at_builtin; refine wpList_append_row _ rfl (.tmp 22) (.tmp 23) 150 rfl (paint e4 w4.heap.size 5) 5 4 (.bool false) 1 1 Tryz.underlying150 Tryz.infoBool rfl ta l.length tc (l.map tkOf) rfl (RT.out.allocG (by simp)) _ 1 [.bool false] rfl (Src.oneAt (by simp)) (by simp [Value.oneCell']) d2.out d4.out ?_)
  intro ao5 cap5 w5 r5 st5 _
  obtain ⟨e5, he5, A5⟩ := ((Stp.allocG (n := w4.heap.size) (j := 5) (o := .cells #[.bool false] 4) (Stp.refl (· = 5) e4 (w4.setCell ⟨p, 0, none⟩ (.slice ao4 (l.length + 1) cap4))) (by simp)).trans st5).name
  rw [← he5.out] at r5
  clear q0 q1 q2 f0 hp
  have q0 := (HB.out.stp A5.out (by decide)).cell 0
  have q1 := (HB.out.stp A5.out (by decide)).cell 1
  have q2 := (HB.out.stp A5.out (by decide)).cell 2
  have f0 := (HB.out.stp A5.out (by decide)).free 1
  have hp := (HB.out.stp A5.out (by decide)).lt
  simp at q0 q1 q2
  have C5 : Stp (· = 3) e5 e5 w5 (w5.setCell ⟨p, 1, none⟩ (.slice ao5 (l.length + 1) cap5)) := (Stp.refl _ _ _).setCell _ (HB.out.stp A5.out (by decide)).1
  have S2 := Lib.hid ((S1.out.trans (A5.out.mono (J' := (fun j => 3 ≤ j ∧ j ≤ 6)) (fun _ h => by rw [h]; decide))).trans (C5.mono (J' := (fun j => 3 ≤ j ∧ j ≤ 6)) (fun _ h => by rw [h]; decide)))
  have HB' := Lib.hid (show Blk e5 3 (w5.setCell ⟨p, 1, none⟩ (.slice ao5 (l.length + 1) cap5)) p [.slice ao4 (l.length + 1) cap4, .slice ao5 (l.length + 1) cap5, .slice wa l.length wc] 152 from (HB.out.stp A5.out (by decide)).set 1 (.slice ao5 (l.length + 1) cap5))
  have RS' := Lib.hid ((RS.out.stp A5.out (by decide)).stp C5 (by decide))
  have RT' := Lib.hid (r5.stp C5 (by decide))
  have RW' := Lib.hid ((RW.out.stp A5.out (by decide)).stp C5 (by decide))
  clear HB RS RT RW r5 st5 he5 A5 C5
  have HB := HB'
  have RS := RS'
  have RT := RT'
  have RW := RW'
  clear HB' RS' RT' RW'
  go_wp2_with (at_builtin; refine wpList_append_row _ rfl (.tmp 31) (.tmp 32) 29 rfl (paint e5 w5.heap.size 6) 6 3 (.int .i64 0) 1 8 Tryz.underlying29 Tryz.infoInt rfl wa l.length wc (l.map wkOf) rfl (RW.out.allocG (by simp)) _ 1 [.int .i64 0] rfl (Src.oneAt (by simp)) (by simp [Value.oneCell']) d2.out d3.out ?_)
  intro ao6 cap6 w6 r6 st6 _
  obtain ⟨e6, he6, A6⟩ := ((Stp.allocG (n := w5.heap.size) (j := 6) (o := .cells #[.int .i64 0] 3) (Stp.refl (· = 6) e5 (w5.setCell ⟨p, 1, none⟩ (.slice ao5 (l.length + 1) cap5))) (by simp)).trans st6).name
  rw [← he6.out] at r6
  clear q0 q1 q2 f0 hp
  have q0 := (HB.out.stp A6.out (by decide)).cell 0
  have q1 := (HB.out.stp A6.out (by decide)).cell 1
  have q2 := (HB.out.stp A6.out (by decide)).cell 2
  have f0 := (HB.out.stp A6.out (by decide)).free 2
  have hp := (HB.out.stp A6.out (by decide)).lt
  simp at q0 q1 q2
  have C6 : Stp (· = 3) e6 e6 w6 (w6.setCell ⟨p, 2, none⟩ (.slice ao6 (l.length + 1) cap6)) := (Stp.refl _ _ _).setCell _ (HB.out.stp A6.out (by decide)).1
  have S3 := Lib.hid ((S2.out.trans (A6.out.mono (J' := (fun j => 3 ≤ j ∧ j ≤ 6)) (fun _ h => by rw [h]; decide))).trans (C6.mono (J' := (fun j => 3 ≤ j ∧ j ≤ 6)) (fun _ h => by rw [h]; decide)))
  have HB' := Lib.hid (show Blk e6 3 (w6.setCell ⟨p, 2, none⟩ (.slice ao6 (l.length + 1) cap6)) p [.slice ao4 (l.length + 1) cap4, .slice ao5 (l.length + 1) cap5, .slice ao6 (l.length + 1) cap6] 152 from (HB.out.stp A6.out (by decide)).set 2 (.slice ao6 (l.length + 1) cap6))
  have RS' := Lib.hid ((RS.out.stp A6.out (by decide)).stp C6 (by decide))
  have RT' := Lib.hid ((RT.out.stp A6.out (by decide)).stp C6 (by decide))
  have RW' := Lib.hid (r6.stp C6 (by decide))
  clear HB RS RT RW r6 st6 he6 A6 C6
  have HB := HB'
  have RS := RS'
  have RT := RT'
  have RW := RW'
  clear HB' RS' RT' RW'
  go_wp2
  go_ret
  exact ⟨rfl, e6, S3.out, ao4, ao5, ao6, cap4, cap5, cap6, by simpa using HB.out, by simpa [stOf] using RS.out, by simpa [tkOf] using RT.out, by simpa [wkOf] using RW.out⟩
end Go.Proofs.YtiphdedfbafhkaaGreatDoor

namespace Go.Proofs.YtiphdedfbafhkaaGreatDoor
open Go.RowKit

theorem Tryz.infoRTimer : (Tryz.prog.info? 249).map (fun i => (i.zero, i.size, i.bytes)) = some (some (.agg #[.int .i64 0, .int .i64 0]), 2, 16) := by kernel_rfl

theorem lstTo_lt (m : List Tm) : ∀ j, j ≤ m.length → lstTo m j < j ∧ -1 ≤ lstTo m j
  | 0, _ => by simp [lstTo]
  | j + 1, h => by
    have := lstTo_lt m j (by omega)
    unfold lstTo
    split
    · omega
    · omega

theorem In.tm {c : Nat → Nat} {k : Nat} {w : World} {ao : Option Addr} {n cap : Nat} {m : List Tm} (h : In c k w 2 ao n cap (m.flatMap Tm.cells)) {j : Nat} {x : Tm} (hx : m[j]? = some x) :
    ∃ a, ao = some a ∧ w.cell? (a.add (j * 2)) = some (.int .i64 x.at_) ∧ w.cell? ⟨(a.add (j * 2)).block, (a.add (j * 2)).off + 1, none⟩ = some (.int .i64 x.who) := by
  obtain ⟨a, ha, y0⟩ := h.field Tm.len hx (f := 0) (v := .int .i64 x.at_) rfl
  obtain ⟨a1, ha1, y1⟩ := h.field Tm.len hx (f := 1) (v := .int .i64 x.who) rfl
  subst ha
  cases ha1
  rw [Nat.add_zero] at y0
  refine ⟨a, rfl, y0, ?_⟩
  rw [← add_add'] at y1
  exact y1

set_option maxRecDepth 100000 in
theorem r04least_any {c : Nat → Nat} {k : Nat} {w : World} {ao : Option Addr} {n cap : Nat} {m : List Tm} (h : In c k w 2 ao n cap (m.flatMap Tm.cells)) (hln : m.length = n) :
    Calls Tryz.prog 146 #[.slice ao n cap] w fun e w' => e = .returned (.int .i64 (lstTo m n)) ∧ Stp (fun _ => False) c c w w' := by
  have hm : n ≤ 9223372036854775807 := by have h1 := h.2.1; have h2 := h.2.2.1; simp only [maxLen] at h2; omega
  have H := Lib.hid h
  have Hl := Lib.hid hln
  clear h hln
  go_enter Tryz.func146, Tryz.ntmps146
  go_wp2
  go_loopw [3, 4] (fun av iv wr => ∃ j : Nat, av = .int .i64 (lstTo m j) ∧ iv = .int .i64 j ∧ j ≤ n ∧ Stp (fun _ => False) c c w wr) (fun _ iv _ => n - (intOf iv).toNat)
  case atStart => exact ⟨0, rfl, rfl, Nat.zero_le _, Stp.refl _ _ _⟩
  case round =>
    obtain ⟨j, rfl, rfl, hj, st⟩ := hrel
    have St := Lib.hid st
    have hIn := H.out.stp st id
    clear st
    by_cases hlt : j < n
    · have hjl : j < m.length := by rw [Hl.out]; exact hlt
      have hb := lstTo_lt m j (by omega)
      obtain ⟨x, hx⟩ : ∃ x, m[j]? = some x := ⟨_, List.getElem?_eq_getElem hjl⟩
      have hgx : m.getD j ⟨0, 0⟩ = x := by simp [List.getD, hx]
      obtain ⟨a, rfl, y0, -⟩ := hIn.tm hx
      obtain ⟨A, hA⟩ : ∃ A, A = lstTo m j := ⟨_, rfl⟩
      rw [← hA] at hb
      by_cases hneg : A < 0
      · have Hs := Lib.hid (show lstTo m (j + 1) = (j : Int) by rw [lstTo, ← hA, if_pos (.inl hneg)])
        have t0 : decide (A < 0) = true := by simpa using hneg
        have HA := Lib.hid hA
        rw [← hA]
        clear hx hgx hA hb hneg hIn
        go_wp2_with fail
        go_quiet (fail)
        go_wp2
        go_roundw
        case rel => exact ⟨j + 1, by rw [Hs.out], by go_num, by omega, St.out.drewN nq⟩
        case measure => simp [intOf]; omega
      · obtain ⟨i, hi⟩ : ∃ i : Nat, A = i := ⟨A.toNat, by omega⟩
        subst hi
        have hil : i < m.length := by omega
        obtain ⟨z, hz⟩ : ∃ z, m[i]? = some z := ⟨_, List.getElem?_eq_getElem hil⟩
        have hgz : m.getD i ⟨0, 0⟩ = z := by simp [List.getD, hz]
        obtain ⟨a', ha', z0, -⟩ := hIn.tm hz
        cases ha'
        have hin : i < n := by omega
        have t0 : decide ((i : Int) < 0) = false := by simp
        by_cases hc : x.at_ < z.at_
        · have Hs := Lib.hid (show lstTo m (j + 1) = (j : Int) by rw [lstTo, ← hA, if_pos (.inr (by rw [hgx, Int.toNat_natCast, hgz]; exact hc))])
          have t1 : decide (x.at_ < z.at_) = true := by simpa using hc
          rw [← hA]
          clear hx hgx hA hb hneg hIn hz hgz hc
          go_wp2_with fail
          go_quiet (fail)
          go_wp2
          go_roundw
          case rel => exact ⟨j + 1, by rw [Hs.out], by go_num, by omega, St.out.drewN nq⟩
          case measure => simp [intOf]; omega
        · have Hs := Lib.hid (show lstTo m (j + 1) = (i : Int) by
            rw [lstTo, ← hA, if_neg (fun h => by
              rcases h with h | h
              · omega
              · rw [hgx, Int.toNat_natCast, hgz] at h; exact hc h)])
          have t1 : decide (x.at_ < z.at_) = false := by simpa using hc
          rw [← hA]
          clear hx hgx hA hb hneg hIn hz hgz hc
          go_wp2_with fail
          go_quiet (fail)
          go_wp2
          go_roundw
          case rel => exact ⟨j + 1, by rw [Hs.out], by go_num, by omega, St.out.drewN nq⟩
          case measure => simp [intOf]; omega
    · obtain rfl : j = n := by omega
      clear hIn
      go_wp2
      go_ret
      exact ⟨rfl, St.out⟩

set_option maxRecDepth 100000 in
theorem r04set_ok {c : Nat → Nat} {k : Nat} {w : World} {ao : Option Addr} {n cap : Nat} {m : List Tm} (h : In c k w 2 ao n cap (m.flatMap Tm.cells)) (hln : m.length = n) (k2 : Nat) (now at_ who : Int) (h0 : now < at_) (h1 : at_ ≤ 1099511627776) (h2 : 0 ≤ who) (h3 : who < 64) (h4 : n < 64) :
    Calls Tryz.prog 129 #[.agg #[.int .i64 now, .slice ao n cap], .int .i64 at_, .int .i64 who] w fun e w' => ∃ ao' cap', e = .returned (.tuple #[.agg #[.int .i64 now, .slice ao' (n + 1) cap'], .int .i64 0]) ∧ ∃ c', Stp (· = k2) c c' w w' ∧ Row c' k2 w' 249 2 ao' (n + 1) cap' ((m ++ [(⟨at_, who⟩ : Tm)]).flatMap Tm.cells) := by
  obtain ⟨c2, hc2, A2⟩ := (((Stp.refl (fun _ => False) c w).alloc (.cells #[.int .i64 now, .slice ao n cap] 155) (k2 + 1)).alloc (.cells #[.int .i64 0, .slice none 0 0] 155) (k2 + 1)).name
  obtain ⟨W2, hW2⟩ : ∃ W2 : World, W2 = (w.alloc (.cells #[.int .i64 now, .slice ao n cap] 155)).alloc (.cells #[.int .i64 0, .slice none 0 0] 155) := ⟨_, rfl⟩
  have P2 := Lib.hid (show Blk c2 (k2 + 1) W2 w.heap.size [.int .i64 now, .slice ao n cap] 155 by rw [hc2.out, hW2]; exact (Blk.new c (k2 + 1) w _ _).alloc _ (k2 + 1))
  have Q2 := Lib.hid (show Blk c2 (k2 + 1) W2 (w.heap.size + 1) [.int .i64 0, .slice none 0 0] 155 by rw [hc2.out, hW2]; simpa using (Blk.new (paint c w.heap.size (k2 + 1)) (k2 + 1) (w.alloc (.cells #[.int .i64 now, .slice ao n cap] 155)) [.int .i64 0, .slice none 0 0] 155))
  rw [← hW2] at A2
  have H2 := Lib.hid (h.stp A2.out (fun hh => hh))
  have t0 : decide (at_ ≤ now) = false := by simp; omega
  have t1 : decide ((1099511627776 : Int) < at_) = false := by simp; omega
  have t2 : decide (who < 0) = false := by simp; omega
  have t3 : decide ((63 : Int) < who) = false := by simp; omega
  have t4 : decide ((64 : Int) ≤ (n : Int)) = false := by simp; omega
  have d1 : Hid (0 + n ≤ maxLen) := Lib.hid (by unfold maxLen; omega)
  have d2 : Hid ((0 + n) * 16 ≤ 140737488355328) := Lib.hid (by omega)
  have d3 : Hid (n + 1 ≤ maxLen) := Lib.hid (by unfold maxLen; omega)
  have d4 : Hid ((n + 1) * 16 ≤ 140737488355328) := Lib.hid (by omega)
  clear h hln h0 h1 h2 h3 h4 hc2
  go_enter Tryz.func129, Tryz.ntmps129
  go_wp2_with (at_builtin; rw [← hW2]; refine wpList_append_row _ rfl (.tmp 30) (.tmp 32) 153 rfl c2 k2 249 (.agg #[.int .i64 0, .int .i64 0]) 2 16 Tryz.underlying153 Tryz.infoRTimer rfl none 0 0 [] rfl (Row.nil _ _ _ _ _) _ n (m.flatMap Tm.cells) rfl H2.out.src (tm_one _) d1.out d2.out ?_)
  intro ao1 cap1 w1 hr1 st1 ot1
  rw [← hW2] at st1 ot1
  clear hW2
  obtain ⟨c3, hc3, A3⟩ := (st1.ofOthers ot1).name
  rw [← hc3.out] at hr1
  have R1 := Lib.hid (show Row c3 k2 w1 249 2 ao1 n cap1 (m.flatMap Tm.cells) by simpa using hr1)
  have q0 := (P2.out.stp A3.out (fun hh => hh)).cell 0
  have z0 := (Q2.out.stp A3.out (fun hh => hh)).cell 0
  have z1 := (Q2.out.stp A3.out (fun hh => hh)).cell 1
  have f0 := (Q2.out.stp A3.out (fun hh => hh)).free 0
  have f1 := (Q2.out.stp A3.out (fun hh => hh)).free 1
  simp at q0 z0 z1
  have hlt := (Q2.out.stp A3.out (fun hh => hh)).lt
  have hlt0 := (P2.out.stp A3.out (fun hh => hh)).lt
  have B1 := Lib.hid (P2.out.stp A3.out (fun hh => hh))
  have E1 := Lib.hid (Q2.out.stp A3.out (fun hh => hh))
  clear hr1 st1 ot1 hc3
  go_wp2_with fail
  go_region_law (refine step_row rfl (.tmp 36) (.tmp 40) 153 rfl _ k2 249 (.agg #[.int .i64 0, .int .i64 0]) 2 16 Tryz.underlying153 Tryz.infoRTimer rfl ao1 n cap1 (m.flatMap Tm.cells) (by simp [Act.eval]) (R1.out.drew.alloc _ k2) _ 1 [.int .i64 at_, .int .i64 who] rfl (Src.newAt (cs := [.int .i64 at_, .int .i64 who]) (by simp) rfl) (by simp [Value.oneCell']) d3.out d4.out ?_; intro ao2 cap2 w3 hr3 st3 ot3; have hE := (E1.out.drew.alloc (.cells #[.int .i64 at_, .int .i64 who] 249) k2).stp st3 (show ¬ (k2 + 1 = k2) by omega); have u0 := hE.cell 0; have u1 := hE.cell 1; have v0 := hE.free 0; have v1 := hE.free 1; have hB := (B1.out.drew.alloc (.cells #[.int .i64 at_, .int .i64 who] 249) k2).stp st3 (show ¬ (k2 + 1 = k2) by omega); have u2 := hB.cell 0; simp at u0 u1 u2)
  all_goals
    have S3 := Lib.hid ((((A2.out.trans A3.out).mono (J' := (· = k2)) (fun _ h => h.elim)).drew.alloc (.cells #[.int .i64 at_, .int .i64 who] 249) k2).trans st3)
    have R3 := Lib.hid hr3
    have E3 := Lib.hid hE
    clear hr3 st3 ot3 hE hB u2 q0 z0 z1 f0 f1
    go_wp2
    refine bodyPost_ret (v := .tuple #[.agg #[.int .i64 now, .slice ao2 (n + 1) cap2], .int .i64 0]) (by simp [results, Tryz.results129, go_sem, u0, u1]) rfl ⟨ao2, cap2, rfl, _, (S3.out.setNew (p := ⟨w.heap.size + 1, 0, none⟩) _ (by simp)).setNew (p := ⟨w.heap.size + 1, 1, none⟩) _ (by simp), ?_⟩
    have r := (R3.out.other (p := ⟨w.heap.size + 1, 0, none⟩) (.int .i64 now) (R3.out.ne_blk E3.out (by decide)) rfl).other (p := ⟨w.heap.size + 1, 1, none⟩) (.slice ao2 (n + 1) cap2) (R3.out.ne_blk E3.out (by decide)) rfl
    simpa [Tm.cells] using r
end Go.Proofs.YtiphdedfbafhkaaGreatDoor

namespace Go.Proofs.YtiphdedfbafhkaaGreatDoor
open Go.RowKit

def RDropRel (c : Nat → Nat) (k k2 : Nat) (w : World) (b0 b1 : Nat) (now : Int) (ao : Option Addr) (n cap : Nat) (m : List Tm) (x : Int) (v iv : Value) (wr : World) : Prop :=
  ∃ (c' : Nat → Nat) (oo : Option Addr) (oc N j : Nat), v = .slice oo N oc ∧ iv = .int .i64 j ∧ j ≤ n ∧ N = ((m.take j).filter (stays x)).length ∧ Row c' k2 wr 249 2 oo N oc (((m.take j).filter (stays x)).flatMap Tm.cells) ∧
    Blk c' (k2 + 1) wr b0 [.int .i64 now, .slice ao n cap] 155 ∧ Blk c' (k2 + 1) wr b1 [.int .i64 0, .slice none 0 0] 155 ∧ In c' k wr 2 ao n cap (m.flatMap Tm.cells) ∧ Stp (· = k2) c c' w wr

set_option maxRecDepth 100000 in
set_option maxHeartbeats 2000000 in
theorem r04drop_any {c : Nat → Nat} {k : Nat} {w : World} {ao : Option Addr} {n cap : Nat} {m : List Tm} (h : In c k w 2 ao n cap (m.flatMap Tm.cells)) (hln : m.length = n) (k2 : Nat) (hk : k ≠ k2) (hn : n ≤ 1000) (now x : Int) :
    Calls Tryz.prog 128 #[.agg #[.int .i64 now, .slice ao n cap], .int .i64 x] w fun e w' => ∃ ao' N cap', e = .returned (.tuple #[.agg #[.int .i64 now, .slice ao' N cap'], .int .i64 ((n : Int) - N)]) ∧ N = (m.filter (stays x)).length ∧ ∃ c', Stp (· = k2) c c' w w' ∧ Row c' k2 w' 249 2 ao' N cap' ((m.filter (stays x)).flatMap Tm.cells) := by
  obtain ⟨c2, hc2, A2⟩ := (((Stp.refl (fun _ => False) c w).alloc (.cells #[.int .i64 now, .slice ao n cap] 155) (k2 + 1)).alloc (.cells #[.int .i64 0, .slice none 0 0] 155) (k2 + 1)).name
  have P2 := Lib.hid (show Blk c2 (k2 + 1) ((w.alloc (.cells #[.int .i64 now, .slice ao n cap] 155)).alloc (.cells #[.int .i64 0, .slice none 0 0] 155)) w.heap.size [.int .i64 now, .slice ao n cap] 155 by rw [hc2.out]; exact (Blk.new c (k2 + 1) w _ _).alloc _ (k2 + 1))
  have Q2 := Lib.hid (show Blk c2 (k2 + 1) ((w.alloc (.cells #[.int .i64 now, .slice ao n cap] 155)).alloc (.cells #[.int .i64 0, .slice none 0 0] 155)) (w.heap.size + 1) [.int .i64 0, .slice none 0 0] 155 by rw [hc2.out]; simpa using (Blk.new (paint c w.heap.size (k2 + 1)) (k2 + 1) (w.alloc (.cells #[.int .i64 now, .slice ao n cap] 155)) [.int .i64 0, .slice none 0 0] 155))
  have H2 := Lib.hid (h.stp A2.out (fun hh => hh))
  have Hn := Lib.hid hn
  have Hln := Lib.hid hln
  clear h hln hc2 hn
  go_enter Tryz.func128, Tryz.ntmps128
  go_wp2_with fail
  go_loopw [6, 7] (fun v iv wr => RDropRel c k k2 w w.heap.size (w.heap.size + 1) now ao n cap m x v iv wr) (fun _ iv _ => n - (intOf iv).toNat)
  case atStart => exact ⟨c2, none, 0, 0, 0, rfl, rfl, Nat.zero_le _, rfl, Row.nil _ _ _ _ _, P2.out, Q2.out, H2.out, A2.out.mono (fun _ h => h.elim)⟩
  case round =>
    obtain ⟨c3, oo, oc, N, j, rfl, rfl, hj, hN, hrow, hp, hq, hin, st⟩ := hrel
    have R := Lib.hid hrow
    have P := Lib.hid hp
    have Q := Lib.hid hq
    have I := Lib.hid hin
    have St := Lib.hid st
    have HN := Lib.hid hN
    have b0 := hp.cell 0
    have b1 := hp.cell 1
    have hlt1 := hp.lt
    have hlt2 := hq.lt
    simp at b0 b1
    clear hrow hp hq hin st hN P2 Q2 H2 A2
    by_cases hlt : j < n
    · obtain ⟨y, hy⟩ : ∃ y, m[j]? = some y := ⟨_, List.getElem?_eq_getElem (by rw [Hln.out]; exact hlt)⟩
      obtain ⟨a, rfl, y0, y1⟩ := I.out.tm hy
      have Hf : Hid ((m.take (j + 1)).filter (stays x) = (m.take j).filter (stays x) ++ (if stays x y then [y] else [])) := Lib.hid (by
        rw [List.take_add_one, hy, List.filter_append]
        by_cases hs : stays x y = true <;> simp [hs])
      have hNj : Hid (N ≤ 1000) := Lib.hid (by
        rw [HN.out]
        have h1 := List.length_filter_le (stays x) (m.take j)
        have h2 : (m.take j).length ≤ j := by rw [List.length_take]; omega
        have := Hn.out
        omega)
      clear hy
      by_cases hs : y.who = x
      · have t1 : (y.who != x) = false := by simpa using hs
        have Hs := Lib.hid (show stays x y = false by simp [stays, hs])
        clear hs
        have hn9 : n ≤ 1000 := Hn.out
        go_wp2
        go_roundw
        case rel => exact ⟨c3, oo, oc, N, j + 1, rfl, by go_num, by omega, by rw [Hf.out, Hs.out]; simpa using HN.out, by rw [Hf.out, Hs.out]; simpa using R.out, P.out, Q.out, I.out, St.out⟩
        case measure => simp [intOf]; omega
      · have t1 : (y.who != x) = true := by simpa using hs
        have Hs := Lib.hid (show stays x y = true by simp [stays, hs])
        have d1 : Hid (N + 1 ≤ maxLen) := Lib.hid (by have := hNj.out; unfold maxLen; omega)
        have d2 : Hid ((N + 1) * 16 ≤ 140737488355328) := Lib.hid (by have := hNj.out; omega)
        clear hs
        go_wp2_with (at_builtin; refine wpList_append_row _ rfl (.tmp 23) (.tmp 29) 153 rfl (paint c3 wr.heap.size k2) k2 249 (.agg #[.int .i64 0, .int .i64 0]) 2 16 Tryz.underlying153 Tryz.infoRTimer rfl oo N oc (((m.take j).filter (stays x)).flatMap Tm.cells) rfl (R.out.alloc _ k2) (.slice (some ⟨wr.heap.size, 0, none⟩) 1 1) 1 [.int .i64 y.at_, .int .i64 y.who] rfl (Src.new wr 2 1 [.int .i64 y.at_, .int .i64 y.who] 249 rfl) (by simp [Value.oneCell']) d1.out d2.out ?_)
        intro oo2 oc2 w2 hr2 st2 _
        have R2 := Lib.hid hr2
        have s2 := ((Stp.refl (· = k2) c3 wr).alloc (.cells #[.int .i64 y.at_, .int .i64 y.who] 249) k2).trans st2
        have S2 := Lib.hid s2
        clear hr2 st2 y0 y1 b0 b1 s2
        have hn9 : n ≤ 1000 := Hn.out
        go_wp2
        go_roundw
        case rel => exact ⟨_, oo2, oc2, N + 1, j + 1, rfl, by go_num, by omega, by rw [Hf.out, Hs.out, List.length_append, ← HN.out]; rfl, by rw [Hf.out, Hs.out]; simpa [Tm.cells] using R2.out, P.out.stp S2.out (by omega), Q.out.stp S2.out (by omega), I.out.stp S2.out hk, St.out.trans S2.out⟩
        case measure => simp [intOf]; omega
    · obtain rfl : j = n := by omega
      have e : (m.take j).filter (stays x) = m.filter (stays x) := by rw [List.take_of_length_le (by rw [Hln.out]; exact Nat.le_refl _)]
      have He := Lib.hid e
      have z0 := Q.out.cell 0
      have z1 := Q.out.cell 1
      have f0 := Q.out.free 0
      have f1 := Q.out.free 1
      simp at z0 z1
      have HNj : N ≤ j := by
        rw [HN.out, e, ← Hln.out]
        exact List.length_filter_le _ _
      have W : wrap64 ((j : Int) - N) = (j : Int) - N := IntWalk.wrap64_in _ (by have := Hn.out; constructor <;> omega)
      clear e
      go_wp2_with fail
      go_region
      all_goals
        go_wp2
        refine bodyPost_ret (v := .tuple #[.agg #[.int .i64 now, .slice oo N oc], .int .i64 ((j : Int) - N)]) (by simp [results, Tryz.results128, go_sem, z0, z1, W]) rfl ⟨oo, N, oc, rfl, by rw [HN.out, He.out], c3, ((St.out.setNew (p := ⟨w.heap.size + 1, 0, none⟩) _ (by simp)).setNew (p := ⟨w.heap.size + 1, 1, none⟩) _ (by simp)).drew, ?_⟩
        have r := (R.out.other (p := ⟨w.heap.size + 1, 0, none⟩) (.int .i64 now) (R.out.ne_blk Q.out (by decide)) rfl).other (p := ⟨w.heap.size + 1, 1, none⟩) (.slice oo N oc) (R.out.ne_blk Q.out (by decide)) rfl
        rw [He.out] at r
        exact r
end Go.Proofs.YtiphdedfbafhkaaGreatDoor

namespace Go.Proofs.YtiphdedfbafhkaaGreatDoor
open Go.RowKit

theorem r04tick_bad {c : Nat → Nat} {w : World} (ao : Option Addr) (n cap : Nat) (now d er : Int) (hn : 0 ≤ now ∧ now ≤ 1099511627776) (he : (d < 1 ∧ er = 1) ∨ (1 ≤ d ∧ 1099511627776 - now < d ∧ er = 5)) :
    Calls Tryz.prog 131 #[.agg #[.int .i64 now, .slice ao n cap], .int .i64 d] w fun e w' => e = .returned (.tuple #[.agg #[.int .i64 now, .slice ao n cap], .slice none 0 0, .int .i64 er]) ∧ ∃ c', Stp (fun _ => False) c c' w w' := by
  have W : wrap64 (1099511627776 - now) = 1099511627776 - now := IntWalk.wrap64_in _ ⟨by omega, by omega⟩
  rcases (show (decide (d < 1) = true ∧ er = 1) ∨ (decide (d < 1) = false ∧ decide (1099511627776 - now < d) = true ∧ er = 5) by
    rcases he with ⟨h1, h2⟩ | ⟨h1, h2, h3⟩
    · exact .inl ⟨by simpa using h1, h2⟩
    · exact .inr ⟨by simp; omega, by simpa using h2, h3⟩) with ⟨t1, e⟩ | ⟨t1, t2, e⟩
  all_goals
    subst e
    clear he hn
    go_enter Tryz.func131, Tryz.ntmps131
    go_wp2
    exact bodyPost_ret (v := .tuple #[.agg #[.int .i64 now, .slice ao n cap], .slice none 0 0, .int .i64 _]) (by simp [results, Tryz.results131, go_sem]) rfl ⟨rfl, _, ((Stp.refl (fun _ => False) c w).alloc _ 0).alloc _ 0⟩

def TJ (k2 kr : Nat) (j : Nat) : Prop := j = k2 ∨ j = kr

def RTickRel (c : Nat → Nat) (k k2 kr : Nat) (w : World) (b0 b1 : Nat) (now : Int) (m : List Tm) (v : Value) (wr : World) : Prop :=
  ∃ (c' : Nat → Nat) (K : Nat) (mm wk : List Tm) (ao : Option Addr) (n cap : Nat) (oo : Option Addr) (oc N : Nat), v = .slice oo N oc ∧ (K = k ∨ K = k2) ∧ N + n = m.length ∧ mm.length = n ∧ srt m = wk ++ srt mm ∧ (∀ t ∈ wk, t.at_ ≤ now) ∧
    Row c' kr wr 3 1 oo N oc (wk.map fun x : Tm => Value.int .i64 x.who) ∧ Blk c' (k2 + 1) wr b0 [.int .i64 now, .slice ao n cap] 155 ∧ Blk c' (k2 + 1) wr b1 [.int .i64 0, .slice none 0 0] 155 ∧
    In c' K wr 2 ao n cap (mm.flatMap Tm.cells) ∧ Stp (TJ k2 kr) c c' w wr

theorem tick_end {m wk mm : List Tm} {now : Int} (h : srt m = wk ++ srt mm) (hw : ∀ t ∈ wk, t.at_ ≤ now) (hm : ∀ y r, srt mm = y :: r → ¬ y.at_ ≤ now) :
    (srt m).takeWhile (fun x => decide (x.at_ ≤ now)) = wk ∧ (srt m).dropWhile (fun x => decide (x.at_ ≤ now)) = srt mm := by
  have hd : (srt mm).takeWhile (fun x => decide (x.at_ ≤ now)) = [] ∧ (srt mm).dropWhile (fun x => decide (x.at_ ≤ now)) = srt mm := by
    cases hq : srt mm with
    | nil => simp
    | cons y r => simp [hm y r hq]
  have ht : ∀ x ∈ wk, decide (x.at_ ≤ now) = true := fun x hx => by simpa using hw x hx
  rw [h, List.takeWhile_append_of_pos ht, List.dropWhile_append_of_pos ht, hd.1, hd.2, List.append_nil]
  exact ⟨rfl, rfl⟩

theorem tick_fin {c c3 : Nat → Nat} {k K k2 kr : Nat} {w w1 : World} {m wk mm : List Tm} {now x : Int} {ao1 oo : Option Addr} {n1 cap1 N oc : Nat} {V1 V2 v1 v2 : Value} (hk4 : k ≠ k2 + 1) (hK : K = k ∨ K = k2) (hr : Row c3 kr w1 3 1 oo N oc (wk.map fun x : Tm => Value.int .i64 x.who))
    (hi : In c3 K w1 2 ao1 n1 cap1 (mm.flatMap Tm.cells)) (hq : Blk c3 (k2 + 1) w1 (w.heap.size + 1) [v1, v2] 155) (st : Stp (TJ k2 kr) c c3 w w1) (hmn : mm.length = n1)
    (h : srt m = wk ++ srt mm) (hw : ∀ t ∈ wk, t.at_ ≤ now) (hm : ∀ y r, srt mm = y :: r → ¬ y.at_ ≤ now) (q : Nat) :
    ∃ ao' n' cap' oo' N' oc' mm' K', Ending.returned (.tuple #[.agg #[.int .i64 x, .slice ao1 n1 cap1], .slice oo N oc, .int .i64 0]) = .returned (.tuple #[.agg #[.int .i64 x, .slice ao' n' cap'], .slice oo' N' oc', .int .i64 0]) ∧ mm'.length = n' ∧ (K' = k ∨ K' = k2) ∧
      srt mm' = (srt m).dropWhile (fun x => decide (x.at_ ≤ now)) ∧ ∃ c', Stp (TJ k2 kr) c c' w (((w1.drewN q).setCell ⟨w.heap.size + 1, 0, none⟩ V1).setCell ⟨w.heap.size + 1, 1, none⟩ V2) ∧ In c' K' (((w1.drewN q).setCell ⟨w.heap.size + 1, 0, none⟩ V1).setCell ⟨w.heap.size + 1, 1, none⟩ V2) 2 ao' n' cap' (mm'.flatMap Tm.cells) ∧
        Row c' kr (((w1.drewN q).setCell ⟨w.heap.size + 1, 0, none⟩ V1).setCell ⟨w.heap.size + 1, 1, none⟩ V2) 3 1 oo' N' oc' (((srt m).takeWhile (fun x => decide (x.at_ ≤ now))).map fun x : Tm => Value.int .i64 x.who) := by
  obtain ⟨e1, e2⟩ := tick_end h hw hm
  have s2 := (((Stp.refl (· = k2 + 1) c3 w1).drewN q).setCell (p := ⟨w.heap.size + 1, 0, none⟩) V1 hq.1).setCell (p := ⟨w.heap.size + 1, 1, none⟩) V2 hq.1
  refine ⟨ao1, n1, cap1, oo, N, oc, mm, K, rfl, hmn, hK, e2.symm, c3, ((st.drewN q).setNew (p := ⟨w.heap.size + 1, 0, none⟩) _ (by simp)).setNew (p := ⟨w.heap.size + 1, 1, none⟩) _ (by simp), hi.stp s2 (by omega), ?_⟩
  rw [e1]
  exact (Row.other (Row.drewN hr q) (p := ⟨w.heap.size + 1, 0, none⟩) V1 (hr.ne_blk hq (by decide)) rfl).other (p := ⟨w.heap.size + 1, 1, none⟩) V2 (hr.ne_blk hq (by decide)) rfl

theorem tick_rel {c c6 : Nat → Nat} {k k2 kr : Nat} {w w4 : World} {now : Int} {m M wk : List Tm} {y : Tm} {ao1 ao4 oo : Option Addr} {n1 cap1 n4 cap4 N oc : Nat} (hr : Row c6 k2 w4 249 2 ao4 n4 cap4 (M.flatMap Tm.cells))
    (ho : Row c6 kr w4 3 1 oo (N + 1) oc (wk.map (fun x : Tm => Value.int .i64 x.who) ++ [.int .i64 y.who])) (hp : Blk c6 (k2 + 1) w4 w.heap.size [.int .i64 now, .slice ao1 n1 cap1] 155) (hq : Blk c6 (k2 + 1) w4 (w.heap.size + 1) [.int .i64 0, .slice none 0 0] 155)
    (st : Stp (TJ k2 kr) c c6 w w4) (h1 : N + 1 + n4 = m.length) (h2 : M.length = n4) (h3 : srt m = (wk ++ [y]) ++ srt M) (h4 : ∀ t ∈ wk ++ [y], t.at_ ≤ now) :
    RTickRel c k k2 kr w w.heap.size (w.heap.size + 1) now m (.slice oo (N + 1) oc) (w4.setCell ⟨w.heap.size, 1, none⟩ (.slice ao4 n4 cap4)) := by
  refine ⟨c6, k2, M, wk ++ [y], ao4, n4, cap4, oo, oc, N + 1, rfl, .inr rfl, h1, h2, h3, h4, ?_, by simpa using hp.set 1 (.slice ao4 n4 cap4), ?_, ?_, st.setNew (p := ⟨w.heap.size, 1, none⟩) _ (Nat.le_refl _)⟩
  · have := ho.other (p := ⟨w.heap.size, 1, none⟩) (.slice ao4 n4 cap4) (ho.ne_blk hp (by decide)) rfl
    simpa using this
  · exact hq.other _ (by simp)
  · exact (hr.other (p := ⟨w.heap.size, 1, none⟩) (.slice ao4 n4 cap4) (hr.ne_blk hp (by decide)) rfl).toIn

theorem meas_tick {N n1 i L : Nat} {oo oo2 : Option Addr} {oc oc2 : Nat} (h1 : N + n1 = L) (h2 : i + 1 ≤ n1) : L - lenOfV (.slice oo2 (N + 1) oc2) < L - lenOfV (.slice oo N oc) := by
  simp only [lenOfV]
  omega

set_option maxRecDepth 100000 in
set_option maxHeartbeats 4000000 in
theorem r04tick_ok {c : Nat → Nat} {k : Nat} {w : World} {ao : Option Addr} {n cap : Nat} {m : List Tm} (h : In c k w 2 ao n cap (m.flatMap Tm.cells)) (hln : m.length = n) (k2 kr : Nat) (hk : k ≠ kr) (hk2 : k2 ≠ kr) (hk3 : k2 + 1 ≠ kr) (hk4 : k ≠ k2 + 1) (hn : n ≤ 1000) (now d : Int) (hnow : 0 ≤ now) (hd : 1 ≤ d) (hd2 : d ≤ 1099511627776 - now) :
    Calls Tryz.prog 131 #[.agg #[.int .i64 now, .slice ao n cap], .int .i64 d] w fun e w' => ∃ ao' n' cap' oo N oc mm K, e = .returned (.tuple #[.agg #[.int .i64 (now + d), .slice ao' n' cap'], .slice oo N oc, .int .i64 0]) ∧ mm.length = n' ∧ (K = k ∨ K = k2) ∧
      srt mm = (srt m).dropWhile (fun x => decide (x.at_ ≤ now + d)) ∧ ∃ c', Stp (TJ k2 kr) c c' w w' ∧ In c' K w' 2 ao' n' cap' (mm.flatMap Tm.cells) ∧ Row c' kr w' 3 1 oo N oc (((srt m).takeWhile (fun x => decide (x.at_ ≤ now + d))).map fun x : Tm => Value.int .i64 x.who) := by
  have W : wrap64 (1099511627776 - now) = 1099511627776 - now := IntWalk.wrap64_in _ ⟨by omega, by omega⟩
  have W2 : wrap64 (now + d) = now + d := IntWalk.wrap64_in _ ⟨by omega, by omega⟩
  have t1 : decide (d < 1) = false := by simp; omega
  have t2 : decide (1099511627776 - now < d) = false := by simp; omega
  obtain ⟨now', hnow'⟩ : ∃ x, x = now + d := ⟨_, rfl⟩
  have W3 : wrap64 (now + d) = now' := by rw [W2, hnow']
  rw [← hnow']
  clear W2
  obtain ⟨c2, hc2, A2⟩ := (((Stp.refl (fun _ => False) c w).alloc (.cells #[.int .i64 now', .slice ao n cap] 155) (k2 + 1)).alloc (.cells #[.int .i64 0, .slice none 0 0] 155) (k2 + 1)).name
  have P2 := Lib.hid (show Blk c2 (k2 + 1) ((w.alloc (.cells #[.int .i64 now', .slice ao n cap] 155)).alloc (.cells #[.int .i64 0, .slice none 0 0] 155)) w.heap.size [.int .i64 now', .slice ao n cap] 155 by rw [hc2.out]; exact (Blk.new c (k2 + 1) w _ _).alloc _ (k2 + 1))
  have Q2 := Lib.hid (show Blk c2 (k2 + 1) ((w.alloc (.cells #[.int .i64 now', .slice ao n cap] 155)).alloc (.cells #[.int .i64 0, .slice none 0 0] 155)) (w.heap.size + 1) [.int .i64 0, .slice none 0 0] 155 by rw [hc2.out]; simpa using (Blk.new (paint c w.heap.size (k2 + 1)) (k2 + 1) (w.alloc (.cells #[.int .i64 now', .slice ao n cap] 155)) [.int .i64 0, .slice none 0 0] 155))
  have H2 := Lib.hid (h.stp A2.out (fun hh => hh))
  have Hn := Lib.hid (show m.length ≤ 1000 by omega)
  have Hln := Lib.hid hln
  clear h hln hc2 hn hnow hd hd2 hnow'
  go_enter Tryz.func131, Tryz.ntmps131
  go_wp2_with fail
  try simp only [W3]
  clear W W3
  go_loopw [7] (fun v wr => RTickRel c k k2 kr w w.heap.size (w.heap.size + 1) now' m v wr) (fun v _ => m.length - lenOfV v)
  case atStart => exact ⟨c2, k, m, [], ao, n, cap, none, 0, 0, rfl, .inl rfl, by rw [Hln.out]; exact Nat.zero_add _, Hln.out, rfl, by simp, Row.nil _ _ _ _ _, P2.out, Q2.out, H2.out, A2.out.mono (fun _ h => h.elim)⟩
  case round =>
    obtain ⟨c3, K, mm, wk, ao1, n1, cap1, oo, oc, N, rfl, hK, hNn, hmn, hsr, hwk, hrow, hp, hq, hin, st⟩ := hrel
    have R := Lib.hid hrow
    have P := Lib.hid hp
    have Q := Lib.hid hq
    have I := Lib.hid hin
    have St := Lib.hid st
    have HNn := Lib.hid hNn
    have Hmn := Lib.hid hmn
    have Hsr := Lib.hid hsr
    have Hwk := Lib.hid hwk
    have HK := Lib.hid hK
    have b0 := hp.cell 0
    have b1 := hp.cell 1
    have hlt1 := hp.lt
    have hlt2 := hq.lt
    simp at b0 b1
    clear hrow hp hq hin st P2 Q2 H2 A2 hsr hwk hNn hmn hK
    cases mm with
    | nil =>
      have hn0 := Hmn.out
      simp at hn0
      subst hn0
      have hL := Lib.hid ((r04least_any I.out rfl).mono (fun e w' h => (show e = .returned (.int .i64 (-1)) ∧ Stp (fun _ => False) c3 c3 wr w' from ⟨by simpa [lstTo] using h.1, h.2⟩)))
      clear b1
      have b1 := P.out.cell 1
      simp at b1
      go_wp2_with (go_at_call 146; refine hL.out.mono ?_; rintro e w1 ⟨rfl, s1⟩)
      have S1 := Lib.hid s1
      have hz1 := s1.size
      have p1 := P.out.stp s1 id
      have q1 := Q.out.stp s1 id
      have P1 := Lib.hid p1
      have Q1 := Lib.hid q1
      have x0 := p1.cell 0
      have x1 := p1.cell 1
      have y0 := q1.cell 0
      have y1 := q1.cell 1
      have f0 := q1.free 0
      have f1 := q1.free 1
      have hg1 := p1.lt
      have hg2 := q1.lt
      simp at x0 x1 y0 y1
      clear b0 b1 p1 q1 s1 hz1 hL
      have z1 : decide ((-1 : Int) < 0) = true := rfl
      go_wp2_with fail
      go_quiet (fail)
      go_wp2_with fail
      refine bodyPost_ret (v := .tuple #[.agg #[.int .i64 now', .slice ao1 0 cap1], .slice oo N oc, .int .i64 0]) (by simp [results, Tryz.results131, go_sem, y0, y1]) rfl ?_
      exact tick_fin hk4 HK.out (R.out.stp S1.out id) (I.out.stp S1.out id) Q1.out (St.out.trans (S1.out.mono fun _ h => h.elim)) rfl Hsr.out Hwk.out (by simp [srt]) nq
    | cons z zs =>
      obtain ⟨i, hi, hil, hh⟩ := least_head (m := z :: zs) (by simp)
      obtain ⟨M, hM⟩ : ∃ M, M = z :: zs := ⟨_, rfl⟩
      rw [← hM] at hi hil hh Hmn Hsr I
      clear hM
      obtain ⟨y, hy⟩ : ∃ y, M[i]? = some y := ⟨_, List.getElem?_eq_getElem hil⟩
      have hgy : M.getD i ⟨0, 0⟩ = y := by simp [List.getD, hy]
      rw [hgy] at hh
      rw [Hmn.out] at hi hil
      have hL := Lib.hid ((r04least_any I.out Hmn.out).mono (fun e w' h => (show e = .returned (.int .i64 (i : Int)) ∧ Stp (fun _ => False) c3 c3 wr w' from ⟨by rw [← hi]; exact h.1, h.2⟩)))
      go_wp2_with (go_at_call 146; refine hL.out.mono ?_; rintro e w1 ⟨rfl, s1⟩)
      have S1 := Lib.hid s1
      have p1 := P.out.stp s1 id
      have q1 := Q.out.stp s1 id
      have i1 := I.out.stp s1 id
      have r1 := R.out.stp s1 id
      have P1 := Lib.hid p1
      have Q1 := Lib.hid q1
      have I1 := Lib.hid i1
      have R1 := Lib.hid r1
      have x0 := p1.cell 0
      have x1 := p1.cell 1
      have y0 := q1.cell 0
      have y1 := q1.cell 1
      have f0 := q1.free 0
      have f1 := q1.free 1
      have hg1 := p1.lt
      have hg2 := q1.lt
      obtain ⟨a, rfl, v0, v1⟩ := i1.tm hy
      have Hh := Lib.hid hh
      have Hy := Lib.hid hy
      have z1 : decide ((i : Int) < 0) = false := by simp
      simp at x0 x1 y0 y1
      clear b0 b1 p1 q1 s1 hL i1 r1 P Q I R hh hy hgy hi
      by_cases hle : y.at_ ≤ now'
      · have z2 : decide (now' < y.at_) = false := by simpa using hle
        have Hle := Lib.hid hle
        clear hle
        have Hni : Hid (i + 1 ≤ n1) := Lib.hid (by omega)
        have Hcn : Hid (n1 ≤ cap1) := Lib.hid I1.out.2.1
        have Hn9 : Hid (N + n1 ≤ 1000) := Lib.hid (by rw [HNn.out]; exact Hn.out)
        have Hc9 : Hid (cap1 ≤ 9223372036854775807) := Lib.hid (by have := I1.out.2.2.1; simp only [maxLen] at this; omega)
        have d1 : Hid (N + 1 ≤ maxLen) := Lib.hid (by have := Hn9.out; unfold maxLen; omega)
        have d2 : Hid ((N + 1) * 8 ≤ 140737488355328) := Lib.hid (by have := Hn9.out; omega)
        have d3 : Hid (0 + i ≤ maxLen) := Lib.hid (by have := Hn9.out; unfold maxLen; omega)
        have d4 : Hid ((0 + i) * 16 ≤ 140737488355328) := Lib.hid (by have := Hn9.out; omega)
        have d5 : Hid (i + (n1 - (i + 1)) ≤ maxLen) := Lib.hid (by have := Hn9.out; unfold maxLen; omega)
        have d6 : Hid ((i + (n1 - (i + 1))) * 16 ≤ 140737488355328) := Lib.hid (by have := Hn9.out; omega)
        have W : wrap64 ((i : Int) + 1) = i + 1 := IntWalk.wrap64_in _ (by have := Hni.out; have := Hn9.out; constructor <;> omega)
        have htn : ((i : Int) + 1).toNat = i + 1 := by omega
        have hb1 : (0 : Int) ≤ (i : Int) + 1 := by omega
        have hic : i ≤ cap1 := by have := Hni.out; have := Hcn.out; omega
        have hic2 : (i : Int) ≤ cap1 := by omega
        have hin : (i : Int) < n1 := by have := Hni.out; omega
        clear hil
        go_wp2_with fail
        go_quiet (fail)
        go_wp2_with (at_builtin; refine wpList_append_row _ rfl (.tmp 42) (.tmp 49) 29 rfl (paint c3 w1.heap.size kr) kr 3 (.int .i64 0) 1 8 Tryz.underlying29 Tryz.infoIntK rfl oo N oc (wk.map fun x : Tm => Value.int .i64 x.who) rfl (Row.allocG (n := w1.heap.size) (R1.out.drewN nq) rfl) _ 1 [.int .i64 y.who] rfl (Src.oneAt (by simp)) (by simp [Value.oneCell']) d1.out d2.out ?_)
        intro oo2 oc2 w2 hr2 st2 ot2
        obtain ⟨c4, hc4, A4⟩ := ((Stp.allocG (n := w1.heap.size) (j := kr) (o := .cells #[.int .i64 y.who] 3) ((Stp.refl (· = kr) c3 w1).drewN nq) rfl).trans st2).name
        rw [← hc4.out] at hr2
        have R2 := Lib.hid hr2
        have hKr : K ≠ kr := by rcases HK.out with h | h <;> omega
        have p2 := P1.out.stp A4.out (by omega)
        have q2 := Q1.out.stp A4.out (by omega)
        have P2 := Lib.hid p2
        have Q2 := Lib.hid q2
        have I2 := Lib.hid (I1.out.stp A4.out hKr)
        have S2 := Lib.hid (St.out.trans ((S1.out.mono (J' := TJ k2 kr) fun _ h => h.elim).trans (A4.out.mono fun _ h => .inr h)))
        have k0 := p2.cell 0
        have k1 := p2.cell 1
        have kf := p2.free 1
        have hg4 := p2.lt
        simp at k0 k1
        have htk := I2.out.take (q := i) (by have := Hni.out; omega)
        rw [← flat_take] at htk
        have Htk := Lib.hid htk
        clear x0 x1 y0 y1 f0 f1 hg1 hg2 v0 v1 P1 Q1 R1 I1 St S1 A4 hr2 st2 ot2 hc4 p2 q2 htk hlt1 hlt2
        go_wp2_with (at_builtin; refine wpList_append_row _ rfl (.tmp 51) (.tmp 55) 153 rfl c4 k2 249 (.agg #[.int .i64 0, .int .i64 0]) 2 16 Tryz.underlying153 Tryz.infoRTimer rfl none 0 0 [] rfl (Row.nil _ _ _ _ _) _ i ((M.take i).flatMap Tm.cells) rfl Htk.out.src (tm_one _) d3.out d4.out ?_)
        intro ao3 cap3 w3 hr3 st3 ot3
        obtain ⟨c5, hc5, A5⟩ := (st3.ofOthers ot3).name
        rw [← hc5.out] at hr3
        have R3 := Lib.hid (show Row c5 k2 w3 249 2 ao3 i cap3 ((M.take i).flatMap Tm.cells) by simpa using hr3)
        have O3 := Lib.hid (R2.out.stp A5.out id)
        have p3 := P2.out.stp A5.out id
        have q3 := Q2.out.stp A5.out id
        have P3 := Lib.hid p3
        have Q3 := Lib.hid q3
        have I3 := Lib.hid (I2.out.stp A5.out id)
        have S3 := Lib.hid (S2.out.trans (A5.out.mono (J' := TJ k2 kr) fun _ h => h.elim))
        have x0 := p3.cell 0
        have x1 := p3.cell 1
        have f1 := p3.free 1
        have hg5 := p3.lt
        simp at x0 x1
        clear k0 k1 kf hg4 P2 Q2 R2 I2 S2 A5 hr3 st3 ot3 hc5 p3 q3 Htk
        by_cases hce : cap1 = i + 1
        · obtain rfl : n1 = i + 1 := by have := Hni.out; have := Hcn.out; omega
          subst hce
          go_wp2_with (at_builtin; refine wpList_append_row _ rfl (.tmp 57) (.tmp 62) 153 rfl c5 k2 249 (.agg #[.int .i64 0, .int .i64 0]) 2 16 Tryz.underlying153 Tryz.infoRTimer rfl ao3 i cap3 ((M.take i).flatMap Tm.cells) (by simp [Act.eval]) R3.out _ 0 [] rfl (In.nil c5 k2 w3 2 _).src (by simp) (by simpa using d5.out) (by simpa using d6.out) ?_)
          intro ao4 cap4 w4 hr4 st4 _
          obtain ⟨c6, hc6, A6⟩ := st4.name
          rw [← hc6.out] at hr4
          have R4 := Lib.hid (show Row c6 k2 w4 249 2 ao4 (i) cap4 ((M.eraseIdx i).flatMap Tm.cells) by rw [List.eraseIdx_eq_take_drop_succ, List.drop_of_length_le (by rw [Hmn.out]; exact Nat.le_refl _), List.append_nil]; simpa using hr4)
          have hk23 : ¬ (k2 + 1 = k2) := by omega
          have hk24 : ¬ (kr = k2) := by omega
          have p4 := P3.out.stp A6.out hk23
          have P4 := Lib.hid p4
          have Q4 := Lib.hid (Q3.out.stp A6.out hk23)
          have O4 := Lib.hid (O3.out.stp A6.out hk24)
          have S4 := Lib.hid (S3.out.trans (A6.out.mono (J' := TJ k2 kr) fun _ h => .inl h))
          have u0 := p4.cell 0
          have u1 := p4.cell 1
          have uf := p4.free 1
          have ug := p4.lt
          simp at u0 u1
          clear x0 x1 f1 hg5 P3 Q3 O3 I3 S3 R3 A6 hr4 st4 hc6 p4
          go_wp2_with fail
          go_roundw
          case rel => exact tick_rel R4.out O4.out P4.out Q4.out S4.out (by have := HNn.out; have := Hni.out; omega) (by rw [List.length_eraseIdx, Hmn.out, if_pos (by have := Hni.out; omega)]; rfl) (by rw [Hsr.out, Hh.out, List.append_assoc]; rfl) (fun t ht => by
            rcases List.mem_append.1 ht with h | h
            · exact Hwk.out t h
            · simp at h; subst h; exact Hle.out)
          case measure => exact meas_tick HNn.out Hni.out
        · have hd := I3.out.drop (q := i + 1) Hni.out
          rw [← flat_drop, if_neg hce] at hd
          have hsrc := Lib.hid hd
          have hjc : i + 1 ≤ cap1 := by have := Hni.out; have := Hcn.out; omega
          have hjn : i + 1 ≤ n1 := Hni.out
          have hcn : n1 ≤ cap1 := Hcn.out
          have hjn2 : (i : Int) + 1 ≤ n1 := by omega
          have hjc2 : (i : Int) + 1 ≤ cap1 := by omega
          clear hd
          go_wp2_with (at_builtin; refine wpList_append_row _ rfl (.tmp 57) (.tmp 62) 153 rfl c5 k2 249 (.agg #[.int .i64 0, .int .i64 0]) 2 16 Tryz.underlying153 Tryz.infoRTimer rfl ao3 i cap3 ((M.take i).flatMap Tm.cells) (by simp [Act.eval]) R3.out _ (n1 - (i + 1)) ((M.drop (i + 1)).flatMap Tm.cells) rfl hsrc.out.src (tm_one _) d5.out d6.out ?_)
          have en : i + (n1 - (i + 1)) = n1 - 1 := by omega
          intro ao4 cap4 w4 hr4 st4 _
          obtain ⟨c6, hc6, A6⟩ := st4.name
          rw [← hc6.out] at hr4
          have R4 := Lib.hid (show Row c6 k2 w4 249 2 ao4 (n1 - 1) cap4 ((M.eraseIdx i).flatMap Tm.cells) by rw [List.eraseIdx_eq_take_drop_succ, List.flatMap_append]; rwa [show i + (n1 - (i + 1)) = n1 - 1 by omega] at hr4)
          have hk23 : ¬ (k2 + 1 = k2) := by omega
          have hk24 : ¬ (kr = k2) := by omega
          have p4 := P3.out.stp A6.out hk23
          have P4 := Lib.hid p4
          have Q4 := Lib.hid (Q3.out.stp A6.out hk23)
          have O4 := Lib.hid (O3.out.stp A6.out hk24)
          have S4 := Lib.hid (S3.out.trans (A6.out.mono (J' := TJ k2 kr) fun _ h => .inl h))
          have u0 := p4.cell 0
          have u1 := p4.cell 1
          have uf := p4.free 1
          have ug := p4.lt
          simp at u0 u1
          clear x0 x1 f1 hg5 P3 Q3 O3 I3 S3 R3 A6 hr4 st4 hc6 p4
          try rw [en]
          clear en
          go_wp2_with fail
          go_roundw
          case rel => exact tick_rel R4.out O4.out P4.out Q4.out S4.out (by have := HNn.out; have := Hni.out; omega) (by rw [List.length_eraseIdx, Hmn.out, if_pos (by have := Hni.out; omega)]) (by rw [Hsr.out, Hh.out, List.append_assoc]; rfl) (fun t ht => by
            rcases List.mem_append.1 ht with h | h
            · exact Hwk.out t h
            · simp at h; subst h; exact Hle.out)
          case measure => exact meas_tick HNn.out Hni.out
      · have z2 : decide (now' < y.at_) = true := by simpa using hle
        have Hle := Lib.hid (show ¬ y.at_ ≤ now' from hle)
        clear hle
        go_wp2_with fail
        go_quiet (fail)
        go_wp2_with fail
        refine bodyPost_ret (v := .tuple #[.agg #[.int .i64 now', .slice (some a) n1 cap1], .slice oo N oc, .int .i64 0]) (by simp [results, Tryz.results131, go_sem, y0, y1]) rfl ?_
        exact tick_fin hk4 HK.out R1.out I1.out Q1.out (St.out.trans (S1.out.mono fun _ h => h.elim)) Hmn.out Hsr.out Hwk.out (by
          rw [Hh.out]
          intro y' r' e
          cases e
          have := Hle.out; omega) nq
end Go.Proofs.YtiphdedfbafhkaaGreatDoor
