/- How a probe goes, in plain Lean: one step, all steps, and where it ends. No condition beyond each law's own. -/
import Derived.Test.YtiphdedfbafhkaaGreatDoorAvail2
import Derived.Test.YtiphdedfbafhkaaGreatDoorGate2
namespace Go.Proofs.YtiphdedfbafhkaaGreatDoor
open Go.RowKit

/-- A barrier's numbers: the cursor's cell, the alert's, those ahead, the buffer's size and first cell. -/
structure Bar where
  cur : Nat
  al : Nat
  ids : List Int
  buf : Option (Nat × Nat)

/-- How far a probe came. -/
structure Pr where
  next : Int
  stage : Nat
  ids : List Int
  most : Int
  hi : Int
  pos : Int
  sign : Int
  fin : Bool

def Pr.start (next : Int) : Pr := ⟨next, 0, [], 0, 0, 0, 0, false⟩
def Pr.avail (p : Pr) : Int := if p.fin then max p.pos (p.next - 1) else p.next - 1

def stepP (B : Bar) (la : List Int) (p : Pr) : Pr :=
  if p.fin = true then p
  else if p.stage = 0 then
    (if la.getD B.al 0 = 1 then ⟨p.next, 0, p.ids, p.most, p.hi, p.next - 1, 1, true⟩
     else ⟨p.next, if B.ids = [] then 2 else 1, B.ids, 9223372036854775807, p.hi, p.pos, la.getD B.al 0, false⟩)
  else if p.stage = 1 then
    (if p.ids.tail = [] then ⟨p.next, 1, [], min p.most (valAt la (p.ids.headD 0)), p.hi, min p.most (valAt la (p.ids.headD 0)), p.sign, true⟩
     else ⟨p.next, 1, p.ids.tail, min p.most (valAt la (p.ids.headD 0)), p.hi, p.pos, p.sign, false⟩)
  else if p.stage = 2 then
    (if B.buf = none ∨ la.getD B.cur 0 < p.next then ⟨p.next, 2, p.ids, p.most, p.hi, la.getD B.cur 0, p.sign, true⟩
     else ⟨p.next, 3, p.ids, p.most, la.getD B.cur 0, p.next, p.sign, false⟩)
  else match B.buf with
    | none => p
    | some (sh, first) =>
      if shownAt la first sh p.pos = false then ⟨p.next, 3, p.ids, p.most, p.hi, p.pos - 1, p.sign, true⟩
      else if p.hi ≤ p.pos then ⟨p.next, 3, p.ids, p.most, p.hi, p.hi, p.sign, true⟩
      else ⟨p.next, 3, p.ids, p.most, p.hi, p.pos + 1, p.sign, false⟩

def itP (B : Bar) (la : List Int) : Nat → Pr → Pr
  | 0, p => p
  | n + 1, p => itP B la n (stepP B la p)

theorem itP_last (B : Bar) (la : List Int) : ∀ (n : Nat) (p : Pr), itP B la (n + 1) p = stepP B la (itP B la n p)
  | 0, _ => rfl
  | n + 1, p => by rw [itP, itP_last B la n (stepP B la p), itP]

/-- So many steps it takes, and ends like that. -/
structure EndsP (B : Bar) (la : List Int) (p : Pr) (n : Nat) (r : Pr) : Prop where
  un : ∀ i, i < n → (itP B la i p).fin = false
  fi : r.fin = true
  eq : itP B la n p = r

theorem EndsP.zero {B : Bar} {la : List Int} {p : Pr} (h : p.fin = true) : EndsP B la p 0 p := ⟨fun _ h => absurd h (Nat.not_lt_zero _), h, rfl⟩

theorem EndsP.step {B : Bar} {la : List Int} {p : Pr} {n : Nat} {r : Pr} (h0 : p.fin = false) (h : EndsP B la (stepP B la p) n r) : EndsP B la p (n + 1) r :=
  ⟨fun i hi => by
    cases i with
    | zero => exact h0
    | succ i => exact h.un i (by omega), h.fi, h.eq⟩

theorem EndsP.one {B : Bar} {la : List Int} {p : Pr} (h0 : p.fin = false) (h1 : (stepP B la p).fin = true) : EndsP B la p 1 (stepP B la p) := EndsP.step h0 (EndsP.zero h1)

theorem EndsP.uniq {B : Bar} {la : List Int} {p : Pr} {n m : Nat} {r u : Pr} (h : EndsP B la p n r) (k : EndsP B la p m u) : n = m ∧ r = u := by
  have e : n = m := by
    rcases Nat.lt_trichotomy n m with h1 | h1 | h1
    · have := k.un n h1; rw [h.eq, h.fi] at this; cases this
    · exact h1
    · have := h.un m h1; rw [k.eq, k.fi] at this; cases this
  exact ⟨e, by rw [← h.eq, ← k.eq, e]⟩

/-- Those ahead are read one by one. -/
theorem ends_ids (B : Bar) (la : List Int) : ∀ (l : List Int) (p : Pr), p.fin = false → p.stage = 1 → p.ids = l → l ≠ [] →
    EndsP B la p l.length ⟨p.next, 1, [], (l.map (valAt la)).foldl min p.most, p.hi, (l.map (valAt la)).foldl min p.most, p.sign, true⟩
  | [], _, _, _, _, h => absurd rfl h
  | [x], p, h0, h1, h2, _ => by
    have e : stepP B la p = ⟨p.next, 1, [], min p.most (valAt la x), p.hi, min p.most (valAt la x), p.sign, true⟩ := by
      rw [stepP, if_neg (by rw [h0]; decide), if_neg (by omega), if_pos h1, h2]; rfl
    have := EndsP.one (B := B) (la := la) h0 (by rw [e])
    rw [e] at this
    exact this
  | x :: y :: l, p, h0, h1, h2, _ => by
    have e : stepP B la p = ⟨p.next, 1, y :: l, min p.most (valAt la x), p.hi, p.pos, p.sign, false⟩ := by
      rw [stepP, if_neg (by rw [h0]; decide), if_neg (by omega), if_pos h1, h2]; rfl
    have := ends_ids B la (y :: l) (stepP B la p) (by rw [e]) (by rw [e]) (by rw [e]) (by simp)
    have h3 := EndsP.step h0 this
    rw [e] at h3
    exact h3

/-- The buffer's cells are read one by one. -/
theorem ends_buf (B : Bar) (la : List Int) (sh first : Nat) (hb : B.buf = some (sh, first)) : ∀ (f : Nat) (p : Pr), p.fin = false → p.stage = 3 → p.hi - p.pos < f → p.pos ≤ p.hi →
    ∃ x, HiAt la first sh p.pos p.hi x ∧ EndsP B la p ((x - p.pos + 1).toNat + if x < p.hi then 1 else 0) ⟨p.next, 3, p.ids, p.most, p.hi, x, p.sign, true⟩
  | 0, p, _, _, h, h' => by omega
  | f + 1, p, h0, h1, h2, h3 => by
    by_cases hs : shownAt la first sh p.pos = false
    · have e : stepP B la p = ⟨p.next, 3, p.ids, p.most, p.hi, p.pos - 1, p.sign, true⟩ := by
        rw [stepP, if_neg (by rw [h0]; decide), if_neg (by omega), if_neg (by omega), if_neg (by omega), hb]
        simp only [if_pos hs]
      refine ⟨p.pos - 1, ⟨by omega, .inr rfl, fun s a b => by omega, fun _ => by rw [show p.pos - 1 + 1 = p.pos by omega]; exact hs⟩, ?_⟩
      have := EndsP.one (B := B) (la := la) h0 (by rw [e])
      rw [e] at this
      rw [if_pos (by omega), show (p.pos - 1 - p.pos + 1).toNat = 0 by omega]
      exact this
    · have hs' : shownAt la first sh p.pos = true := by simpa using hs
      by_cases hh : p.hi ≤ p.pos
      · have e : stepP B la p = ⟨p.next, 3, p.ids, p.most, p.hi, p.hi, p.sign, true⟩ := by
          rw [stepP, if_neg (by rw [h0]; decide), if_neg (by omega), if_neg (by omega), if_neg (by omega), hb]
          simp only [if_neg hs, if_pos hh]
        refine ⟨p.hi, ⟨by omega, .inl (Int.le_refl _), fun s a b => by rw [show s = p.pos by omega]; exact hs', fun h => absurd h (Int.lt_irrefl _)⟩, ?_⟩
        have := EndsP.one (B := B) (la := la) h0 (by rw [e])
        rw [e] at this
        rw [if_neg (by omega), show (p.hi - p.pos + 1).toNat = 1 by omega]
        exact this
      · have e : stepP B la p = ⟨p.next, 3, p.ids, p.most, p.hi, p.pos + 1, p.sign, false⟩ := by
          rw [stepP, if_neg (by rw [h0]; decide), if_neg (by omega), if_neg (by omega), if_neg (by omega), hb]
          simp only [if_neg hs, if_neg hh]
        obtain ⟨x, hx, he⟩ := ends_buf B la sh first hb f (stepP B la p) (by rw [e]) (by rw [e]) (by rw [e]; simp only; omega) (by rw [e]; simp only; omega)
        rw [e] at hx
        have h4 := EndsP.step h0 he
        rw [e] at h4
        simp only at hx h4
        obtain ⟨a1, a2, a3, a4⟩ := hx
        refine ⟨x, ⟨by omega, .inl (by omega), fun s b1 b2 => ?_, a4⟩, ?_⟩
        · by_cases es : s = p.pos
          · rw [es]; exact hs'
          · exact a3 s (by omega) b2
        · rw [show (x - p.pos + 1).toNat + (if x < p.hi then 1 else 0) = (x - (p.pos + 1) + 1).toNat + (if x < p.hi then 1 else 0) + 1 by omega]
          exact h4

section
variable {B : Bar} {la : List Int}
theorem start_go {v : Int} (next : Int) (hv : la.getD B.al 0 = v) (h1 : v ≠ 1) : stepP B la (Pr.start next) = ⟨next, if B.ids = [] then 2 else 1, B.ids, 9223372036854775807, 0, 0, v, false⟩ := by
  rw [stepP, if_neg (by simp [Pr.start]), if_pos (show (Pr.start next).stage = 0 from rfl), if_neg (by rw [hv]; exact h1), hv]; rfl

theorem ends_alert (next : Int) (hv : la.getD B.al 0 = 1) : EndsP B la (Pr.start next) 1 ⟨next, 0, [], 0, 0, next - 1, 1, true⟩ := by
  have e : stepP B la (Pr.start next) = ⟨next, 0, [], 0, 0, next - 1, 1, true⟩ := by
    rw [stepP, if_neg (by simp [Pr.start]), if_pos (show (Pr.start next).stage = 0 from rfl), if_pos hv]; rfl
  have := EndsP.one (B := B) (la := la) (p := Pr.start next) rfl (by rw [e])
  rw [e] at this
  exact this

theorem ends_after {v : Int} (next : Int) (hv : la.getD B.al 0 = v) (h1 : v ≠ 1) (hi : B.ids ≠ []) :
    EndsP B la (Pr.start next) (B.ids.length + 1) ⟨next, 1, [], (B.ids.map (valAt la)).foldl min 9223372036854775807, 0, (B.ids.map (valAt la)).foldl min 9223372036854775807, v, true⟩ := by
  have e := start_go next hv h1
  rw [if_neg hi] at e
  have := EndsP.step (p := Pr.start next) rfl (ends_ids B la B.ids (stepP B la (Pr.start next)) (by rw [e]) (by rw [e]) (by rw [e]) hi)
  rw [e] at this
  exact this

theorem ends_cursor {v : Int} (next : Int) (hv : la.getD B.al 0 = v) (h1 : v ≠ 1) (hi : B.ids = []) (hc : B.buf = none ∨ la.getD B.cur 0 < next) :
    EndsP B la (Pr.start next) 2 ⟨next, 2, [], 9223372036854775807, 0, la.getD B.cur 0, v, true⟩ := by
  have e := start_go next hv h1
  rw [if_pos hi, hi] at e
  have e2 : stepP B la ⟨next, 2, [], 9223372036854775807, 0, 0, v, false⟩ = ⟨next, 2, [], 9223372036854775807, 0, la.getD B.cur 0, v, true⟩ := by
    rw [stepP, if_neg (by simp), if_neg (by simp), if_neg (by simp), if_pos rfl, if_pos hc]
  have h2 := EndsP.one (B := B) (la := la) (p := ⟨next, 2, [], 9223372036854775807, 0, 0, v, false⟩) rfl (by rw [e2])
  rw [← e] at h2
  have := EndsP.step (p := Pr.start next) rfl h2
  rw [e, e2] at this
  exact this

theorem ends_shown {v : Int} (next : Int) {sh first : Nat} (hv : la.getD B.al 0 = v) (h1 : v ≠ 1) (hi : B.ids = []) (hb : B.buf = some (sh, first)) (hc : next ≤ la.getD B.cur 0) :
    ∃ x, HiAt la first sh next (la.getD B.cur 0) x ∧ EndsP B la (Pr.start next) (2 + ((x - next + 1).toNat + if x < la.getD B.cur 0 then 1 else 0)) ⟨next, 3, [], 9223372036854775807, la.getD B.cur 0, x, v, true⟩ := by
  have e := start_go next hv h1
  rw [if_pos hi, hi] at e
  have e2 : stepP B la ⟨next, 2, [], 9223372036854775807, 0, 0, v, false⟩ = ⟨next, 3, [], 9223372036854775807, la.getD B.cur 0, next, v, false⟩ := by
    rw [stepP, if_neg (by simp), if_neg (by simp), if_neg (by simp), if_pos rfl, if_neg (by rw [hb]; simp; exact hc)]
  obtain ⟨x, hx, he⟩ := ends_buf B la sh first hb ((la.getD B.cur 0 - next).toNat + 1) ⟨next, 3, [], 9223372036854775807, la.getD B.cur 0, next, v, false⟩ rfl rfl (by simp only; omega) hc
  refine ⟨x, hx, ?_⟩
  rw [← e2] at he
  have h3 := EndsP.step (p := ⟨next, 2, [], 9223372036854775807, 0, 0, v, false⟩) rfl he
  rw [← e] at h3
  have h4 := EndsP.step (p := Pr.start next) rfl h3
  rw [e, e2] at h4
  simp only at h4
  rw [show 2 + ((x - next + 1).toNat + if x < la.getD B.cur 0 then 1 else 0) = (x - next + 1).toNat + (if x < la.getD B.cur 0 then 1 else 0) + 1 + 1 by omega]
  exact h4

/-- A probe ends: soon, with the alert's value, and what it tells is one of four. -/
theorem ends_any (next : Int) : ∃ n r, EndsP B la (Pr.start next) n r ∧ r.next = next ∧ r.sign = la.getD B.al 0 ∧ (n : Int) ≤ 3 + B.ids.length + (max 0 (la.getD B.cur 0 - next + 1)) := by
  by_cases h1 : la.getD B.al 0 = 1
  · exact ⟨_, _, ends_alert next h1, rfl, h1.symm, by omega⟩
  · by_cases hi : B.ids = []
    · by_cases hc : B.buf = none ∨ la.getD B.cur 0 < next
      · exact ⟨_, _, ends_cursor next rfl h1 hi hc, rfl, rfl, by omega⟩
      · cases hb : B.buf with
        | none => exact absurd (.inl hb) hc
        | some q =>
          obtain ⟨sh, first⟩ := q
          obtain ⟨x, hx, he⟩ := ends_shown next rfl h1 hi hb (by have : ¬ la.getD B.cur 0 < next := fun h => hc (.inr h); omega)
          refine ⟨_, _, he, rfl, rfl, ?_⟩
          have h1 := hx.1
          have h2 := hx.2.1
          have h3 : ¬ la.getD B.cur 0 < next := fun h => hc (.inr h)
          split <;> omega
    · exact ⟨_, _, ends_after next rfl h1 hi, rfl, rfl, by omega⟩
end
end Go.Proofs.YtiphdedfbafhkaaGreatDoor
