/- A probe's Step, all cases in one. No condition beyond the contract's own. -/
import Derived.Test.YtoifknfmamcimaaDoorBar2
namespace Go.Proofs.YtoifknfmamcimaaDoor
open Go.RowKit

/-- The cells that a barrier names are there. -/
structure BarOK (la : List Int) (B : Bar) : Prop where
  cu : B.cur < la.length
  al : B.al < la.length
  is : ∀ x ∈ B.ids, 0 ≤ x ∧ x < la.length
  il : (B.ids.length : Int) ≤ 1048576
  bu : ∀ sh first, B.buf = some (sh, first) → sh < 21 ∧ first + 2 ^ sh ≤ la.length
  va : la.getD B.cur 0 ≤ 4611686018427387904

/-- A probe that may go on. -/
structure PrOK (la : List Int) (B : Bar) (p : Pr) : Prop where
  nx : 0 ≤ p.next ∧ p.next ≤ 4611686018427387904
  is : ∀ x ∈ p.ids, 0 ≤ x ∧ x < la.length
  st : p.fin = true ∨ p.stage = 0 ∨ (p.stage = 1 ∧ p.ids ≠ []) ∨ p.stage = 2 ∨ (p.stage = 3 ∧ B.buf ≠ none ∧ 0 ≤ p.pos ∧ p.pos ≤ p.hi ∧ p.hi ≤ 4611686018427387904)

theorem PrOK.start {la : List Int} {B : Bar} {next : Int} (h : 0 ≤ next ∧ next ≤ 4611686018427387904) : PrOK la B (Pr.start next) := ⟨h, (fun x hx => by cases hx), .inr (.inl rfl)⟩

theorem stepP_next (B : Bar) (la : List Int) (p : Pr) : (stepP B la p).next = p.next := by
  unfold stepP
  split
  · rfl
  · split
    · split <;> rfl
    · split
      · split <;> rfl
      · split
        · split <;> rfl
        · split
          · rfl
          · split
            · rfl
            · split <;> rfl

theorem PrOK.step {la : List Int} {B : Bar} {p : Pr} (hb : BarOK la B) (h : PrOK la B p) : PrOK la B (stepP B la p) := by
  refine ⟨by rw [stepP_next]; exact h.nx, ?_, ?_⟩
  · unfold stepP
    split
    · exact h.is
    · split
      · split
        · exact h.is
        · exact hb.is
      · split
        · split
          · intro x hx; cases hx
          · intro x hx; exact h.is x (List.mem_of_mem_tail hx)
        · split
          · split <;> exact h.is
          · split
            · exact h.is
            · split
              · exact h.is
              · split <;> exact h.is
  · unfold stepP
    split
    · rename_i hf; exact .inl hf
    · split
      · split
        · exact .inl rfl
        · by_cases he : B.ids = []
          · simp [he]
          · simp [he]
      · split
        · split
          · exact .inl rfl
          · rename_i ht; exact .inr (.inr (.inl ⟨rfl, ht⟩))
        · split
          · split
            · exact .inl rfl
            · rename_i hn
              exact .inr (.inr (.inr (.inr ⟨rfl, fun e => hn (.inl e), h.nx.1, by have : ¬ la.getD B.cur 0 < p.next := fun e => hn (.inr e); simp only; omega, hb.va⟩)))
          · split
            · rename_i hn; 
              rcases h.st with h1 | h1 | h1 | h1 | h1
              · exact .inl h1
              · exact .inr (.inl h1)
              · exact .inr (.inr (.inl h1))
              · exact .inr (.inr (.inr (.inl h1)))
              · exact absurd hn h1.2.1
            · rename_i sh first hbu
              split
              · exact .inl rfl
              · split
                · exact .inl rfl
                · rename_i h1 h2 h3 h4 _ h5 h6
                  rcases h.st with h7 | h7 | h7 | h7 | h7
                  · exact absurd h7 h1
                  · exact absurd h7 h2
                  · exact absurd h7.1 h3
                  · exact absurd h7 h4
                  · exact .inr (.inr (.inr (.inr ⟨rfl, by rw [hbu]; simp, by simp only; omega, by simp only; omega, h7.2.2.2.2⟩)))

theorem PrOK.len {la la' : List Int} {B : Bar} {p : Pr} (h : PrOK la B p) (hl : la'.length = la.length) : PrOK la' B p := ⟨h.nx, fun x hx => by rw [hl]; exact h.is x hx, h.st⟩

/-- A probe as a value. -/
@[reducible] def prV (b : Nat) (p : Pr) (ao : Option Addr) (cap : Nat) : Value :=
  .agg #[.pointer (some ⟨b, 0, none⟩), .int .i64 p.next, .int .i64 (p.stage : Int), .slice ao p.ids.length cap, .int .i64 p.most, .int .i64 p.hi, .int .i64 p.pos, .int .i64 p.sign, .bool p.fin]

section
variable {c : Nat → Nat} {K : Nat} {w : World} {q b g : Nat} {bv : Option Addr} {la : List Int} {s : Int} {B : Bar} {p : Pr} {ao : Option Addr} {cap : Nat}
theorem pstep_c (ha : ArenaAt c K w q la s) (hB : BarIs c (K + 1) w b g bv B) (hs : In c (K + 4) w 1 ao p.ids.length cap (p.ids.map (Value.int .i64))) (hok : BarOK la B) (hp : PrOK la B p) (hf : p.fin = false) (s0 : 0 ≤ s) (s1 : s < 4611686018427387904) :
    Calls Tryd.prog 18 #[prV b p ao cap, .pointer (some ⟨q, 0, none⟩)] w fun e w' => ∃ ao' cap', e = .returned (.tuple #[prV b (stepP B la p) ao' cap', .nilIface]) ∧ ∃ c', Stp (· = K) c c' w w' ∧ ArenaAt c' K w' q la (s + 1) ∧ In c' (K + 4) w' 1 ao' (stepP B la p).ids.length cap' ((stepP B la p).ids.map (Value.int .i64)) := by
  obtain ⟨next, stage, ids, most, hi, pos, sign, fin⟩ := p
  obtain rfl : fin = false := hf
  obtain ⟨⟨n0, n1⟩, his, hst⟩ := hp
  simp only at n0 n1 his hst hs
  rcases hst with h | h | ⟨h, h'⟩ | h | ⟨h, h1, h2, h3, h4⟩
  · cases h
  · subst h
    by_cases hv : la.getD B.al 0 = 1
    · rw [show stepP B la ⟨next, 0, ids, most, hi, pos, sign, false⟩ = ⟨next, 0, ids, most, hi, next - 1, 1, true⟩ by rw [stepP, if_neg (by simp), if_pos rfl, if_pos hv]]
      refine (step_alerted next most hi pos sign ha hB hs hok.al hv ⟨by omega, n1⟩ s0 s1).mono ?_
      rintro e w' ⟨rfl, h⟩
      exact ⟨_, _, rfl, h⟩
    · rw [show stepP B la ⟨next, 0, ids, most, hi, pos, sign, false⟩ = ⟨next, if B.ids = [] then 2 else 1, B.ids, 9223372036854775807, hi, pos, la.getD B.al 0, false⟩ by rw [stepP, if_neg (by simp), if_pos rfl, if_neg hv]]
      by_cases hi' : B.ids = []
      · rw [if_pos hi']
        refine (step_cur next most hi pos sign ha hB hs hok.al rfl hv hi' rfl hok.il s0 s1).mono ?_
        rintro e w' ⟨ao', cap', rfl, h⟩
        exact ⟨ao', cap', rfl, h⟩
      · rw [if_neg hi']
        refine (step_aft next most hi pos sign ha hB hs hok.al rfl hv hi' rfl hok.il s0 s1).mono ?_
        rintro e w' ⟨ao', cap', rfl, h⟩
        exact ⟨ao', cap', rfl, h⟩
  · subst h
    obtain ⟨i, r, rfl⟩ : ∃ i r, ids = i :: r := by
      cases ids with
      | nil => exact absurd rfl h'
      | cons i r => exact ⟨i, r, rfl⟩
    have hix := his i (List.mem_cons_self ..)
    by_cases hr : r = []
    · subst hr
      rw [show stepP B la ⟨next, 1, [i], most, hi, pos, sign, false⟩ = ⟨next, 1, [], min most (valAt la i), hi, min most (valAt la i), sign, true⟩ by rw [stepP, if_neg (by simp), if_neg (by simp), if_pos rfl]; rfl]
      refine (step_last next most hi pos sign ha hB hs hix rfl s0 s1).mono ?_
      rintro e w' ⟨ao', cap', rfl, h⟩
      exact ⟨ao', cap', rfl, h⟩
    · rw [show stepP B la ⟨next, 1, i :: r, most, hi, pos, sign, false⟩ = ⟨next, 1, r, min most (valAt la i), hi, pos, sign, false⟩ by rw [stepP, if_neg (by simp), if_neg (by simp), if_pos rfl, if_neg (by exact hr)]; rfl]
      refine (step_more next most hi pos sign ha hB hs hix (by have := List.length_pos_iff.2 hr; simp; omega) s0 s1).mono ?_
      rintro e w' ⟨ao', cap', rfl, h⟩
      exact ⟨ao', cap', rfl, h⟩
  · subst h
    have hbv := hB.bf
    by_cases hc : B.buf = none ∨ la.getD B.cur 0 < next
    · rw [show stepP B la ⟨next, 2, ids, most, hi, pos, sign, false⟩ = ⟨next, 2, ids, most, hi, la.getD B.cur 0, sign, true⟩ by rw [stepP, if_neg (by simp), if_neg (by simp), if_neg (by simp), if_pos rfl, if_pos hc]]
      rcases hbv with ⟨hb1, rfl⟩ | ⟨sh, first, p, hb1, rfl, hb3⟩
      · refine (step_nobuf next most hi pos sign ha hB hs hok.cu rfl s0 s1).mono ?_
        rintro e w' ⟨rfl, h⟩
        exact ⟨_, _, rfl, h⟩
      · refine (step_ahead next most hi pos sign ha hB hs hok.cu rfl (by rcases hc with hc | hc; rw [hb1] at hc; cases hc; exact hc) s0 s1).mono ?_
        rintro e w' ⟨rfl, h⟩
        exact ⟨_, _, rfl, h⟩
    · rw [show stepP B la ⟨next, 2, ids, most, hi, pos, sign, false⟩ = ⟨next, 3, ids, most, la.getD B.cur 0, next, sign, false⟩ by rw [stepP, if_neg (by simp), if_neg (by simp), if_neg (by simp), if_pos rfl, if_neg hc]]
      rcases hbv with ⟨hb1, rfl⟩ | ⟨sh, first, p, hb1, rfl, hb3⟩
      · exact absurd (.inl hb1) hc
      · refine (step_shown next most hi pos sign ha hB hs hok.cu rfl (by have : ¬ la.getD B.cur 0 < next := fun h => hc (.inr h); omega) s0 s1).mono ?_
        rintro e w' ⟨rfl, h⟩
        exact ⟨_, _, rfl, h⟩
  · subst h
    rcases hB.bf with ⟨hb1, rfl⟩ | ⟨sh, first, p, hb1, rfl, hb3⟩
    · exact absurd hb1 h1
    · have hj : first + slotOf sh pos < la.length := by
        have h5 := (hok.bu sh first hb1).2
        have h6 := (slotOf_lt sh pos (hok.bu sh first hb1).1).1
        omega
      by_cases hsh : shownAt la first sh pos = false
      · rw [show stepP B la ⟨next, 3, ids, most, hi, pos, sign, false⟩ = ⟨next, 3, ids, most, hi, pos - 1, sign, true⟩ by rw [stepP, if_neg (by simp), if_neg (by simp), if_neg (by simp), if_neg (by simp), hb1]; simp only [if_pos hsh]]
        refine (step_gap next most hi pos sign ha hB hs hb1 hj hsh ⟨by omega, by omega⟩ s0 s1).mono ?_
        rintro e w' ⟨rfl, h⟩
        exact ⟨_, _, rfl, h⟩
      · have hsh' : shownAt la first sh pos = true := by simpa using hsh
        by_cases hh : hi ≤ pos
        · rw [show stepP B la ⟨next, 3, ids, most, hi, pos, sign, false⟩ = ⟨next, 3, ids, most, hi, hi, sign, true⟩ by rw [stepP, if_neg (by simp), if_neg (by simp), if_neg (by simp), if_neg (by simp), hb1]; simp only [if_neg hsh, if_pos hh]]
          refine (step_end next most hi pos sign ha hB hs hb1 hj hsh' hh s0 s1).mono ?_
          rintro e w' ⟨rfl, h⟩
          exact ⟨_, _, rfl, h⟩
        · rw [show stepP B la ⟨next, 3, ids, most, hi, pos, sign, false⟩ = ⟨next, 3, ids, most, hi, pos + 1, sign, false⟩ by rw [stepP, if_neg (by simp), if_neg (by simp), if_neg (by simp), if_neg (by simp), hb1]; simp only [if_neg hsh, if_neg hh]]
          refine (step_next next most hi pos sign ha hB hs hb1 hj hsh' (by omega) ⟨by omega, by omega⟩ s0 s1).mono ?_
          rintro e w' ⟨rfl, h⟩
          exact ⟨_, _, rfl, h⟩
end
end Go.Proofs.YtoifknfmamcimaaDoor
