/- As long as cells only rise, a probe that began earlier tells no more than a look that begins later; in plain Lean. No condition beyond each law's own. -/
import Derived.Test.YtoifknfmamcimaaDoorBarRef
import Derived.Test.YtoifknfmamcimaaDoorPlan
namespace Go.Proofs.YtoifknfmamcimaaDoor
open Go.RowKit

structure RInv (B : Bar) (la : List Int) (next : Int) (i : Nat) (p : Pr) : Prop where
  nx : p.next = next
  st : (p.fin = true ∧ (∀ x ∈ B.ids, p.pos ≤ valAt la x) ∧ (B.ids = [] → p.pos ≤ la.getD B.cur 0)) ∨
    (p = Pr.start next ∧ i = 0) ∨
    (p.fin = false ∧ p.stage = 1 ∧ p.ids ≠ [] ∧ ∃ pre, B.ids = pre ++ p.ids ∧ pre.length + 1 = i ∧ ∀ x ∈ pre, p.most ≤ valAt la x) ∨
    (p.fin = false ∧ p.stage = 2 ∧ B.ids = [] ∧ i = 1)

section
variable {B : Bar} {la la' : List Int} {next : Int} {i : Nat} {p : Pr}
theorem RInv.start : RInv B la next 0 (Pr.start next) := ⟨rfl, .inr (.inl ⟨rfl, rfl⟩)⟩

theorem RInv.rise (h : RInv B la next i p) (hr : ∀ j, la.getD j 0 ≤ la'.getD j 0) : RInv B la' next i p := by
  refine ⟨h.nx, ?_⟩
  rcases h.st with ⟨h1, h2, h3⟩ | h1 | ⟨h1, h2, h3, pre, h4, h5, h6⟩ | h1
  · exact .inl ⟨h1, fun x hx => Int.le_trans (h2 x hx) (hr _), fun e => Int.le_trans (h3 e) (hr _)⟩
  · exact .inr (.inl h1)
  · exact .inr (.inr (.inl ⟨h1, h2, h3, pre, h4, h5, fun x hx => Int.le_trans (h6 x hx) (hr _)⟩))
  · exact .inr (.inr (.inr h1))

theorem RInv.short (h : RInv B la next i p) (hf : p.fin = false) : i ≤ B.ids.length + 1 := by
  rcases h.st with ⟨h1, _⟩ | ⟨_, h1⟩ | ⟨_, _, h3, pre, h4, h5, _⟩ | ⟨_, _, _, h1⟩
  · rw [hf] at h1; cases h1
  · omega
  · rw [h4, List.length_append]; omega
  · omega

theorem RInv.step (h : RInv B la next i p) (hb : B.buf = none) (hal : la.getD B.al 0 ≠ 1) (hf : p.fin = false) : RInv B la next (i + 1) (stepP B la p) := by
  refine ⟨by rw [stepP_next]; exact h.nx, ?_⟩
  rcases h.st with ⟨h1, _⟩ | ⟨rfl, rfl⟩ | ⟨_, h2, h3, pre, h4, h5, h6⟩ | ⟨_, h2, h3, h5⟩
  · rw [hf] at h1; cases h1
  · rw [start_go next rfl hal]
    by_cases he : B.ids = []
    · rw [if_pos he]
      exact .inr (.inr (.inr ⟨rfl, rfl, he, rfl⟩))
    · rw [if_neg he]
      exact .inr (.inr (.inl ⟨rfl, rfl, he, [], rfl, rfl, fun x hx => by cases hx⟩))
  · obtain ⟨a, t, ht⟩ : ∃ a t, p.ids = a :: t := by
      cases e : p.ids with
      | nil => exact absurd e h3
      | cons a t => exact ⟨a, t, rfl⟩
    have hm : ∀ x ∈ pre ++ [a], min p.most (valAt la a) ≤ valAt la x := by
      intro x hx
      rcases List.mem_append.1 hx with hx | hx
      · exact Int.le_trans (Int.min_le_left _ _) (h6 x hx)
      · rw [List.mem_singleton.1 hx]; exact Int.min_le_right _ _
    by_cases he : t = []
    · subst he
      have e : stepP B la p = ⟨p.next, 1, [], min p.most (valAt la a), p.hi, min p.most (valAt la a), p.sign, true⟩ := by
        rw [stepP, if_neg (by rw [hf]; decide), if_neg (by omega), if_pos h2, if_pos (by rw [ht]; rfl), ht]; rfl
      rw [e]
      refine .inl ⟨rfl, fun x hx => ?_, fun e => ?_⟩
      · rw [h4, ht] at hx; exact hm x hx
      · rw [h4, ht] at e; simp at e
    · have e : stepP B la p = ⟨p.next, 1, t, min p.most (valAt la a), p.hi, p.pos, p.sign, false⟩ := by
        rw [stepP, if_neg (by rw [hf]; decide), if_neg (by omega), if_pos h2, if_neg (by rw [ht]; exact he), ht]; rfl
      rw [e]
      exact .inr (.inr (.inl ⟨rfl, rfl, he, pre ++ [a], by rw [h4, ht]; simp, by simp; omega, hm⟩))
  · rw [stepP, if_neg (by rw [hf]; decide), if_neg (by omega), if_neg (by omega), if_pos h2, if_pos (.inl hb)]
    exact .inl ⟨rfl, (fun x hx => by rw [h3] at hx; cases hx), fun _ => Int.le_refl _⟩

theorem le_foldmin {a : Int} : ∀ (l : List Int) (b : Int), a ≤ b → (∀ x ∈ l, a ≤ x) → a ≤ l.foldl min b
  | [], _, h, _ => h
  | x :: l, b, h, k => le_foldmin l (min b x) (by have := k x (List.mem_cons_self ..); omega) (fun y hy => k y (List.mem_cons_of_mem _ hy))

/-- What a look tells where there is neither a buffer nor an alert. -/
theorem plain_look (next : Int) (hb : B.buf = none) (hal : la.getD B.al 0 ≠ 1) : ∃ n r, EndsP B la (Pr.start next) n r ∧ n ≤ 2 + B.ids.length ∧ r.next = next ∧ r.sign = la.getD B.al 0 ∧
    ((B.ids ≠ [] ∧ r.pos = (B.ids.map (valAt la)).foldl min 9223372036854775807) ∨ (B.ids = [] ∧ r.pos = la.getD B.cur 0)) := by
  by_cases he : B.ids = []
  · exact ⟨_, _, ends_cursor next rfl hal he (.inl hb), by omega, rfl, rfl, .inr ⟨he, rfl⟩⟩
  · exact ⟨_, _, ends_after next rfl hal he, by omega, rfl, rfl, .inl ⟨he, rfl⟩⟩

theorem RInv.look (h : RInv B la next i p) (hf : p.fin = true) {n : Nat} {r : Pr} (he : EndsP B la (Pr.start next) n r) (hn : r.next = next) (hr : (B.ids ≠ [] ∧ r.pos = (B.ids.map (valAt la)).foldl min 9223372036854775807) ∨ (B.ids = [] ∧ r.pos = la.getD B.cur 0)) (hm : ∀ x ∈ B.ids, valAt la x ≤ 9223372036854775807) : p.avail ≤ r.avail := by
  have h1 : p.pos ≤ r.pos := by
    rcases h.st with ⟨_, h2, h3⟩ | ⟨rfl, _⟩ | ⟨h1, _⟩ | ⟨h1, _⟩
    · rcases hr with ⟨e, hr⟩ | ⟨e, hr⟩
      · rw [hr]
        refine le_foldmin _ _ ?_ (fun y hy => ?_)
        · obtain ⟨x, t, ht⟩ : ∃ x t, B.ids = x :: t := by
            cases e' : B.ids with
            | nil => exact absurd e' e
            | cons x t => exact ⟨x, t, rfl⟩
          exact Int.le_trans (h2 x (by rw [ht]; exact List.mem_cons_self ..)) (hm x (by rw [ht]; exact List.mem_cons_self ..))
        · obtain ⟨x, hx, rfl⟩ := List.mem_map.1 hy
          exact h2 x hx
      · rw [hr]; exact h3 e
    · cases hf
    · rw [hf] at h1; cases h1
    · rw [hf] at h1; cases h1
  rw [Pr.avail, Pr.avail, if_pos hf, if_pos he.fi, h.nx, hn]
  omega
end
end Go.Proofs.YtoifknfmamcimaaDoor
