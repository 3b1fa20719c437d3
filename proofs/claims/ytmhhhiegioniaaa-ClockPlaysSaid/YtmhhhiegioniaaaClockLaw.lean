/- The plain law of the clock: the program's list is the document's, sorted by times, the earlier set ahead. No program in sight. -/
import Derived.Test.YtmhhhiegioniaaaClock8
import Derived.Test.YtmhhhiegioniaaaClock9
namespace Go.Proofs.Ytmhhhiegioniaaa

/-- The document's timers, sorted. -/
def srt (m : List Tm) : List Tm := m.foldl (fun acc t => insT t acc) []

theorem srt_snoc (m : List Tm) (t : Tm) : srt (m ++ [t]) = insT t (srt m) := by simp [srt, List.foldl_append]

theorem insT_eq (t : Tm) (l : List Tm) : insT t l = l.takeWhile (fun x => !decide (t.at_ < x.at_)) ++ t :: l.dropWhile (fun x => !decide (t.at_ < x.at_)) := by
  unfold insT
  rw [List.takeWhile_eq_take_findIdx_not, List.dropWhile_eq_drop_findIdx_not]
  simp

def Sorted (l : List Tm) : Prop := l.Pairwise (fun a b => a.at_ ≤ b.at_)

theorem insT_cons (t x : Tm) (l : List Tm) : insT t (x :: l) = if t.at_ < x.at_ then t :: x :: l else x :: insT t l := by
  rw [insT_eq, insT_eq]
  by_cases h : t.at_ < x.at_
  · simp [h]
  · simp [h]

theorem insT_mem {t y : Tm} {l : List Tm} : y ∈ insT t l ↔ y = t ∨ y ∈ l := by
  unfold insT
  rw [List.mem_append, List.mem_cons]
  constructor
  · rintro (h | h | h)
    · exact .inr (List.mem_of_mem_take h)
    · exact .inl h
    · exact .inr (List.mem_of_mem_drop h)
  · rintro (h | h)
    · exact .inr (.inl h)
    · rw [← List.take_append_drop (l.findIdx (fun z => decide (t.at_ < z.at_))) l] at h
      rcases List.mem_append.1 h with h | h
      · exact .inl h
      · exact .inr (.inr h)

theorem insT_len (t : Tm) (l : List Tm) : (insT t l).length = l.length + 1 := by
  unfold insT
  rw [List.length_append, List.length_cons, List.length_take, List.length_drop]
  have := List.findIdx_le_length (xs := l) (p := fun z => decide (t.at_ < z.at_))
  omega

theorem srt_len (m : List Tm) : (srt m).length = m.length := by
  suffices h : ∀ (m acc : List Tm), (m.foldl (fun acc t => insT t acc) acc).length = m.length + acc.length by simpa [srt] using h m []
  intro m
  induction m with
  | nil => intro acc; simp
  | cons x m ih => intro acc; rw [List.foldl_cons, ih, insT_len, List.length_cons]; omega

theorem insT_sorted {t : Tm} {l : List Tm} (h : Sorted l) : Sorted (insT t l) := by
  induction l with
  | nil => simp [insT, Sorted]
  | cons x l ih =>
    rw [insT_cons]
    have hx := List.pairwise_cons.1 h
    split
    · next hlt =>
      refine List.pairwise_cons.2 ⟨fun y hy => ?_, h⟩
      rcases List.mem_cons.1 hy with rfl | hy
      · omega
      · have := hx.1 y hy; omega
    · next hlt =>
      refine List.pairwise_cons.2 ⟨fun y hy => ?_, ih hx.2⟩
      rcases insT_mem.1 hy with rfl | hy
      · omega
      · exact hx.1 y hy

theorem srt_sorted (m : List Tm) : Sorted (srt m) := by
  suffices h : ∀ (m acc : List Tm), Sorted acc → Sorted (m.foldl (fun acc t => insT t acc) acc) from h m [] List.Pairwise.nil
  intro m
  induction m with
  | nil => intro acc h; exact h
  | cons x m ih => intro acc h; exact ih _ (insT_sorted h)

theorem insT_filter (p : Tm → Bool) (t : Tm) (l : List Tm) (h : Sorted l) : (insT t l).filter p = if p t then insT t (l.filter p) else l.filter p := by
  induction l with
  | nil => simp [insT]; split <;> simp_all
  | cons x l ih =>
    have hx := List.pairwise_cons.1 h
    rw [insT_cons]
    by_cases hlt : t.at_ < x.at_
    · rw [if_pos hlt]
      by_cases hp : p t = true
      · rw [if_pos hp, List.filter_cons, if_pos hp]
        -- t stands ahead of all
        have hall : ∀ y ∈ (x :: l).filter p, t.at_ < y.at_ := by
          intro y hy
          rcases List.mem_cons.1 (List.mem_filter.1 hy).1 with rfl | hy
          · exact hlt
          · have := hx.1 y hy; omega
        cases hq : (x :: l).filter p with
        | nil => simp [insT]
        | cons z r => rw [insT_cons, if_pos (hall z (by rw [hq]; simp))]
      · simp only [hp]
        rw [List.filter_cons, if_neg (by simpa using hp)]
        simp
    · rw [if_neg hlt]
      by_cases hpx : p x = true
      · rw [List.filter_cons, if_pos hpx, ih hx.2, List.filter_cons, if_pos hpx]
        split
        · rw [insT_cons, if_neg hlt]
        · rfl
      · rw [List.filter_cons, if_neg hpx, ih hx.2, List.filter_cons, if_neg hpx]

theorem srt_filter (p : Tm → Bool) (m : List Tm) : srt (m.filter p) = (srt m).filter p := by
  suffices h : ∀ (m acc : List Tm), Sorted acc → (m.filter p).foldl (fun acc t => insT t acc) (acc.filter p) = (m.foldl (fun acc t => insT t acc) acc).filter p from h m [] List.Pairwise.nil
  intro m
  induction m with
  | nil => intro acc _; rfl
  | cons x m ih =>
    intro acc h
    rw [List.foldl_cons, ← ih _ (insT_sorted h), insT_filter p x acc h, List.filter_cons]
    split
    · rfl
    · rfl

/-- The place of the first least among the first j; -1: none. -/
def lstTo (m : List Tm) : Nat → Int
  | 0 => -1
  | j + 1 => if lstTo m j < 0 ∨ (m.getD j ⟨0, 0⟩).at_ < (m.getD (lstTo m j).toNat ⟨0, 0⟩).at_ then (j : Int) else lstTo m j

theorem lstTo_ok (m : List Tm) : ∀ j, j < m.length → ∃ i : Nat, lstTo m (j + 1) = i ∧ i ≤ j ∧ srt (m.take (j + 1)) = m.getD i ⟨0, 0⟩ :: srt ((m.take (j + 1)).eraseIdx i)
  | 0, h => by
    obtain ⟨x, r, rfl⟩ : ∃ x r, m = x :: r := by cases m with | nil => simp at h | cons x r => exact ⟨x, r, rfl⟩
    exact ⟨0, by simp [lstTo], Nat.le_refl _, by simp [srt, insT]⟩
  | j + 1, h => by
    obtain ⟨i, hi, hij, hs⟩ := lstTo_ok m j (by omega)
    have ht : m.take (j + 1 + 1) = m.take (j + 1) ++ [m.getD (j + 1) ⟨0, 0⟩] := by
      rw [List.take_add_one, List.getElem?_eq_getElem h]; simp [List.getD, h]
    have hl : (m.take (j + 1)).length = j + 1 := by rw [List.length_take]; omega
    by_cases hc : (m.getD (j + 1) ⟨0, 0⟩).at_ < (m.getD i ⟨0, 0⟩).at_
    · refine ⟨j + 1, ?_, Nat.le_refl _, ?_⟩
      · rw [lstTo, hi, if_pos (.inr (by simpa using hc))]
      · rw [ht, srt_snoc, hs, insT_cons, if_pos hc, ← hs]
        rw [List.eraseIdx_append_of_length_le (by omega), hl]
        simp
    · refine ⟨i, ?_, by omega, ?_⟩
      · rw [lstTo, hi, if_neg (fun h => by
          rcases h with h | h
          · omega
          · exact hc (by simpa using h))]
      · rw [ht, srt_snoc, hs, insT_cons, if_neg hc, List.eraseIdx_append_of_lt_length (by omega), srt_snoc]

theorem least_head {m : List Tm} (h : m ≠ []) : ∃ i : Nat, lstTo m m.length = i ∧ i < m.length ∧ srt m = m.getD i ⟨0, 0⟩ :: srt (m.eraseIdx i) := by
  have hl : 0 < m.length := List.length_pos_iff.2 h
  obtain ⟨i, h1, h2, h3⟩ := lstTo_ok m (m.length - 1) (by omega)
  have e : m.length - 1 + 1 = m.length := by omega
  rw [e] at h1 h3
  rw [List.take_length] at h3
  exact ⟨i, h1, by omega, h3⟩
end Go.Proofs.Ytmhhhiegioniaaa
