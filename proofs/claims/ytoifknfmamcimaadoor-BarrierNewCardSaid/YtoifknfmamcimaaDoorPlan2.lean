/- What a plan's arena says behind all stores, in plain Lean. No condition beyond each law's own. -/
import Derived.Test.YtoifknfmamcimaaDoorPlan
import Derived.Test.YtoifknfmamcimaaDoorAvailRef
namespace Go.Proofs.YtoifknfmamcimaaDoor
open Go.RowKit

theorem refIs_mem {l : List Int} {m seq : Int} (h : refIs l m seq = true) : seq ∈ l := by
  unfold refIs at h
  split at h
  · rename_i x hx
    have := List.mem_of_find?_eq_some hx
    have e : x = seq := by simpa using h
    rw [← e]
    simpa using this
  · cases h

theorem left_mem {la shown : List Int} {first sh : Nat} (h : ShownAs la shown first sh) (seq : Int) (h0 : 0 ≤ seq) : seq ∈ shown.filter (refIs shown (2 ^ sh)) ↔ shownAt la first sh seq = true := by
  rw [h seq h0, List.mem_filter]
  exact ⟨fun h => h.2, fun h => ⟨refIs_mem h, h⟩⟩

theorem set_last (la : List Int) (a : Int) : (la ++ [0]).set la.length a = la ++ [a] := by simp

theorem getD_snoc {la : List Int} {a : Int} {i : Nat} (h : i < la.length) : (la ++ [a]).getD i 0 = la.getD i 0 := by
  simp [List.getD, List.getElem?_append_left h]

theorem shownAs_snoc {la shown : List Int} {first sh : Nat} (hsh : sh < 21) (hl : first + 2 ^ sh ≤ la.length) (h : ShownAs la shown first sh) (a : Int) : ShownAs (la ++ [a]) shown first sh := by
  intro seq h0
  rw [← h seq h0, shownAt, shownAt, getD_snoc (by have := (slotOf_lt sh seq hsh).1; omega)]

theorem low_facts {p : Pln} {la : List Int} (hl : p.after.length + 1 ≤ la.length) (low : ∀ i, i < p.after.length + 1 → la[i]? = (p.cursor :: p.after)[i]?) (a : Int) :
    (la ++ [a]).getD 0 0 = p.cursor ∧ (∀ i, i < p.after.length → (la ++ [a]).getD (i + 1) 0 = p.after.getD i 0) ∧ (la ++ [a]).getD la.length 0 = a := by
  refine ⟨?_, fun i hi => ?_, by simp [List.getD]⟩
  · rw [getD_snoc (by omega), List.getD, low 0 (by omega)]
    simp
  · rw [getD_snoc (by omega), List.getD, low (i + 1) (by omega)]
    simp [List.getD]

theorem begR_false {p : Pln} (hb : p.buffer = false) : BegR p (((p.cursor :: p.after) ++ [0]).set (p.cursor :: p.after).length p.alert) [] (p.cursor :: p.after).length := by
  rw [set_last]
  obtain ⟨h1, h2, h3⟩ := low_facts (p := p) (la := p.cursor :: p.after) (by simp) (fun _ _ => rfl) p.alert
  exact ⟨by simp, by simp only [List.length_cons]; omega, h1, h2, h3, fun _ => rfl, fun h => by rw [hb] at h; cases h⟩

theorem begR_true {p : Pln} {la : List Int} (hb : p.buffer = true) (hl : la.length = p.after.length + 1 + 2 ^ (p.shift % 7)) (low : ∀ i, i < p.after.length + 1 → la[i]? = (p.cursor :: p.after)[i]?) (hs : ShownAs la p.shown (p.after.length + 1) (p.shift % 7)) :
    BegR p ((la ++ [0]).set la.length p.alert) (p.shown.filter (refIs p.shown (2 ^ (p.shift % 7)))) la.length := by
  rw [set_last]
  have h7 : p.after.length + 1 ≤ la.length := by rw [hl]; exact Nat.le_add_right _ _
  obtain ⟨h1, h2, h3⟩ := low_facts (p := p) (la := la) h7 low p.alert
  have h4 : (2 : Nat) ^ (p.shift % 7) ≤ 2 ^ 6 := Nat.pow_le_pow_right (by decide) (by omega)
  have h5 : (0 : Nat) < 2 ^ (p.shift % 7) := Nat.pow_pos (by decide)
  have h6 : p.after.length + 1 ≤ la.length ∧ la.length ≤ p.after.length + 65 := by
    rw [hl]
    clear hs low h1 h2 h3 hl
    generalize (2 : Nat) ^ (p.shift % 7) = m at *
    omega
  exact ⟨by simp, h6, h1, h2, h3, fun h => by rw [hb] at h; (cases h), fun _ => ⟨hl.symm, fun seq h0 => left_mem (shownAs_snoc (by omega) (by rw [hl]; exact Nat.le_refl _) hs _) seq h0⟩⟩
end Go.Proofs.YtoifknfmamcimaaDoor
