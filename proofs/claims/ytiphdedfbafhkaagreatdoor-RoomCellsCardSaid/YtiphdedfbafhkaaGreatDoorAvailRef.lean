/- Contracts of the document's Is and Highest of layer 7, and how they go with a buffer's cells. No condition beyond each contract's own. -/
import Derived.Test.YtiphdedfbafhkaaGreatDoorAvail2
import Derived.Deep.QuietTactic
import Derived.BigQuiet
namespace Go.Proofs.YtiphdedfbafhkaaGreatDoor
open Go.RowKit

/-- Was an index the last that was shown at its slot? -/
def refIs (l : List Int) (m seq : Int) : Bool := match l.reverse.find? (fun x => x % m == seq % m) with
  | some x => x == seq
  | none => false

theorem refIs_nil (m seq : Int) : refIs [] m seq = false := rfl
theorem refIs_snoc (l : List Int) (k m seq : Int) : refIs (l ++ [k]) m seq = if k % m = seq % m then k == seq else refIs l m seq := by
  unfold refIs
  rw [List.reverse_append]
  simp only [List.reverse_cons, List.reverse_nil, List.nil_append, List.cons_append, List.find?_cons]
  by_cases h : k % m = seq % m
  · simp [h]
  · have h' : (k % m == seq % m) = false := by simpa using h
    rw [if_neg h, h']

/-- How a buffer's cells and all that was shown go together. -/
def ShownAs (la shown : List Int) (first sh : Nat) : Prop := ∀ seq : Int, 0 ≤ seq → shownAt la first sh seq = refIs shown (2 ^ sh) seq

theorem ShownAs.start (la0 : List Int) (sh : Nat) (hsh : sh < 21) : ShownAs (la0 ++ List.replicate (2 ^ sh) (-1)) [] la0.length sh := by
  intro seq hs
  have hb := two_pow_bd sh hsh
  have hq : 0 ≤ seq / 2 ^ sh := Int.ediv_nonneg hs (by omega)
  have hj := (slotOf_lt sh seq hsh).1
  have hv : (la0 ++ List.replicate (2 ^ sh) (-1)).getD (la0.length + slotOf sh seq) 0 = -1 := by
    rw [List.getD_eq_getElem?_getD, List.getElem?_append_right (by omega)]
    simp [hj]
  unfold shownAt
  rw [hv, refIs_nil]
  simp
  omega

theorem ShownAs.put {la shown : List Int} {first sh : Nat} (hsh : sh < 21) (h : ShownAs la shown first sh) (hl : first + 2 ^ sh ≤ la.length) (k : Int) (_hk : 0 ≤ k) :
    ShownAs (la.set (first + slotOf sh k) (k / 2 ^ sh)) (shown ++ [k]) first sh := by
  intro seq hs
  rw [refIs_snoc]
  have hj := (slotOf_lt sh k hsh).1
  by_cases he : slotOf sh k = slotOf sh seq
  · have hm : k % 2 ^ sh = seq % 2 ^ sh := by rw [← (slotOf_lt sh k hsh).2, ← (slotOf_lt sh seq hsh).2, he]
    rw [if_pos hm]
    unfold shownAt
    rw [he, List.getD_eq_getElem?_getD, List.getElem?_set_self (by omega), Option.getD_some, Bool.eq_iff_iff, beq_iff_eq, beq_iff_eq]
    constructor
    · intro hd
      have e1 := Int.mul_ediv_add_emod k (2 ^ sh)
      have e2 := Int.mul_ediv_add_emod seq (2 ^ sh)
      rw [hd, hm] at e1
      omega
    · rintro rfl; rfl
  · have hm : ¬ k % 2 ^ sh = seq % 2 ^ sh := fun e => he (by unfold slotOf; rw [e])
    rw [if_neg hm, ← h seq hs]
    unfold shownAt
    rw [List.getD_eq_getElem?_getD, List.getElem?_set_ne (by omega), List.getD_eq_getElem?_getD]

/-- The indexes from lo on, so many. -/
def runOf (lo : Int) (n : Nat) : List Int := (List.range n).map fun i => lo + (i : Nat)
theorem runOf_succ (lo : Int) (n : Nat) : runOf lo (n + 1) = runOf lo n ++ [lo + (n : Nat)] := by simp [runOf, List.range_succ]

theorem ShownAs.run {la shown : List Int} {first sh : Nat} (hsh : sh < 21) (h : ShownAs la shown first sh) (hl : first + 2 ^ sh ≤ la.length) (lo : Int) (h0 : 0 ≤ lo) : ∀ n : Nat, ShownAs (showAll la first sh lo n) (shown ++ runOf lo n) first sh
  | 0 => by simpa [showAll, runOf] using h
  | n + 1 => by
    rw [showAll_succ, runOf_succ, ← List.append_assoc]
    exact (ShownAs.run hsh h hl lo h0 n).put hsh (by rw [showAll_len]; exact hl) _ (by omega)

theorem showAll_low {la : List Int} {first sh : Nat} {lo : Int} {i : Nat} (hi : i < first) : ∀ n : Nat, (showAll la first sh lo n)[i]? = la[i]?
  | 0 => rfl
  | n + 1 => by rw [showAll_succ, List.getElem?_set_ne (by omega)]; exact showAll_low hi n
end Go.Proofs.YtiphdedfbafhkaaGreatDoor
