/- The document's table of who is ahead of whom. No condition beyond each contract's own. -/
import Derived.Test.YtmhhhiegioniaaaRGraph2
namespace Go.Proofs.Ytmhhhiegioniaaa
open Go.RowKit Go.Deep

/-! ### The plain law -/

/-- By nodes below so many. -/
def fw (A : List (List Nat)) : Nat → Nat → Nat → Bool
  | 0, i, j => decide (j ∈ A.getD i [])
  | k + 1, i, j => fw A k i j || (fw A k i k && fw A k k j)

theorem fw_row {A : List (List Nat)} (k i : Nat) : fw A (k + 1) i k = fw A k i k := by
  rw [fw]; cases fw A k i k <;> simp
theorem fw_col {A : List (List Nat)} (k j : Nat) : fw A (k + 1) k j = fw A k k j := by
  rw [fw]; cases fw A k k j <;> simp

theorem fw_sound {A : List (List Nat)} : ∀ (k i j : Nat), fw A k i j = true → Reaches A i j
  | 0, i, j, h => .base (by rw [fw] at h; simpa using h)
  | k + 1, i, j, h => by
    rw [fw, Bool.or_eq_true, Bool.and_eq_true] at h
    rcases h with h | ⟨h1, h2⟩
    · exact fw_sound k i j h
    · exact (fw_sound k i k h1).trans (fw_sound k k j h2)

theorem fw_mono {A : List (List Nat)} {i j : Nat} : ∀ (k : Nat), j ∈ A.getD i [] → fw A k i j = true
  | 0, h => by rw [fw]; simpa using h
  | k + 1, h => by rw [fw, fw_mono k h]; rfl

theorem fw_trans {A : List (List Nat)} : ∀ (k m i j : Nat), m < k → fw A k i m = true → fw A k m j = true → fw A k i j = true
  | 0, _, _, _, h, _, _ => absurd h (Nat.not_lt_zero _)
  | k + 1, m, i, j, h, h1, h2 => by
    by_cases hm : m = k
    · subst hm
      rw [fw_row] at h1
      rw [fw_col] at h2
      rw [fw, h1, h2]; simp
    · have hlt : m < k := by omega
      rw [fw, Bool.or_eq_true, Bool.and_eq_true] at h1 h2
      rw [fw, Bool.or_eq_true, Bool.and_eq_true]
      rcases h1 with h1 | ⟨h1, h3⟩
      · rcases h2 with h2 | ⟨h2, h4⟩
        · exact .inl (fw_trans k m i j hlt h1 h2)
        · exact .inr ⟨fw_trans k m i k hlt h1 h2, h4⟩
      · rcases h2 with h2 | ⟨h2, h4⟩
        · exact .inr ⟨h1, fw_trans k m k j hlt h3 h2⟩
        · exact .inr ⟨h1, h4⟩

theorem fw_all {A : List (List Nat)} {G : List Bool} (h : Good A G) (i j : Nat) : fw A A.length i j = reachB A i j := by
  rw [Bool.eq_iff_iff, reachB_iff]
  refine ⟨fw_sound _ _ _, fun hr => ?_⟩
  induction hr with
  | base h1 => exact fw_mono _ h1
  | step h1 h2 ih => exact fw_trans _ _ _ _ (h.rlt h1) ih (fw_mono _ h2)

/-- Part of a round: those ahead of a place are done. -/
def fwP (A : List (List Nat)) (k i j : Nat) : Nat → Nat → Bool := fun a b => if a < i ∨ (a = i ∧ b < j) then fw A (k + 1) a b else fw A k a b

theorem fwP_start (A : List (List Nat)) (k : Nat) : fwP A k 0 0 = fw A k := by funext a b; rw [fwP, if_neg (by omega)]
theorem fwP_end (A : List (List Nat)) (k n a : Nat) (ha : a < n) : fwP A k n 0 a = fw A (k + 1) a := by funext b; rw [fwP, if_pos (by omega)]
theorem fwP_row (A : List (List Nat)) (k i n a : Nat) (hn : ∀ b, n ≤ b → fw A (k + 1) i b = fw A k i b) : fwP A k i n a = fwP A k (i + 1) 0 a := by
  funext b
  rw [fwP, fwP]
  by_cases h : a = i
  · subst h
    by_cases hb : b < n
    · rw [if_pos (by omega), if_pos (by omega)]
    · rw [if_neg (by omega), if_pos (by omega), hn b (by omega)]
  · by_cases h2 : a < i
    · rw [if_pos (by omega), if_pos (by omega)]
    · rw [if_neg (by omega), if_neg (by omega)]
theorem fw_out {A : List (List Nat)} {G : List Bool} (h : Good A G) (k i b : Nat) (hb : A.length ≤ b) : fw A k i b = false := by
  rw [Bool.eq_false_iff]
  intro e
  have := h.rlt (fw_sound _ _ _ e)
  omega

theorem fwP_step (A : List (List Nat)) (k i j : Nat) : fwP A k i (j + 1) i = if fwP A k i j i k && fwP A k i j k j then upd (fwP A k i j i) j else fwP A k i j i := by
  have e1 : fwP A k i j i k = fw A k i k := by
    rw [fwP]; split
    · exact fw_row k i
    · rfl
  have e2 : fwP A k i j k j = fw A k k j := by
    rw [fwP]; split
    · exact fw_col k j
    · rfl
  rw [e1, e2]
  funext b
  by_cases hb : b = j
  · subst hb
    rw [fwP, if_pos (by omega), fw]
    by_cases hc : (fw A k i k && fw A k k b) = true
    · rw [if_pos hc, hc, Bool.or_true]; simp [upd]
    · have hc' : (fw A k i k && fw A k k b) = false := by simpa using hc
      rw [if_neg hc, hc', Bool.or_false, fwP, if_neg (by omega)]
  · have h1 : fwP A k i (j + 1) i b = fwP A k i j i b := by
      rw [fwP, fwP]
      by_cases h : b < j
      · rw [if_pos (by omega), if_pos (by omega)]
      · rw [if_neg (by omega), if_neg (by omega)]
    rw [h1]
    split
    · unfold upd; rw [if_neg hb]
    · rfl

theorem fwP_other (A : List (List Nat)) (k i j a : Nat) (h : a ≠ i) : fwP A k i (j + 1) a = fwP A k i j a := by
  funext b
  rw [fwP, fwP]
  by_cases h2 : a < i
  · rw [if_pos (by omega), if_pos (by omega)]
  · rw [if_neg (by omega), if_neg (by omega)]

/-! ### Tables -/

/-- A table of so many rows: its outer slice, each row a block of its own. -/
structure TabIs (c : Nat → Nat) (κ : Nat → Nat) (w : World) (ta : Option Addr) (N tcap n : Nat) (B : Nat → Nat) (T : Nat → Nat → Bool) : Prop where
  ho : Row c (κ 0) w 76 1 ta N tcap ((List.range N).map (fun i => Value.slice (some ⟨B i, 0, none⟩) n n))
  hr : ∀ i, i < N → Blk c (κ (i + 1)) w (B i) (bitsN n (T i)) 4

section
variable {c c' : Nat → Nat} {κ : Nat → Nat} {w w' : World} {ta : Option Addr} {N tcap n : Nat} {B : Nat → Nat} {T : Nat → Nat → Bool}

theorem TabIs.stp {J : Nat → Prop} (h : TabIs c κ w ta N tcap n B T) (s : Stp J c c' w w') (hJ : ∀ i, i ≤ N → ¬ J (κ i)) : TabIs c' κ w' ta N tcap n B T :=
  ⟨h.ho.stp s (hJ 0 (Nat.zero_le _)), fun i hi => (h.hr i hi).stp s (hJ (i + 1) (by omega))⟩

theorem TabIs.congr {T' : Nat → Nat → Bool} (h : TabIs c κ w ta N tcap n B T) (e : ∀ i, i < N → T i = T' i) : TabIs c κ w ta N tcap n B T' :=
  ⟨h.ho, fun i hi => by rw [← e i hi]; exact h.hr i hi⟩

theorem TabIs.cell (h : TabIs c κ w ta N tcap n B T) {i : Nat} (hi : i < N) :
    ∃ g off, ta = some ⟨g, off, none⟩ ∧ g < w.heap.size ∧ w.cell? ⟨g, off + i, none⟩ = some (.slice (some ⟨B i, 0, none⟩) n n) ∧ B i < w.heap.size ∧ ∀ j, j < n → w.cell? ⟨B i, j, none⟩ = some (.bool (T i j)) ∧ w.frozen? ⟨B i, j, none⟩ = false := by
  obtain ⟨a, rfl, hs, hc, -, ha, -⟩ := h.ho.cell (j := i) (v := .slice (some ⟨B i, 0, none⟩) n n) (by simp [hi])
  obtain ⟨g, off, sp⟩ := a
  simp only at hs
  subst hs
  rw [ha] at hc
  obtain ⟨cur, hb, -⟩ := h.ho.2.2.2.2.2
  exact ⟨g, off, rfl, lt_of_block hb, hc, (h.hr i hi).lt, fun j hj => ⟨by rw [(h.hr i hi).cell, bitsN_get hj], (h.hr i hi).free j⟩⟩

theorem TabIs.set (h : TabIs c κ w ta N tcap n B T) (hk : ∀ a b, κ a = κ b → a = b) {i : Nat} (hi : i < N) (j : Nat) :
    TabIs c κ (w.setCell ⟨B i, j, none⟩ (.bool true)) ta N tcap n B (fun a => if a = i then upd (T i) j else T a) := by
  have hc := (h.hr i hi).1
  refine ⟨h.ho.other (u := .bool true) _ (h.ho.ne_col (by simp only; rw [hc]; exact fun e => absurd (hk _ _ e) (by omega))) rfl, fun a ha => ?_⟩
  by_cases e : a = i
  · subst e
    rw [if_pos rfl, ← bitsN_set]
    exact (h.hr a ha).set j (.bool true)
  · rw [if_neg e]
    refine (h.hr a ha).other _ (fun e2 => e ?_)
    simp only at e2
    have h1 := (h.hr a ha).1
    rw [← e2, hc] at h1
    have := hk _ _ h1
    omega
end
end Go.Proofs.Ytmhhhiegioniaaa
