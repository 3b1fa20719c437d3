/- The plain law of graphs: who reaches whom, the order, the depths, and what each change leaves. No program in sight, no condition beyond each lemma's own. -/
import Derived.Test.YtmhhhiegioniaaaGraph2
namespace Go.Proofs.Ytmhhhiegioniaaa
open Go.RowKit

/-- By however many steps. -/
inductive Reaches (A : List (List Nat)) : Nat → Nat → Prop
  | base {x y : Nat} : y ∈ A.getD x [] → Reaches A x y
  | step {x y z : Nat} : Reaches A x y → z ∈ A.getD y [] → Reaches A x z

theorem Reaches.trans {A : List (List Nat)} {x y z : Nat} (h : Reaches A x y) (k : Reaches A y z) : Reaches A x z := by
  induction k with
  | base h2 => exact .step h h2
  | step _ h2 ih => exact .step ih h2

theorem Reaches.head {A : List (List Nat)} {x y : Nat} (h : Reaches A x y) : ∃ z, z ∈ A.getD x [] ∧ (z = y ∨ Reaches A z y) := by
  induction h with
  | base h => exact ⟨_, h, .inl rfl⟩
  | step _ h2 ih =>
    obtain ⟨z, hz, h3⟩ := ih
    rcases h3 with rfl | h3
    · exact ⟨_, hz, .inr (.base h2)⟩
    · exact ⟨z, hz, .inr (.step h3 h2)⟩

theorem Reaches.last {A : List (List Nat)} {x y : Nat} (h : Reaches A x y) : ∃ z, y ∈ A.getD z [] := by
  cases h with
  | base h => exact ⟨_, h⟩
  | step _ h2 => exact ⟨_, h2⟩

/-- A graph as the program makes them. -/
structure Good (A : List (List Nat)) (G : List Bool) : Prop where
  len : A.length = G.length
  le : A.length ≤ 64
  has : ∀ x y, y ∈ A.getD x [] → hasB G (y : Nat) = true
  own : ∀ x : Nat, hasB G x = false → A.getD x [] = []
  nd : ∀ x, (A.getD x []).Nodup
  rk : ∃ r : Nat → Nat, ∀ x y, y ∈ A.getD x [] → r y < r x

theorem hasB_nat_lt {G : List Bool} {x : Nat} (h : hasB G x = true) : x < G.length := by
  obtain ⟨_, h1, _⟩ := hasB_lt h
  rwa [Int.toNat_natCast] at h1

theorem Good.lt {A : List (List Nat)} {G : List Bool} (h : Good A G) {x y : Nat} (hy : y ∈ A.getD x []) : y < A.length := by
  rw [h.len]; exact hasB_nat_lt (h.has x y hy)

theorem Good.rlt {A : List (List Nat)} {G : List Bool} (h : Good A G) {x y : Nat} (hy : Reaches A x y) : y < A.length := by
  obtain ⟨z, hz⟩ := hy.last
  exact h.lt hz

theorem Good.rhas {A : List (List Nat)} {G : List Bool} (h : Good A G) {x y : Nat} (hy : Reaches A x y) : hasB G y = true := by
  obtain ⟨z, hz⟩ := hy.last
  exact h.has _ _ hz

theorem nodup_le : ∀ {n : Nat} {l : List Nat}, l.Nodup → (∀ x ∈ l, x < n) → l.length ≤ n
  | 0, l, _, hl => by
    cases l with
    | nil => exact Nat.le_refl _
    | cons x l => exact absurd (hl x (List.mem_cons_self ..)) (Nat.not_lt_zero _)
  | n + 1, l, hn, hl => by
    have h1 := nodup_le (n := n) (hn.erase n) (fun x hx => by
      rw [hn.mem_erase_iff] at hx
      have := hl x hx.2
      have := hx.1
      omega)
    have h2 := List.length_erase (a := n) (l := l)
    split at h2 <;> omega

theorem Good.small {A : List (List Nat)} {G : List Bool} (h : Good A G) (x : Nat) : (A.getD x []).length ≤ 64 :=
  Nat.le_trans (nodup_le (h.nd x) (fun _ hy => h.lt hy)) h.le

theorem rank_reach {A : List (List Nat)} {r : Nat → Nat} (h : ∀ x y, y ∈ A.getD x [] → r y < r x) {x y : Nat} (hr : Reaches A x y) : r y < r x := by
  induction hr with
  | base h1 => exact h _ _ h1
  | step _ h2 ih => exact Nat.lt_trans (h _ _ h2) ih

theorem Good.acyc {A : List (List Nat)} {G : List Bool} (h : Good A G) (x : Nat) : ¬ Reaches A x x := by
  obtain ⟨r, hr⟩ := h.rk
  intro hh
  exact absurd (rank_reach hr hh) (Nat.lt_irrefl _)

theorem Good.empty : Good [] [] := ⟨rfl, by decide, by simp, by simp, by simp, ⟨fun _ => 0, by simp⟩⟩

/-! ### Add -/

theorem getD_app (A : List (List Nat)) (l : List Nat) (x : Nat) : (A ++ [l]).getD x [] = if x = A.length then l else A.getD x [] := by
  simp only [List.getD_eq_getElem?_getD]
  by_cases h : x < A.length
  · rw [if_neg (by omega), List.getElem?_append_left h]
  · by_cases h2 : x = A.length
    · subst h2; simp
    · rw [if_neg h2, List.getElem?_eq_none (by simp; omega), List.getElem?_eq_none (by omega)]

theorem hasB_app (G : List Bool) (x : Nat) : hasB (G ++ [false]) x = (hasB G x || decide (x = G.length)) := by
  simp only [hasB, Int.toNat_natCast, List.getD_eq_getElem?_getD]
  have e : decide ((0 : Int) ≤ (x : Int)) = true := by simp
  rw [e]
  by_cases h : x < G.length
  · rw [List.getElem?_append_left h, decide_eq_false (by omega : ¬ x = G.length), Bool.or_false]
  · by_cases h2 : x = G.length
    · subst h2; simp
    · rw [List.getElem?_eq_none (by simp; omega), List.getElem?_eq_none (by omega), decide_eq_false h2]; rfl

theorem Good.add {A : List (List Nat)} {G : List Bool} (h : Good A G) (hl : A.length < 64) {l : List Nat} (hh : ∀ y ∈ l, hasB G y = true) (hn : l.Nodup) : Good (A ++ [l]) (G ++ [false]) := by
  obtain ⟨r, hr⟩ := h.rk
  refine ⟨by simp [h.len], by simp; omega, ?_, ?_, ?_, ?_⟩
  · intro x y hy
    rw [getD_app] at hy
    rw [hasB_app]
    split at hy
    · rw [hh y hy]; rfl
    · rw [h.has x y hy]; rfl
  · intro x hx
    rw [hasB_app] at hx
    simp only [Bool.or_eq_false_iff, decide_eq_false_iff_not] at hx
    rw [getD_app, if_neg (by rw [h.len]; exact hx.2)]
    exact h.own x hx.1
  · intro x
    rw [getD_app]
    split
    · exact hn
    · exact h.nd x
  · refine ⟨fun x => if x = A.length then l.foldl (fun m y => m + r y + 1) 0 else r x, fun x y hy => ?_⟩
    have key : ∀ (q : List Nat) (m : Nat), m ≤ q.foldl (fun m y => m + r y + 1) m ∧ ∀ y ∈ q, r y < q.foldl (fun m y => m + r y + 1) m := by
      intro q
      induction q with
      | nil => intro m; simp
      | cons z q ih =>
        intro m
        obtain ⟨i1, i2⟩ := ih (m + r z + 1)
        rw [List.foldl_cons]
        refine ⟨by omega, fun y hy => ?_⟩
        rcases List.mem_cons.1 hy with rfl | hy
        · omega
        · exact i2 y hy
    rw [getD_app] at hy
    have hyl : y < A.length := by
      split at hy
      · rw [h.len]; exact hasB_nat_lt (hh y hy)
      · exact h.lt hy
    simp only
    rw [if_neg (by omega : ¬ y = A.length)]
    split at hy
    · next hx => rw [if_pos hx]; exact (key l 0).2 y hy
    · next hx => rw [if_neg hx]; exact hr x y hy

/-! ### Link -/

theorem getD_set (A : List (List Nat)) (i : Nat) (l : List Nat) (hi : i < A.length) (x : Nat) : (A.set i l).getD x [] = if x = i then l else A.getD x [] := by
  simp only [List.getD_eq_getElem?_getD, List.getElem?_set]
  by_cases h : i = x
  · subst h; simp [hi]
  · rw [if_neg h, if_neg (fun e => h e.symm)]

theorem Good.link {A : List (List Nat)} {G : List Bool} (h : Good A G) {x y : Nat} (hx : hasB G x = true) (hy : hasB G y = true) (hne : x ≠ y) (hr : ¬ Reaches A y x) (hm : y ∉ A.getD x []) : Good (A.set x (A.getD x [] ++ [y])) G := by
  classical
  obtain ⟨r, hrk⟩ := h.rk
  have hi : x < A.length := by rw [h.len]; exact hasB_nat_lt hx
  refine ⟨by simp [h.len], by simp [h.le], ?_, ?_, ?_, ?_⟩
  · intro u v hv
    rw [getD_set _ _ _ hi] at hv
    split at hv
    · rcases List.mem_append.1 hv with hv | hv
      · exact h.has _ _ hv
      · simp at hv; subst hv; exact hy
    · exact h.has _ _ hv
  · intro u hu
    rw [getD_set _ _ _ hi, if_neg (by rintro rfl; rw [hx] at hu; cases hu)]
    exact h.own u hu
  · intro u
    rw [getD_set _ _ _ hi]
    split
    · rw [List.nodup_append]
      exact ⟨h.nd x, by simp, by intro a ha b hb; simp at hb; subst hb; rintro rfl; exact hm ha⟩
    · exact h.nd u
  · refine ⟨fun z => r z + (if z = x ∨ Reaches A z x then r y + 1 else 0), fun u v hv => ?_⟩
    simp only
    rw [getD_set _ _ _ hi] at hv
    have old : v ∈ A.getD u [] → r v + (if v = x ∨ Reaches A v x then r y + 1 else 0) < r u + (if u = x ∨ Reaches A u x then r y + 1 else 0) := by
      intro hw
      have h1 := hrk _ _ hw
      by_cases h2 : v = x ∨ Reaches A v x
      · have h3 : u = x ∨ Reaches A u x := by
          rcases h2 with h2 | h2
          · exact .inr (.base (h2 ▸ hw))
          · exact .inr ((Reaches.base hw).trans h2)
        rw [if_pos h2, if_pos h3]; omega
      · rw [if_neg h2]; omega
    split at hv
    · next hux =>
      subst hux
      rcases List.mem_append.1 hv with hv | hv
      · exact old hv
      · simp at hv
        subst hv
        rw [if_pos (Or.inl rfl), if_neg (by rintro (e | e); exact hne e.symm; exact hr e)]
        omega
    · exact old hv

/-! ### Drop -/

theorem hasB_set (G : List Bool) (i x : Nat) (hi : i < G.length) : hasB (G.set i true) x = (hasB G x && decide (x ≠ i)) := by
  simp only [hasB, Int.toNat_natCast, List.getD_eq_getElem?_getD, List.getElem?_set]
  by_cases h : i = x
  · subst h; simp [hi]
  · rw [if_neg h, decide_eq_true (show x ≠ i from fun e => h e.symm), Bool.and_true]

theorem Good.drop {A : List (List Nat)} {G : List Bool} (h : Good A G) {x : Nat} (hx : hasB G x = true) (hb : behindL A x = []) : Good (A.set x []) (G.set x true) := by
  obtain ⟨r, hrk⟩ := h.rk
  have hg := hasB_nat_lt hx
  have hi : x < A.length := by rw [h.len]; exact hg
  have sub : ∀ u v, v ∈ (A.set x []).getD u [] → v ∈ A.getD u [] := by
    intro u v hv
    rw [getD_set _ _ _ hi] at hv
    split at hv
    · cases hv
    · exact hv
  refine ⟨by simp [h.len], by simp [h.le], ?_, ?_, ?_, ⟨r, fun u v hv => hrk u v (sub u v hv)⟩⟩
  · intro u v hv
    replace hv := sub u v hv
    rw [hasB_set _ _ _ hg, h.has _ _ hv, Bool.true_and, decide_eq_true_eq]
    rintro rfl
    have hu : u < A.length := by
      by_cases hu : u < A.length
      · exact hu
      · rw [List.getD_eq_getElem?_getD, List.getElem?_eq_none (by omega)] at hv
        cases hv
    have : u ∈ behindL A v := by
      rw [behindL, List.mem_filter]
      exact ⟨List.mem_range.2 hu, by simpa using hv⟩
    rw [hb] at this
    cases this
  · intro u hu
    rw [hasB_set _ _ _ hg, Bool.and_eq_false_iff] at hu
    rw [getD_set _ _ _ hi]
    split
    · rfl
    · next hne =>
      rcases hu with hu | hu
      · exact h.own u hu
      · simp at hu; exact absurd hu hne
  · intro u
    rw [getD_set _ _ _ hi]
    split
    · exact List.nodup_nil
    · exact h.nd u

/-! ### All that a node reaches -/

open Classical in
noncomputable def reachB (A : List (List Nat)) (x y : Nat) : Bool := decide (Reaches A x y)

theorem reachB_iff {A : List (List Nat)} {x y : Nat} : reachB A x y = true ↔ Reaches A x y := by simp [reachB]

noncomputable def reachL (A : List (List Nat)) (x : Nat) : List Nat := (List.range A.length).filter (reachB A x)

theorem mem_reachL {A : List (List Nat)} {G : List Bool} (h : Good A G) {x y : Nat} : y ∈ reachL A x ↔ Reaches A x y := by
  rw [reachL, List.mem_filter, reachB_iff, List.mem_range]
  exact ⟨fun h => h.2, fun hr => ⟨h.rlt hr, hr⟩⟩

theorem reach_closed {A : List (List Nat)} {x : Nat} {S : Nat → Bool} (h1 : ∀ y ∈ A.getD x [], S y = true) (h2 : ∀ z y, S z = true → y ∈ A.getD z [] → S y = true) {y : Nat} (h : Reaches A x y) : S y = true := by
  induction h with
  | base h => exact h1 _ h
  | step _ h3 ih => exact h2 _ _ ih h3

/-! ### The order -/

def nextN (A : List (List Nat)) (G : List Bool) (out : List Nat) : Option Nat :=
  (List.range A.length).find? (fun n => hasB G n && !(decide (n ∈ out)) && (A.getD n []).all (fun k => decide (k ∈ out)))

def ordF (A : List (List Nat)) (G : List Bool) : Nat → List Nat → List Nat
  | 0, out => out
  | f + 1, out => match nextN A G out with
    | none => out
    | some n => ordF A G f (out ++ [n])

def ordL (A : List (List Nat)) (G : List Bool) : List Nat := ordF A G A.length []

theorem ordF_none {A : List (List Nat)} {G : List Bool} {out : List Nat} (h : nextN A G out = none) : ∀ f, ordF A G f out = out
  | 0 => rfl
  | f + 1 => by rw [ordF, h]

theorem nextN_some {A : List (List Nat)} {G : List Bool} {out : List Nat} {n : Nat} (h : nextN A G out = some n) : n < A.length ∧ hasB G n = true ∧ n ∉ out ∧ ∀ k ∈ A.getD n [], k ∈ out := by
  have h1 := List.find?_some h
  have h2 := List.mem_of_find?_eq_some h
  simp only [Bool.and_eq_true, Bool.not_eq_true', decide_eq_false_iff_not, List.all_eq_true, decide_eq_true_eq] at h1
  exact ⟨List.mem_range.1 h2, h1.1.1, h1.1.2, h1.2⟩

theorem nextN_none {A : List (List Nat)} {G : List Bool} {out : List Nat} (h : nextN A G out = none) {n : Nat} (hn : n < A.length) (hh : hasB G n = true) (hk : ∀ k ∈ A.getD n [], k ∈ out) : n ∈ out := by
  have h1 := List.find?_eq_none.1 h n (List.mem_range.2 hn)
  simp only [Bool.and_eq_true, Bool.not_eq_true', decide_eq_false_iff_not, List.all_eq_true, decide_eq_true_eq, not_and] at h1
  apply Classical.byContradiction
  intro hc
  exact h1 ⟨hh, hc⟩ hk

/-- What an order is, part of the way. -/
structure Ordd (A : List (List Nat)) (G : List Bool) (out : List Nat) : Prop where
  nd : out.Nodup
  has : ∀ x ∈ out, hasB G x = true
  lt : ∀ x ∈ out, x < A.length
  ahead : ∀ i, (h : i < out.length) → ∀ k ∈ A.getD out[i] [], k ∈ out.take i

theorem Ordd.nil (A : List (List Nat)) (G : List Bool) : Ordd A G [] := ⟨List.nodup_nil, by simp, by simp, by simp⟩

theorem Ordd.next {A : List (List Nat)} {G : List Bool} {out : List Nat} (h : Ordd A G out) {n : Nat} (hn : nextN A G out = some n) : Ordd A G (out ++ [n]) := by
  obtain ⟨h1, h2, h3, h4⟩ := nextN_some hn
  refine ⟨?_, ?_, ?_, ?_⟩
  · rw [List.nodup_append]
    exact ⟨h.nd, by simp, by intro a ha b hb; simp at hb; subst hb; rintro rfl; exact h3 ha⟩
  · intro x hx
    rcases List.mem_append.1 hx with hx | hx
    · exact h.has x hx
    · simp at hx; subst hx; exact h2
  · intro x hx
    rcases List.mem_append.1 hx with hx | hx
    · exact h.lt x hx
    · simp at hx; subst hx; exact h1
  · intro i hi k hk
    by_cases hlt : i < out.length
    · rw [List.getElem_append_left hlt] at hk
      rw [List.take_append_of_le_length (by omega)]
      exact h.ahead i hlt k hk
    · have e : i = out.length := by simp at hi; omega
      subst e
      rw [List.getElem_append_right (Nat.le_refl _)] at hk
      simp at hk
      rw [List.take_left]
      exact h4 k (by simpa using hk)

theorem Ordd.len {A : List (List Nat)} {G : List Bool} {out : List Nat} (h : Ordd A G out) : out.length ≤ A.length := nodup_le h.nd h.lt

theorem ordF_spec {A : List (List Nat)} {G : List Bool} : ∀ (f : Nat) (out : List Nat), Ordd A G out → A.length ≤ f + out.length → Ordd A G (ordF A G f out) ∧ nextN A G (ordF A G f out) = none
  | 0, out, h, hl => by
    refine ⟨h, ?_⟩
    rw [ordF]
    cases hn : nextN A G out with
    | none => rfl
    | some n =>
      have := (h.next hn).len
      simp at this
      omega
  | f + 1, out, h, hl => by
    rw [ordF]
    cases hn : nextN A G out with
    | none => exact ⟨h, hn⟩
    | some n => exact ordF_spec f (out ++ [n]) (h.next hn) (by simp; omega)

theorem ordL_spec (A : List (List Nat)) (G : List Bool) : Ordd A G (ordL A G) ∧ nextN A G (ordL A G) = none := ordF_spec _ _ (Ordd.nil A G) (by simp)

theorem ordL_all {A : List (List Nat)} {G : List Bool} (h : Good A G) {x : Nat} (hx : hasB G x = true) : x ∈ ordL A G := by
  obtain ⟨r, hr⟩ := h.rk
  have key : ∀ n x : Nat, r x ≤ n → hasB G x = true → x ∈ ordL A G := by
    intro n
    induction n with
    | zero =>
      intro x hn hx
      refine nextN_none (ordL_spec A G).2 (by rw [h.len]; exact hasB_nat_lt hx) hx fun k hk => ?_
      have := hr _ _ hk
      omega
    | succ n ih =>
      intro x hn hx
      refine nextN_none (ordL_spec A G).2 (by rw [h.len]; exact hasB_nat_lt hx) hx fun k hk => ?_
      have := hr _ _ hk
      exact ih k (by omega) (h.has _ _ hk)
  exact key _ x (Nat.le_refl _) hx

/-! ### Depths -/

def depS (l : List Nat) (d : Nat → Nat) : Nat := l.foldl (fun m k => max m (d k + 1)) 0

theorem depS_le {l : List Nat} {d : Nat → Nat} {m : Nat} : depS l d ≤ m ↔ ∀ k ∈ l, d k + 1 ≤ m := by
  have key : ∀ (l : List Nat) (a : Nat), l.foldl (fun m k => max m (d k + 1)) a ≤ m ↔ a ≤ m ∧ ∀ k ∈ l, d k + 1 ≤ m := by
    intro l
    induction l with
    | nil => intro a; simp
    | cons z l ih =>
      intro a
      rw [List.foldl_cons, ih, Nat.max_le]
      simp [and_assoc]
  rw [depS, key]
  simp

theorem depS_ge {l : List Nat} {d : Nat → Nat} {k : Nat} (h : k ∈ l) : d k + 1 ≤ depS l d := depS_le.1 (Nat.le_refl _) k h

theorem depS_congr {l : List Nat} {d e : Nat → Nat} (h : ∀ k ∈ l, d k = e k) : depS l d = depS l e := by
  apply Nat.le_antisymm
  · exact depS_le.2 fun k hk => by rw [h k hk]; exact depS_ge hk
  · exact depS_le.2 fun k hk => by rw [← h k hk]; exact depS_ge hk

theorem depS_snoc (l : List Nat) (k : Nat) (d : Nat → Nat) : depS (l ++ [k]) d = max (depS l d) (d k + 1) := by simp [depS]

theorem depS_nil (d : Nat → Nat) : depS [] d = 0 := rfl

/-- The depth, by so many steps. -/
def depF (A : List (List Nat)) : Nat → Nat → Nat
  | 0, _ => 0
  | f + 1, x => depS (A.getD x []) (depF A f)

def depN (A : List (List Nat)) (x : Nat) : Nat := depF A (A.length + 1) x

theorem Good.pos {A : List (List Nat)} {G : List Bool} (h : Good A G) : ∃ p : Nat → Nat, (∀ x, p x ≤ A.length) ∧ (∀ x : Nat, hasB G x = true → p x < A.length) ∧ ∀ x y, y ∈ A.getD x [] → p y < p x := by
  have hs := (ordL_spec A G).1
  refine ⟨fun x => (ordL A G).idxOf x, fun x => ?_, fun x hx => ?_, fun x y hy => ?_⟩
  · exact Nat.le_trans List.idxOf_le_length hs.len
  · have := List.idxOf_lt_length_of_mem (ordL_all h hx)
    have := hs.len
    simp only
    omega
  · have hhx : hasB G x = true := by
      cases hh : hasB G x with
      | true => rfl
      | false => rw [h.own x hh] at hy; cases hy
    have hx := List.idxOf_lt_length_of_mem (ordL_all h hhx)
    have h1 := hs.ahead _ hx y (by rw [List.getElem_idxOf]; exact hy)
    obtain ⟨j, hj, e⟩ := List.getElem_of_mem h1
    rw [List.length_take] at hj
    rw [List.getElem_take] at e
    have : (ordL A G).idxOf y ≤ j := by
      rw [← e]
      have := hs.nd.idxOf_getElem j (by omega)
      omega
    simp only
    omega

theorem depF_stable {A : List (List Nat)} {p : Nat → Nat} (hp : ∀ x y, y ∈ A.getD x [] → p y < p x) : ∀ (f g x : Nat), p x < f → p x < g → depF A f x = depF A g x
  | 0, _, _, h, _ => absurd h (Nat.not_lt_zero _)
  | _, 0, _, _, h => absurd h (Nat.not_lt_zero _)
  | f + 1, g + 1, x, h1, h2 => by
    rw [depF, depF]
    exact depS_congr fun k hk => by
      have := hp x k hk
      exact depF_stable hp f g k (by omega) (by omega)

theorem Good.dep {A : List (List Nat)} {G : List Bool} (h : Good A G) (x : Nat) : depN A x = depS (A.getD x []) (depN A) := by
  obtain ⟨p, h1, h2, h3⟩ := h.pos
  rw [depN, depF]
  exact depS_congr fun k hk => by
    have := h3 x k hk
    have := h1 x
    exact depF_stable h3 _ _ k (by omega) (by omega)

theorem depF_lt {A : List (List Nat)} {p : Nat → Nat} (hp : ∀ x y, y ∈ A.getD x [] → p y < p x) : ∀ (f x : Nat), depF A f x ≤ p x
  | 0, _ => Nat.zero_le _
  | f + 1, x => by
    rw [depF]
    exact depS_le.2 fun k hk => by
      have := hp x k hk
      have := depF_lt hp f k
      omega

theorem Good.dep_lt {A : List (List Nat)} {G : List Bool} (h : Good A G) (x : Nat) : depN A x ≤ A.length ∧ (hasB G x = true → depN A x < A.length) := by
  obtain ⟨p, h1, h2, h3⟩ := h.pos
  have := depF_lt h3 (A.length + 1) x
  exact ⟨Nat.le_trans this (h1 x), fun hx => Nat.lt_of_le_of_lt this (h2 x hx)⟩

theorem Good.dep_none {A : List (List Nat)} {G : List Bool} (h : Good A G) {x : Nat} (hx : hasB G x = false) : depN A x = 0 := by
  rw [h.dep, h.own x hx]; rfl
end Go.Proofs.Ytmhhhiegioniaaa
