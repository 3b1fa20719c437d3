/- Lemmas of a general kind on slices that are read alone: of whatever colour, nil and empty ones let in; and slices that came in, opened. No condition beyond each lemma's own. -/
import Derived.Test.YtiphdedfbafhkaaGreatDoorMem2
import Derived.Deep.Slices
import Derived.ChangeSame
namespace Go.Proofs.YtiphdedfbafhkaaGreatDoor
open Go.RowKit Go.ChangeShapes Go.WideShapes Go.Deep

/-- The slice value `.slice ao n cap` of elements of `m` cells reads as `xs`; its array has colour `k`. -/
def In (c : Nat → Nat) (k : Nat) (w : World) (m : Nat) (ao : Option Addr) (n cap : Nat) (xs : List Value) : Prop :=
  xs.length = n * m ∧ n ≤ cap ∧ cap ≤ maxLen ∧ (ao = none → cap = 0) ∧ (0 < n → ∃ a, ao = some a ∧ c a.block = k ∧ a.block < w.heap.size ∧ ∀ j u, xs[j]? = some u → w.cell? (a.add j) = some u)

/-- An append onto an array that was made just ahead of it. -/
theorem Stp.fresh {c c1 : Nat → Nat} {k : Nat} {w w1 : World} {o : Obj} (st : Stp (· = k) (paint c w.heap.size k) c1 (w.alloc o) w1) (ot : Others (w.alloc o) w1 (some ⟨w.heap.size, 0, none⟩)) : Stp (fun _ => False) c c1 w w1 :=
  ⟨st.os, st.tape, st.output, by have := st.size; simp at this; omega, fun i hi => (st.col i (by simp; omega)).trans (paint_lt hi), fun i hi _ => by
    rw [ot i (by simp; omega) (fun a ha => by cases ha; simp; omega)]
    exact Below.heap_alloc w o i hi⟩

/-- A store into a block that was not there at the step's beginning. -/
theorem Stp.setNew {J : Nat → Prop} {c c' : Nat → Nat} {a w : World} (h : Stp J c c' a w) {p : Addr} (v : Value) (hp : a.heap.size ≤ p.block) : Stp J c c' a (w.setCell p v) :=
  ⟨h.os, h.tape, h.output, by have := h.size; simpa [World.setCell] using this, h.col, fun i hi hn => (Below.heap_setCell w p v i (by omega)).trans (h.block i hi hn)⟩

/-- What turns nothing old is a step; the new blocks get colour j. -/
theorem Stp.ofBelow {c : Nat → Nat} {w w' : World} (h : Below w.heap.size w w') (j : Nat) : Stp (fun _ => False) c (paint c w.heap.size j) w w' :=
  ⟨h.os, h.tape, h.output, h.size, fun _ hi => paint_lt hi, fun i hi _ => h.block i hi⟩

/-- A step under a new name of its colours. -/
theorem Stp.name {J : Nat → Prop} {c c' : Nat → Nat} {w w' : World} (h : Stp J c c' w w') : ∃ c2, Hid (c2 = c') ∧ Hid (Stp J c c2 w w') := ⟨c', Lib.hid rfl, Lib.hid h⟩

theorem add_block (a : Addr) (n : Nat) : (a.add n).block = a.block := by unfold Addr.add; split <;> rfl
theorem add_add' (a : Addr) (i j : Nat) : (a.add i).add j = a.add (i + j) := by
  unfold Addr.add
  by_cases hi : i = 0 <;> by_cases hj : j = 0 <;> simp [hi, hj, Nat.add_assoc]

section
variable {c c' : Nat → Nat} {k : Nat} {w w' : World} {m : Nat} {ao : Option Addr} {n cap : Nat} {xs : List Value}

theorem In.stp {J : Nat → Prop} (h : In c k w m ao n cap xs) (s : Stp J c c' w w') (hk : ¬ J k) : In c' k w' m ao n cap xs := by
  obtain ⟨h1, h2, h3, h0, h4⟩ := h
  refine ⟨h1, h2, h3, h0, fun hn => ?_⟩
  obtain ⟨a, rfl, hc, hl, hx⟩ := h4 hn
  exact ⟨a, rfl, (s.col _ hl).trans hc, Nat.lt_of_lt_of_le hl s.size, fun j u hu => (World.cell?_of_block (by rw [add_block]; exact s.block _ hl (by rw [hc]; exact hk))).trans (hx j u hu)⟩

theorem In.nil (c : Nat → Nat) (k : Nat) (w : World) (m : Nat) (ao : Option Addr) : In c k w m ao 0 0 [] := ⟨by simp, Nat.le_refl _, Nat.zero_le _, fun _ => rfl, fun h => absurd h (by omega)⟩

theorem In.drew (h : In c k w m ao n cap xs) : In c k w.drew m ao n cap xs := h
theorem In.drewN (h : In c k w m ao n cap xs) (q : Nat) : In c k (w.drewN q) m ao n cap xs := h

theorem Row.toIn {e : TypeId} (h : Row c k w e m ao n cap xs) : In c k w m ao n cap xs := by
  refine ⟨h.1, h.2.1, h.2.2.1, fun hn => by subst hn; exact h.2.2.2, fun hn => ?_⟩
  obtain ⟨h1, h2, h3, h4⟩ := h
  cases ao with
  | none => simp only at h4; omega
  | some a =>
    have h : Row c k w e m (some a) n cap xs := ⟨h1, h2, h3, h4⟩
    obtain ⟨hs, hc, cur, hb, hl, hx⟩ := h4
    refine ⟨a, rfl, hc, lt_of_block hb, fun j u hu => ?_⟩
    obtain ⟨a', ha, _, hcc, _⟩ := h.cell hu
    cases ha
    exact hcc

/-- Element j, a cell each. -/
theorem In.at1 (h : In c k w 1 ao n cap xs) {j : Nat} (hj : j < n) : ∃ a, ao = some a ∧ ∃ v, xs[j]? = some v ∧ w.cell? (a.add j) = some v := by
  obtain ⟨h1, h2, h3, _, h4⟩ := h
  obtain ⟨a, rfl, hc, hl, hx⟩ := h4 (by omega)
  have hlt : j < xs.length := by omega
  exact ⟨a, rfl, xs[j], List.getElem?_eq_getElem hlt, hx j _ (List.getElem?_eq_getElem hlt)⟩

theorem In.ints {kd : IntKind} {l : List Int} (h : In c k w 1 ao n cap (l.map (Value.int kd))) {j : Nat} (hj : j < n) : ∃ a, ao = some a ∧ w.cell? (a.add j) = some (.int kd (l.getD j 0)) := by
  obtain ⟨a, rfl, v, hv, hc⟩ := h.at1 hj
  have hl : j < l.length := by have := h.1; simp at this; omega
  refine ⟨a, rfl, ?_⟩
  rw [hc, ← hv]
  simp [List.getD, hl]

theorem In.len {α : Type} {enc : α → List Value} (hm : ∀ x, (enc x).length = m) (h0 : 0 < m) {l : List α} (h : In c k w m ao n cap (l.flatMap enc)) : n = l.length := by
  have := h.1
  rw [flat_len enc m hm] at this
  exact (Nat.eq_of_mul_eq_mul_right h0 this).symm

/-- Field f of element j. -/
theorem In.field {α : Type} {enc : α → List Value} (hm : ∀ x, (enc x).length = m) {l : List α} (h : In c k w m ao n cap (l.flatMap enc)) {j : Nat} {x : α} (hx : l[j]? = some x) {f : Nat} {v : Value} (hv : (enc x)[f]? = some v) :
    ∃ a, ao = some a ∧ w.cell? (a.add (j * m + f)) = some v := by
  have hf : f < m := by have := (List.getElem?_eq_some_iff.1 hv).1; rw [hm] at this; exact this
  have hn : 0 < n := by
    have h1 := h.1
    rw [flat_len enc m hm] at h1
    have hl : j < l.length := (List.getElem?_eq_some_iff.1 hx).1
    have h2 : 0 < l.length * m := Nat.mul_pos (by omega) (by omega)
    rcases Nat.eq_zero_or_pos n with h3 | h3
    · rw [h3] at h1; omega
    · exact h3
  obtain ⟨a, rfl, _, _, hc⟩ := h.2.2.2.2 hn
  exact ⟨a, rfl, hc _ _ ((flat_get enc m hm f hf l j x hx).trans hv)⟩

theorem In.take (h : In c k w m ao n cap xs) {q : Nat} (hq : q ≤ n) : In c k w m ao q cap (xs.take (q * m)) := by
  obtain ⟨h1, h2, h3, h0, h4⟩ := h
  have := Nat.mul_le_mul_right m hq
  refine ⟨by rw [List.length_take, h1]; omega, by omega, h3, h0, fun hq0 => ?_⟩
  obtain ⟨a, rfl, hc, hl, hx⟩ := h4 (by omega)
  refine ⟨a, rfl, hc, hl, fun j u hu => hx j u ?_⟩
  rw [List.getElem?_take] at hu
  split at hu
  · exact hu
  · cases hu

theorem In.drop (h : In c k w m ao n cap xs) {q : Nat} (hq : q ≤ n) : In c k w m (if cap = q then ao else ao.map (·.add (q * m))) (n - q) (cap - q) (xs.drop (q * m)) := by
  obtain ⟨h1, h2, h3, h0, h4⟩ := h
  refine ⟨by rw [List.length_drop, h1, Nat.sub_mul], by omega, by omega, fun hn => ?_, fun hq0 => ?_⟩
  · split at hn
    · omega
    · have := h0 (by simpa using hn); omega
  obtain ⟨a, rfl, hc, hl, hx⟩ := h4 (by omega)
  rw [if_neg (by omega)]
  refine ⟨_, rfl, by rw [add_block]; exact hc, by rw [add_block]; exact hl, fun j u hu => ?_⟩
  rw [add_add']
  rw [List.getElem?_drop] at hu
  exact hx _ u hu

theorem In.src (h : In c k w m ao n cap xs) : Src w m (.slice ao n cap) n xs := by
  rcases Nat.eq_zero_or_pos n with hn | hn
  · subst hn
    have hx : xs = [] := List.eq_nil_of_length_eq_zero (by simpa using h.1)
    subst hx
    cases ao with
    | none =>
      obtain rfl := h.2.2.2.1 rfl
      exact .inl ⟨rfl, rfl, rfl⟩
    | some a => exact .inr ⟨a, cap, rfl, by simp, fun j u hu => by simp at hu⟩
  · obtain ⟨a, rfl, _, _, hx⟩ := h.2.2.2.2 hn
    exact .inr ⟨a, cap, rfl, h.1, hx⟩
end

theorem list_of_all {α : Type} (p : Nat → α → Prop) : ∀ n : Nat, (∀ i, i < n → ∃ x, p i x) → ∃ l : List α, l.length = n ∧ ∀ i x, l[i]? = some x → p i x
  | 0, _ => ⟨[], rfl, by simp⟩
  | n + 1, h => by
    obtain ⟨l, hl, hp⟩ := list_of_all p n fun i hi => h i (by omega)
    obtain ⟨x, hx⟩ := h n (by omega)
    refine ⟨l ++ [x], by simp [hl], fun i y hy => ?_⟩
    by_cases hi : i < l.length
    · rw [List.getElem?_append_left hi] at hy
      exact hp i y hy
    · rw [List.getElem?_append_right (by omega)] at hy
      have h0 : i - l.length = 0 := by
        have := (List.getElem?_eq_some_iff.1 hy).1
        simp at this
        omega
      rw [h0] at hy
      simp at hy
      subst hy
      rw [show i = n by omega]
      exact hx

/-- A slice that came in, opened: its elements are such as `dec` says. -/
theorem open_in {H : Type} {enc : TypeId × Value → H} {P : Program} {w : World} {base : Nat} {spare : Nat → Bool} {held : Bool} {α : Type} {en : α → List Value} {good : α → Prop} {t e : TypeId} {m fuel : Nat} {cs : List Value} {x : DataW H × List MemPlace}
    (ht : P.underlying t = some (.slice e)) (hC : P.cellsOf e = m) (hm : ∀ x, (en x).length = m) (h0 : 0 < m)
    (dec : ∀ n cs' y, DataW.trod enc P w base spare held n e cs' = some y → ∃ x, cs' = en x ∧ good x) (h : DataW.trod enc P w base spare held fuel t cs = some x) :
    ∃ (ao : Option Addr) (len cap : Nat) (l : List α), cs = [.slice ao len cap] ∧ In (fun _ => 0) 0 w m ao len cap (l.flatMap en) ∧ (∀ x ∈ l, good x) ∧ l.length = len := by
  rcases open_slice ht h with ⟨rfl, _⟩ | ⟨a, len, cap, q, n, D, Pl, rfl, hb, hl, hcm, hq, _, hi⟩
  · exact ⟨none, 0, 0, [], rfl, In.nil _ _ _ _ _, by simp, rfl⟩
  · rw [hC] at hi
    have hql : len ≤ q := by rw [hq]; split <;> omega
    obtain ⟨l, hll, hp⟩ := list_of_all (fun i x => good x ∧ ∀ j u, (en x)[j]? = some u → w.cell? (a.add (i * m + j)) = some u) len (fun i hil => by
      obtain ⟨cs', hc, ht'⟩ := hi i (by omega)
      obtain ⟨x, rfl, hg⟩ := dec _ _ _ ht'
      obtain ⟨_, hcl, hat⟩ := World.cells?_some hc
      refine ⟨x, hg, fun j u hu => ?_⟩
      have hj : j < m := by have := (List.getElem?_eq_some_iff.1 hu).1; rw [hm] at this; exact this
      rw [← add_add', hat j hj, hu])
    refine ⟨some a, len, cap, l, rfl, ⟨by rw [flat_len en m hm, hll], hl, hcm, fun hn => (by cases hn), fun hn => ⟨a, rfl, rfl, ?_, ?_⟩⟩, fun x hx => ?_, hll⟩
    · have h1 : l[0]? = some (l[0]'(by omega)) := List.getElem?_eq_getElem (by omega)
      have h2 : (en (l[0]'(by omega)))[0]? = some ((en (l[0]'(by omega)))[0]'(by rw [hm]; exact h0)) := List.getElem?_eq_getElem (by rw [hm]; exact h0)
      have h3 := World.block_lt_of_cell? w _ ((hp 0 _ h1).2 0 _ h2)
      rw [add_block] at h3
      exact h3
    · intro j u hu
      have hlt : j < (l.flatMap en).length := (List.getElem?_eq_some_iff.1 hu).1
      rw [flat_len en m hm] at hlt
      have hd : j / m < l.length := Nat.div_lt_of_lt_mul (by rw [Nat.mul_comm]; exact hlt)
      have h1 : l[j / m]? = some (l[j / m]'hd) := List.getElem?_eq_getElem hd
      have h2 := flat_get en m hm (j % m) (Nat.mod_lt _ h0) l (j / m) _ h1
      have h4 : j / m * m + j % m = j := by rw [Nat.mul_comm]; exact Nat.div_add_mod j m
      rw [h4, hu] at h2
      have := (hp (j / m) _ h1).2 (j % m) u h2.symm
      rw [h4] at this
      exact this
    · obtain ⟨i, hi'⟩ := List.getElem?_of_mem hx
      exact (hp i x hi').1
end Go.Proofs.YtiphdedfbafhkaaGreatDoor
