/- Lemmas of a general kind on rows of structs: elements of some cells each. No condition beyond each lemma's own. -/
import Derived.Test.YtiphdedfbafhkaaGreatDoorMem
namespace Go.Proofs.YtiphdedfbafhkaaGreatDoor
open Go.RowKit

theorem flat_len {α : Type} (enc : α → List Value) (m : Nat) (hm : ∀ x, (enc x).length = m) (l : List α) : (l.flatMap enc).length = l.length * m := by
  induction l with
  | nil => simp
  | cons x l ih => simp only [List.flatMap_cons, List.length_append, hm, ih, List.length_cons, Nat.add_mul]; omega

theorem flat_get {α : Type} (enc : α → List Value) (m : Nat) (hm : ∀ x, (enc x).length = m) (f : Nat) (hf : f < m) : ∀ (l : List α) (j : Nat) (x : α), l[j]? = some x → (l.flatMap enc)[j * m + f]? = (enc x)[f]?
  | [], j, x, h => by simp at h
  | y :: l, 0, x, h => by
    simp at h; subst h
    rw [List.flatMap_cons, List.getElem?_append_left (by rw [hm]; omega)]
    simp
  | y :: l, j + 1, x, h => by
    simp at h
    rw [List.flatMap_cons, List.getElem?_append_right (by rw [hm, Nat.add_mul]; omega), hm, show (j + 1) * m + f - m = j * m + f by rw [Nat.add_mul]; omega]
    exact flat_get enc m hm f hf l j x h

theorem flat_set {α : Type} (enc : α → List Value) (m : Nat) (hm : ∀ x, (enc x).length = m) (f : Nat) (hf : f < m) (v : Value) : ∀ (l : List α) (j : Nat) (x y : α), l[j]? = some x → enc y = (enc x).set f v → (l.flatMap enc).set (j * m + f) v = (l.set j y).flatMap enc
  | [], j, x, y, h, _ => by simp at h
  | z :: l, 0, x, y, h, he => by
    simp at h; subst h
    simp only [List.flatMap_cons, List.set_cons_zero, Nat.zero_mul, Nat.zero_add]
    rw [List.set_append_left _ _ (by rw [hm]; exact hf), he]
  | z :: l, j + 1, x, y, h, he => by
    simp at h
    simp only [List.flatMap_cons, List.set_cons_succ]
    rw [List.set_append_right _ _ (by rw [hm, Nat.add_mul]; omega), hm, show (j + 1) * m + f - m = j * m + f by rw [Nat.add_mul]; omega, flat_set enc m hm f hf v l j x y h he]

/-- A cell of an element of a row of structs. -/
theorem Row.field {α : Type} {enc : α → List Value} {m : Nat} (hm : ∀ x, (enc x).length = m) {c : Nat → Nat} {k : Nat} {w : World} {e : TypeId} {ao : Option Addr} {n cap : Nat} {l : List α} (h : Row c k w e m ao n cap (l.flatMap enc)) {j : Nat} {x : α} (hx : l[j]? = some x) {f : Nat} {v : Value} (hv : (enc x)[f]? = some v) :
    ∃ g off, ao = some ⟨g, off, none⟩ ∧ w.cell? ⟨g, off + (j * m + f), none⟩ = some v ∧ w.frozen? ⟨g, off + (j * m + f), none⟩ = false ∧ c g = k := by
  have hf : f < m := by have := (List.getElem?_eq_some_iff.1 hv).1; rw [hm] at this; exact this
  obtain ⟨a, rfl, hs, hc, hz, ha, hk⟩ := h.cell ((flat_get enc m hm f hf l j x hx).trans hv)
  obtain ⟨g, off, sp⟩ := a
  simp only at hs; subst hs
  rw [ha] at hc hz
  exact ⟨g, off, rfl, hc, hz, hk⟩

theorem Row.setField {α : Type} {enc : α → List Value} {m : Nat} (hm : ∀ x, (enc x).length = m) {c : Nat → Nat} {k : Nat} {w : World} {e : TypeId} {g off n cap : Nat} {l : List α} (h : Row c k w e m (some ⟨g, off, none⟩) n cap (l.flatMap enc)) {j : Nat} {x y : α} (hx : l[j]? = some x) {f : Nat} {v : Value} (hf : f < m) (hy : enc y = (enc x).set f v) :
    Row c k (w.setCell ⟨g, off + (j * m + f), none⟩ v) e m (some ⟨g, off, none⟩) n cap ((l.set j y).flatMap enc) := by
  have hj : j < l.length := (List.getElem?_eq_some_iff.1 hx).1
  have h' := h.set (j * m + f) v (by
    rw [flat_len enc m hm]
    have : (j + 1) * m ≤ l.length * m := Nat.mul_le_mul_right _ hj
    rw [Nat.add_mul] at this
    omega)
  rw [flat_set enc m hm f hf v l j x y hx hy] at h'
  exact h'

theorem Stp.allocG {J : Nat → Prop} {c c' : Nat → Nat} {a w : World} {o : Obj} {n j : Nat} (h : Stp J c c' a w) (hn : n = w.heap.size) : Stp J c (paint c' n j) a (w.alloc o) := by
  subst hn; exact h.alloc o j
theorem Stp.behind {J : Nat → Prop} {c c1 c2 : Nat → Nat} {w w1 w2 : World} (k : Stp J c1 c2 w1 w2) (h : Stp J c c1 w w1) : Stp J c c2 w w2 := h.trans k
theorem Row.allocG {c : Nat → Nat} {k : Nat} {w : World} {e : TypeId} {size : Nat} {ao : Option Addr} {m cap : Nat} {xs : List Value} {o : Obj} {n j : Nat} (h : Row c k w e size ao m cap xs) (hn : n = w.heap.size) : Row (paint c n j) k (w.alloc o) e size ao m cap xs := by
  subst hn; exact h.alloc o j
theorem Blk.allocG {c : Nat → Nat} {k : Nat} {w : World} {b : Nat} {cs : List Value} {t : TypeId} {o : Obj} {n j : Nat} (h : Blk c k w b cs t) (hn : n = w.heap.size) : Blk (paint c n j) k (w.alloc o) b cs t := by
  subst hn; exact h.alloc o j

theorem Stp.up {c c' : Nat → Nat} {j : Nat} {w w' : World} (h : Stp (· = j) c c' w w') (hj : 2 ≤ j) : Stp (2 ≤ ·) c c' w w' := h.mono fun k hk => by rw [hk]; exact hj
theorem Stp.fin {c' : Nat → Nat} {w w' : World} (h : Stp (2 ≤ ·) (fun _ => 0) c' w w') : Below w.heap.size w w' := h.below (Nat.le_refl _) (fun _ _ => by decide)

theorem Src.oneAt {w : World} {v : Value} {t : TypeId} {b : Nat} (h : b = w.heap.size) : Src (w.alloc (.cells #[v] t)) 1 (.slice (some ⟨b, 0, none⟩) 1 1) 1 [v] := by
  subst h; exact Src.one w v t
theorem Src.newAt {w : World} {size n : Nat} {cs : List Value} {t : TypeId} {b : Nat} (h : b = w.heap.size) (hl : cs.length = n * size) : Src (w.alloc (.cells cs.toArray t)) size (.slice (some ⟨b, 0, none⟩) n n) n cs := by
  subst h; exact Src.new w size n cs t hl
end Go.Proofs.YtiphdedfbafhkaaGreatDoor
