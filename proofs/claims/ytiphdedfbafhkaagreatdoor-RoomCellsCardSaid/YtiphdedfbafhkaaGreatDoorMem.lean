/- Lemmas of a general kind on memory: colours of blocks, steps that turn blocks of some colours alone, a block known whole, a slice with its cells, and the built-in append on it. No condition beyond each lemma's own. -/
import Derived.WalkKit
import Derived.WalkLawsBesides
import Derived.WalkSpells
import Derived.Lib.Hide
namespace Go.Proofs.YtiphdedfbafhkaaGreatDoor
open Go.RowKit

/-! ### Colours: each block has a colour; an object's blocks have one; a step turns blocks of some colours alone -/

def paint (c : Nat → Nat) (n k : Nat) : Nat → Nat := fun i => if i < n then c i else k

theorem paint_lt {c : Nat → Nat} {n k i : Nat} (h : i < n) : paint c n k i = c i := by simp [paint, h]
theorem paint_ge {c : Nat → Nat} {n k i : Nat} (h : n ≤ i) : paint c n k i = k := by simp [paint, Nat.not_lt.2 h]

structure Stp (J : Nat → Prop) (c c' : Nat → Nat) (w w' : World) : Prop where
  os : w'.os = w.os
  tape : w'.tape = w.tape
  output : w'.output = w.output
  size : w.heap.size ≤ w'.heap.size
  col : ∀ i, i < w.heap.size → c' i = c i
  block : ∀ i, i < w.heap.size → ¬ J (c i) → w'.heap[i]? = w.heap[i]?

theorem Stp.refl (J : Nat → Prop) (c : Nat → Nat) (w : World) : Stp J c c w w := ⟨rfl, rfl, rfl, Nat.le_refl _, fun _ _ => rfl, fun _ _ _ => rfl⟩

theorem Stp.trans {J : Nat → Prop} {c c1 c2 : Nat → Nat} {w w1 w2 : World} (h : Stp J c c1 w w1) (k : Stp J c1 c2 w1 w2) : Stp J c c2 w w2 :=
  ⟨k.os.trans h.os, k.tape.trans h.tape, k.output.trans h.output, Nat.le_trans h.size k.size,
    fun i hi => (k.col i (Nat.lt_of_lt_of_le hi h.size)).trans (h.col i hi),
    fun i hi hj => (k.block i (Nat.lt_of_lt_of_le hi h.size) (by rw [h.col i hi]; exact hj)).trans (h.block i hi hj)⟩

theorem Stp.mono {J J' : Nat → Prop} {c c' : Nat → Nat} {w w' : World} (h : Stp J c c' w w') (hj : ∀ k, J k → J' k) : Stp J' c c' w w' :=
  ⟨h.os, h.tape, h.output, h.size, h.col, fun i hi hn => h.block i hi fun hh => hn (hj _ hh)⟩

theorem Stp.alloc {J : Nat → Prop} {c c' : Nat → Nat} {a w : World} (h : Stp J c c' a w) (o : Obj) (j : Nat) : Stp J c (paint c' w.heap.size j) a (w.alloc o) :=
  h.trans ⟨rfl, rfl, rfl, by simp, fun i hi => paint_lt hi, fun i hi _ => Below.heap_alloc w o i hi⟩

theorem Stp.setCell {J : Nat → Prop} {c c' : Nat → Nat} {a w : World} (h : Stp J c c' a w) {p : Addr} (v : Value) (hp : J (c' p.block)) : Stp J c c' a (w.setCell p v) :=
  h.trans ⟨rfl, rfl, rfl, by simp [World.setCell], fun i _ => rfl, fun i _ hn => Below.heap_setCell w p v i (by rintro rfl; exact hn hp)⟩

theorem Stp.setRow {J : Nat → Prop} {c c' : Nat → Nat} {a w : World} (h : Stp J c c' a w) {g : Nat} (cs : Array Value) (hp : J (c' g)) : Stp J c c' a (w.setRow g cs) :=
  h.trans ⟨rfl, rfl, rfl, by simp [World.setRow], fun i _ => rfl, fun i _ hn => setRow_other w g i cs (by rintro rfl; exact hn hp)⟩

theorem Stp.drew {J : Nat → Prop} {c c' : Nat → Nat} {a w : World} (h : Stp J c c' a w) : Stp J c c' a w.drew := ⟨h.os, h.tape, h.output, h.size, h.col, h.block⟩
theorem Stp.drewN {J : Nat → Prop} {c c' : Nat → Nat} {a w : World} (h : Stp J c c' a w) (n : Nat) : Stp J c c' a (w.drewN n) := ⟨h.os, h.tape, h.output, h.size, h.col, h.block⟩

/-- What a step that turns none of the old blocks' colours leaves. -/
theorem Stp.below {J : Nat → Prop} {c c' : Nat → Nat} {w w' : World} (h : Stp J c c' w w') {B : Nat} (hB : B ≤ w.heap.size) (hc : ∀ i, i < B → ¬ J (c i)) : Below B w w' :=
  ⟨h.os, h.tape, h.output, h.size, fun i hi => h.block i (Nat.lt_of_lt_of_le hi hB) (hc i hi)⟩

/-! ### A block known whole -/

def Blk (c : Nat → Nat) (k : Nat) (w : World) (b : Nat) (cs : List Value) (t : TypeId) : Prop := c b = k ∧ w.heap[b]? = some (.cells cs.toArray t (0, 0))

theorem Blk.lt {c : Nat → Nat} {k : Nat} {w : World} {b : Nat} {cs : List Value} {t : TypeId} (h : Blk c k w b cs t) : b < w.heap.size := lt_of_block h.2

theorem Blk.cell {c : Nat → Nat} {k : Nat} {w : World} {b : Nat} {cs : List Value} {t : TypeId} (h : Blk c k w b cs t) (i : Nat) : w.cell? ⟨b, i, none⟩ = cs[i]? := by simp [World.cell?, h.2]

theorem Blk.free {c : Nat → Nat} {k : Nat} {w : World} {b : Nat} {cs : List Value} {t : TypeId} (h : Blk c k w b cs t) (i : Nat) : w.frozen? ⟨b, i, none⟩ = false := by simp [World.frozen?, h.2]

theorem Blk.stp {J : Nat → Prop} {c c' : Nat → Nat} {k : Nat} {w w' : World} {b : Nat} {cs : List Value} {t : TypeId} (h : Blk c k w b cs t) (s : Stp J c c' w w') (hk : ¬ J k) : Blk c' k w' b cs t :=
  ⟨(s.col b h.lt).trans h.1, by rw [s.block b h.lt (by rw [h.1]; exact hk)]; exact h.2⟩

theorem Blk.alloc {c : Nat → Nat} {k : Nat} {w : World} {b : Nat} {cs : List Value} {t : TypeId} (h : Blk c k w b cs t) (o : Obj) (j : Nat) : Blk (paint c w.heap.size j) k (w.alloc o) b cs t :=
  h.stp ((Stp.refl (fun _ => False) c w).alloc o j) id

theorem Blk.drew {c : Nat → Nat} {k : Nat} {w : World} {b : Nat} {cs : List Value} {t : TypeId} (h : Blk c k w b cs t) : Blk c k w.drew b cs t := h
theorem Blk.drewN {c : Nat → Nat} {k : Nat} {w : World} {b : Nat} {cs : List Value} {t : TypeId} (h : Blk c k w b cs t) (n : Nat) : Blk c k (w.drewN n) b cs t := h

/-- All blocks but the one in which a slice lies are as they were. -/
def Others (w w' : World) (ao : Option Addr) : Prop := ∀ j, j < w.heap.size → (∀ a, ao = some a → a.block ≠ j) → w'.heap[j]? = w.heap[j]?

/-- A block that an append has not touched. -/
theorem Blk.kept {c c' : Nat → Nat} {k : Nat} {w w' : World} {b : Nat} {cs : List Value} {t : TypeId} {ao : Option Addr} (h : Blk c k w b cs t) (hc : c' b = c b)
    (ho : Others w w' ao) (hn : ∀ a, ao = some a → a.block ≠ b) : Blk c' k w' b cs t :=
  ⟨hc.trans h.1, by rw [ho b h.lt hn]; exact h.2⟩

theorem Blk.new (c : Nat → Nat) (k : Nat) (w : World) (cs : List Value) (t : TypeId) : Blk (paint c w.heap.size k) k (w.alloc (.cells cs.toArray t)) w.heap.size cs t :=
  ⟨paint_ge (Nat.le_refl _), heap_alloc_new w _⟩

theorem heap_setCell_same {w : World} {b i : Nat} {cs : List Value} {t : TypeId} {fr : Nat × Nat} (v : Value) (h : w.heap[b]? = some (.cells cs.toArray t fr)) :
    (w.setCell ⟨b, i, none⟩ v).heap[b]? = some (.cells (cs.set i v).toArray t fr) := by
  have hlt := lt_of_block h
  have h' : w.heap[b] = .cells cs.toArray t fr := by simpa [Array.getElem?_eq_getElem hlt] using h
  show (w.heap.modify b _)[b]? = _
  rw [Array.getElem?_eq_getElem (by simpa using hlt), Array.getElem_modify_self, h']
  simp

theorem Blk.set {c : Nat → Nat} {k : Nat} {w : World} {b : Nat} {cs : List Value} {t : TypeId} (h : Blk c k w b cs t) (i : Nat) (v : Value) : Blk c k (w.setCell ⟨b, i, none⟩ v) b (cs.set i v) t :=
  ⟨h.1, heap_setCell_same v h.2⟩

theorem Blk.other {c : Nat → Nat} {k : Nat} {w : World} {b : Nat} {cs : List Value} {t : TypeId} (h : Blk c k w b cs t) {p : Addr} (v : Value) (hp : p.block ≠ b) : Blk c k (w.setCell p v) b cs t :=
  ⟨h.1, by rw [Below.heap_setCell w p v b (fun e => hp e.symm)]; exact h.2⟩

theorem cell_other {w : World} {p a : Addr} {v : Value} (h : p.block ≠ a.block) : (w.setCell p v).cell? a = w.cell? a := World.cell?_of_block (Below.heap_setCell w p v _ (fun e => h e.symm))

/-! ### A slice whose array has one colour -/

/-- The slice value `.slice ao n cap` of elements of type `e`, `size` cells each, lies in a block of colour `k`, and its cells are `xs`; what is behind its end, up to the capacity, is its own. -/
def Row (c : Nat → Nat) (k : Nat) (w : World) (e : TypeId) (size : Nat) (ao : Option Addr) (n cap : Nat) (xs : List Value) : Prop :=
  xs.length = n * size ∧ n ≤ cap ∧ cap ≤ maxLen ∧
    match ao with
    | none => cap = 0
    | some a => a.spot = none ∧ c a.block = k ∧ ∃ cur : List Value, w.heap[a.block]? = some (.cells cur.toArray e (0, 0)) ∧ a.off + cap * size ≤ cur.length ∧ (cur.drop a.off).take (n * size) = xs

theorem Row.nil (c : Nat → Nat) (k : Nat) (w : World) (e : TypeId) (size : Nat) : Row c k w e size none 0 0 [] := ⟨by simp, Nat.le_refl _, Nat.zero_le _, rfl⟩

theorem Row.stp {J : Nat → Prop} {c c' : Nat → Nat} {k : Nat} {w w' : World} {e : TypeId} {size : Nat} {ao : Option Addr} {n cap : Nat} {xs : List Value} (h : Row c k w e size ao n cap xs) (s : Stp J c c' w w') (hk : ¬ J k) : Row c' k w' e size ao n cap xs := by
  obtain ⟨h1, h2, h3, h4⟩ := h
  refine ⟨h1, h2, h3, ?_⟩
  cases ao with
  | none => exact h4
  | some a =>
    obtain ⟨hs, hc, cur, hb, hl, hx⟩ := h4
    have hlt := lt_of_block hb
    exact ⟨hs, (s.col _ hlt).trans hc, cur, by rw [s.block _ hlt (by rw [hc]; exact hk)]; exact hb, hl, hx⟩

theorem Row.alloc {c : Nat → Nat} {k : Nat} {w : World} {e : TypeId} {size : Nat} {ao : Option Addr} {n cap : Nat} {xs : List Value} (h : Row c k w e size ao n cap xs) (o : Obj) (j : Nat) : Row (paint c w.heap.size j) k (w.alloc o) e size ao n cap xs :=
  h.stp ((Stp.refl (fun _ => False) c w).alloc o j) id
theorem Row.drew {c : Nat → Nat} {k : Nat} {w : World} {e : TypeId} {size : Nat} {ao : Option Addr} {n cap : Nat} {xs : List Value} (h : Row c k w e size ao n cap xs) : Row c k w.drew e size ao n cap xs := h
theorem Row.drewN {c : Nat → Nat} {k : Nat} {w : World} {e : TypeId} {size : Nat} {ao : Option Addr} {n cap : Nat} {xs : List Value} (h : Row c k w e size ao n cap xs) (m : Nat) : Row c k (w.drewN m) e size ao n cap xs := h

/-- A store into a block of another element type. -/
theorem Row.other {c : Nat → Nat} {k : Nat} {w : World} {e : TypeId} {size : Nat} {ao : Option Addr} {n cap : Nat} {xs : List Value} (h : Row c k w e size ao n cap xs) {p : Addr} {u : Value} (v : Value) (hp : ∀ a, ao = some a → a.block ≠ p.block) (_hu : u = v) : Row c k (w.setCell p v) e size ao n cap xs := by
  obtain ⟨h1, h2, h3, h4⟩ := h
  refine ⟨h1, h2, h3, ?_⟩
  cases ao with
  | none => exact h4
  | some a =>
    obtain ⟨hs, hc, cur, hb, hl, hx⟩ := h4
    exact ⟨hs, hc, cur, by rw [Below.heap_setCell w p v _ (hp a rfl)]; exact hb, hl, hx⟩

theorem Row.ne_blk {c : Nat → Nat} {k k' : Nat} {w : World} {e t : TypeId} {size : Nat} {ao : Option Addr} {n cap : Nat} {xs cs : List Value} {b : Nat} (h : Row c k w e size ao n cap xs) (hb : Blk c k' w b cs t) (hne : e ≠ t) : ∀ a, ao = some a → a.block ≠ b := by
  rintro a rfl rfl
  obtain ⟨_, _, _, _, _, cur, hh, _⟩ := h
  have := hb.2
  rw [hh] at this
  simp at this
  exact hne this.2

theorem Row.ne_col {c : Nat → Nat} {k : Nat} {w : World} {e : TypeId} {size : Nat} {ao : Option Addr} {n cap : Nat} {xs : List Value} (h : Row c k w e size ao n cap xs) {b : Nat} (hb : c b ≠ k) : ∀ a, ao = some a → a.block ≠ b := by
  rintro a rfl rfl
  exact hb h.2.2.2.2.1

/-- A cell of the slice. -/
theorem Row.cell {c : Nat → Nat} {k : Nat} {w : World} {e : TypeId} {size : Nat} {ao : Option Addr} {n cap : Nat} {xs : List Value} (h : Row c k w e size ao n cap xs) {j : Nat} {v : Value} (hv : xs[j]? = some v) :
    ∃ a, ao = some a ∧ a.spot = none ∧ w.cell? (a.add j) = some v ∧ w.frozen? (a.add j) = false ∧ a.add j = ⟨a.block, a.off + j, none⟩ ∧ c a.block = k := by
  obtain ⟨h1, h2, h3, h4⟩ := h
  have hj : j < xs.length := (List.getElem?_eq_some_iff.1 hv).1
  cases ao with
  | none =>
    simp only at h4
    subst h4
    have : n = 0 := by omega
    subst this
    simp at h1
    subst h1
    simp at hj
  | some a =>
    obtain ⟨hs, hc, cur, hb, hl, hx⟩ := h4
    have ha : a.add j = ⟨a.block, a.off + j, none⟩ := by
      unfold Addr.add
      split
      · next hz => subst hz; cases a; simp_all
      · simp
    refine ⟨a, rfl, hs, ?_, ?_, ha, hc⟩
    · rw [ha]
      have : cur[a.off + j]? = some v := by
        rw [← hx, List.getElem?_take] at hv
        split at hv
        · rw [List.getElem?_drop] at hv
          exact hv
        · cases hv
      simp [World.cell?, hb, this]
    · rw [ha]; simp [World.frozen?, hb]

theorem list_set_append {α : Type} (l : List α) (i : Nat) (v : α) (m n : Nat) (_h : i < n) : ((l.set (m + i) v).drop m).take n = ((l.drop m).take n).set i v := by
  rw [List.drop_set]
  simp only [Nat.not_lt.2 (Nat.le_add_right m i), if_false, Nat.add_sub_cancel_left]
  rw [List.take_set]

/-- A store into a cell of the slice. -/
theorem Row.set {c : Nat → Nat} {k : Nat} {w : World} {e : TypeId} {size : Nat} {a : Addr} {n cap : Nat} {xs : List Value} (h : Row c k w e size (some a) n cap xs) (j : Nat) (v : Value) (hj : j < xs.length) :
    Row c k (w.setCell ⟨a.block, a.off + j, none⟩ v) e size (some a) n cap (xs.set j v) := by
  obtain ⟨h1, h2, h3, hs, hc, cur, hb, hl, hx⟩ := h
  refine ⟨by simpa using h1, h2, h3, hs, hc, cur.set (a.off + j) v, heap_setCell_same v hb, by simpa using hl, ?_⟩
  rw [list_set_append _ _ _ _ _ (by omega), hx]

/-- A slice of what is behind the first `m`. -/
theorem Row.drop {c : Nat → Nat} {k : Nat} {w : World} {e : TypeId} {size : Nat} {a : Addr} {n cap : Nat} {xs : List Value} (h : Row c k w e size (some a) n cap xs) (m : Nat) (hm : m ≤ n) :
    Row c k w e size (some ⟨a.block, a.off + m * size, none⟩) (n - m) (cap - m) (xs.drop (m * size)) := by
  obtain ⟨h1, h2, h3, hs, hc, cur, hb, hl, hx⟩ := h
  refine ⟨by rw [List.length_drop, h1, Nat.sub_mul], by omega, by omega, rfl, hc, cur, hb, ?_, ?_⟩
  · have : (cap - m) * size + m * size = cap * size := by rw [← Nat.add_mul]; congr 1; omega
    simp only; omega
  · simp only
    rw [← hx, List.drop_take, ← List.drop_drop, ← Nat.sub_mul]

theorem Row.take {c : Nat → Nat} {k : Nat} {w : World} {e : TypeId} {size : Nat} {ao : Option Addr} {n cap : Nat} {xs : List Value} (h : Row c k w e size ao n cap xs) (m : Nat) (hm : m ≤ n) :
    Row c k w e size ao m cap (xs.take (m * size)) := by
  obtain ⟨h1, h2, h3, h4⟩ := h
  have hms : m * size ≤ n * size := Nat.mul_le_mul_right _ hm
  refine ⟨by rw [List.length_take, h1]; omega, by omega, h3, ?_⟩
  cases ao with
  | none => exact h4
  | some a =>
    obtain ⟨hs, hc, cur, hb, hl, hx⟩ := h4
    exact ⟨hs, hc, cur, hb, hl, by rw [← hx, List.take_take]; congr 1; omega⟩

/-- A block that has just been made, as a slice. -/
theorem Row.new (c : Nat → Nat) (k : Nat) (w : World) (e : TypeId) (size n cap : Nat) (cs : List Value) (hl : cs.length = cap * size) (hn : n ≤ cap) (hm : cap ≤ maxLen) :
    Row (paint c w.heap.size k) k (w.alloc (.cells cs.toArray e)) e size (some ⟨w.heap.size, 0, none⟩) n cap (cs.take (n * size)) := by
  have := Nat.mul_le_mul_right size hn
  exact ⟨by rw [List.length_take, hl]; omega, hn, hm, rfl, paint_ge (Nat.le_refl _), cs, heap_alloc_new w _, by simp [hl], by simp⟩

theorem Row.blk {c : Nat → Nat} {k : Nat} {w : World} {e : TypeId} {size b n : Nat} {cs : List Value} (h : Blk c k w b cs e) (hl : cs.length = n * size) (hm : n ≤ maxLen) : Row c k w e size (some ⟨b, 0, none⟩) n n cs :=
  ⟨hl, Nat.le_refl _, hm, rfl, h.1, cs, h.2, by simp [hl], by simp [← hl]⟩

/-! ### What an append takes -/

def Src (w : World) (size : Nat) (y : Value) (m : Nat) (news : List Value) : Prop :=
  (y = .slice none 0 0 ∧ m = 0 ∧ news = []) ∨ ∃ a cap, y = .slice (some a) m cap ∧ news.length = m * size ∧ ∀ j u, news[j]? = some u → w.cell? (a.add j) = some u

theorem Row.src {c : Nat → Nat} {k : Nat} {w : World} {e : TypeId} {size : Nat} {ao : Option Addr} {n cap : Nat} {xs : List Value} (h : Row c k w e size ao n cap xs) : Src w size (.slice ao n cap) n xs := by
  cases ao with
  | none =>
    obtain ⟨h1, h2, h3, h4⟩ := h
    simp only at h4
    subst h4
    have : n = 0 := by omega
    subst this
    exact .inl ⟨rfl, rfl, by simpa using h1⟩
  | some a =>
    refine .inr ⟨a, cap, rfl, h.1, fun j u hu => ?_⟩
    obtain ⟨a', ha, _, hc, _⟩ := h.cell hu
    cases ha
    exact hc

theorem Src.one (w : World) (v : Value) (t : TypeId) : Src (w.alloc (.cells #[v] t)) 1 (.slice (some ⟨w.heap.size, 0, none⟩) 1 1) 1 [v] := by
  refine .inr ⟨_, _, rfl, rfl, fun j u hu => ?_⟩
  match j, hu with
  | 0, hu => simp at hu; subst hu; simp [Addr.add]

/-- A slice literal that has just been laid. -/
theorem Src.new (w : World) (size n : Nat) (cs : List Value) (t : TypeId) (hl : cs.length = n * size) : Src (w.alloc (.cells cs.toArray t)) size (.slice (some ⟨w.heap.size, 0, none⟩) n n) n cs := by
  refine .inr ⟨_, _, rfl, hl, fun j u hu => ?_⟩
  simp [Addr.add_lit, hu]

section
variable {P : Program} (w : World)

theorem run_append_room_at (t ty e : TypeId) (i : TypeInfo) (ht : P.underlying t = some (.slice e)) (hi : P.info? e = some i)
    (g off sLen sCap : Nat) (cur : Array Value) (hg : w.heap[g]? = some (.cells cur e (0, 0)))
    (a : Addr) (m c : Nat) (news : List Value) (hl : news.length = m * i.size) (hnews : ∀ j u, news[j]? = some u → w.cell? (a.add j) = some u) (h1 : ∀ u ∈ news, u.oneCell' = true)
    (hroom : sLen + m ≤ sCap) (hfit : off + sLen * i.size + news.length ≤ cur.size) :
    (Builtin.append_ #[t, t] ty #[.slice (some ⟨g, off, none⟩) sLen sCap, .slice (some a) m c]).run P w =
      .ok (.slice (some ⟨g, off, none⟩) (sLen + m) sCap) (w.setRow g (cur.toList.take (off + sLen * i.size) ++ news ++ cur.toList.drop (off + sLen * i.size + news.length)).toArray) := by
  have hf := run_firstCells_some (P := P) w i.size m a m c news hl hnews
  have hst := run_storeCells_at P g (off + sLen * i.size) e news 0 cur w hg (by simpa using hfit) h1
  simp only [Nat.add_zero] at hst
  simp [Builtin.append_, run_underlying ht, sizeOf, typeInfo, hi, Builtin.lenOf, hroom, hf, Addr.add_lit, hst]

theorem run_append_row (c : Nat → Nat) (k : Nat) (t ty e : TypeId) (i : TypeInfo) (z : Value) (ht : P.underlying t = some (.slice e)) (hi : P.info? e = some i) (hz : i.zero = some z) (hzs : z.cells.size = i.size)
    (ao : Option Addr) (n cap : Nat) (xs : List Value) (hrow : Row c k w e i.size ao n cap xs)
    (y : Value) (m : Nat) (news : List Value) (hsrc : Src w i.size y m news) (h1 : ∀ u ∈ news, u.oneCell' = true)
    (h63 : n + m ≤ maxLen) (hbytes : (n + m) * i.bytes ≤ 140737488355328) :
    ∃ ao' cap' w', (Builtin.append_ #[t, t] ty #[.slice ao n cap, y]).run P w = .ok (.slice ao' (n + m) cap') w' ∧
      Row (paint c w.heap.size k) k w' e i.size ao' (n + m) cap' (xs ++ news) ∧ Stp (· = k) c (paint c w.heap.size k) w w' ∧ Others w w' ao := by
  have hsmall : n + m ≤ 9223372036854775807 := by simp only [maxLen] at h63; omega
  have hst0 : Stp (· = k) c (paint c w.heap.size k) w w := ⟨rfl, rfl, rfl, Nat.le_refl _, fun i hi => paint_lt hi, fun _ _ _ => rfl⟩
  -- nothing is appended
  have nothing : m = 0 → news = [] → (∀ a cc, y = .slice (some a) 0 cc ∨ y = .slice none 0 0 → True) → (Builtin.append_ #[t, t] ty #[.slice ao n cap, y]).run P w = .ok (.slice ao n cap) w →
      ∃ ao' cap' w', (Builtin.append_ #[t, t] ty #[.slice ao n cap, y]).run P w = .ok (.slice ao' (n + m) cap') w' ∧
      Row (paint c w.heap.size k) k w' e i.size ao' (n + m) cap' (xs ++ news) ∧ Stp (· = k) c (paint c w.heap.size k) w w' ∧ Others w w' ao := by
    intro hm hn _ hr
    subst hm; subst hn
    refine ⟨ao, cap, w, by simpa using hr, ?_, hst0, fun _ _ _ => rfl⟩
    have h := hrow.stp (J := fun _ => False) (c' := paint c w.heap.size k) (w' := w) ⟨rfl, rfl, rfl, Nat.le_refl _, fun i hi => paint_lt hi, fun _ _ _ => rfl⟩ id
    simpa using h
  obtain ⟨hx1, hx2, hx3, hx4⟩ := hrow
  rcases hsrc with ⟨rfl, rfl, rfl⟩ | ⟨a, cc, rfl, hl, hnews⟩
  · refine nothing rfl rfl (fun _ _ _ => trivial) ?_
    cases ao with
    | none => simp [Builtin.append_, run_underlying ht, sizeOf, typeInfo, hi, Builtin.lenOf, hx2, Builtin.firstCells]
    | some a =>
      have := run_storeCells_at P a.block (a.off + n * i.size) e [] 0
      simp [Builtin.append_, run_underlying ht, sizeOf, typeInfo, hi, Builtin.lenOf, hx2, Builtin.firstCells, storeCells]
  · by_cases hm : m = 0
    · subst hm
      have hn : news = [] := List.eq_nil_of_length_eq_zero (by simpa using hl)
      subst hn
      refine nothing rfl rfl (fun _ _ _ => trivial) ?_
      have hf := run_firstCells_some (P := P) w i.size 0 a 0 cc [] (by simp) (by simp)
      cases ao with
      | none => simp [Builtin.append_, run_underlying ht, sizeOf, typeInfo, hi, Builtin.lenOf, hx2, hf]
      | some a => simp [Builtin.append_, run_underlying ht, sizeOf, typeInfo, hi, Builtin.lenOf, hx2, hf, storeCells]
    -- a new array
    have grown : ∀ (old : Nat), old < n + m → n ≤ old + n →
        Row (paint c w.heap.size k) k (w.drew.alloc (.cells (xs.toArray ++ news.toArray ++ Builtin.zeroCells z.cells (grownCap w (n + m) old e - (n + m))) e)) e i.size
          (some ⟨w.heap.size, 0, none⟩) (n + m) (grownCap w (n + m) old e) (xs ++ news) ∧
        Stp (· = k) c (paint c w.heap.size k) w (w.drew.alloc (.cells (xs.toArray ++ news.toArray ++ Builtin.zeroCells z.cells (grownCap w (n + m) old e - (n + m))) e)) := by
      intro old ho _
      have hge := grownCap_ge w (n + m) old e
      have hcm : grownCap w (n + m) old e ≤ maxLen := grownCap_le_maxLen w (n + m) old e h63
      have hlen : (xs ++ news).length = (n + m) * i.size := by rw [List.length_append, hx1, hl, Nat.add_mul]
      refine ⟨⟨hlen, hge, hcm, rfl, paint_ge (Nat.le_refl _), (xs.toArray ++ news.toArray ++ Builtin.zeroCells z.cells (grownCap w (n + m) old e - (n + m))).toList, ?_, ?_, ?_⟩, ⟨rfl, rfl, rfl, by simp, fun j hj => paint_lt hj, fun j hj _ => Below.heap_alloc w.drew _ j hj⟩⟩
      · rw [Array.toArray_toList]; exact heap_alloc_new w.drew _
      · simp only [Array.length_toList, Array.size_append, List.size_toArray, size_zeroCells, hzs, hx1, hl, ← Nat.add_mul, Nat.zero_add]
        apply Nat.le_of_eq; congr 1; omega
      · simp only [Array.toList_append, List.drop_zero]
        rw [← hlen]
        exact List.take_left
    cases ao with
    | none =>
      simp only at hx4
      subst hx4
      have hn0 : n = 0 := by omega
      subst hn0
      have hx0 : xs = [] := List.eq_nil_of_length_eq_zero (by simpa using hx1)
      subst hx0
      have hr := run_append_nil (P := P) w t ty e i z ht hi hz a m cc news hl hnews (by omega) (by omega) (by have hb := hbytes; simp only [Nat.zero_add] at hb; omega)
      have hgr := grown 0 (by omega) (by omega)
      simp only [Nat.zero_add, List.nil_append, Array.empty_append] at hgr ⊢
      exact ⟨_, _, _, hr, hgr.1, hgr.2, fun j hj _ => Below.heap_alloc w.drew _ j hj⟩
    | some b =>
      obtain ⟨hs, hc, cur, hb, hlc, hx⟩ := hx4
      have hbe : b = ⟨b.block, b.off, none⟩ := by cases b; simp_all
      by_cases hroom : n + m ≤ cap
      · have hle : (n + m) * i.size ≤ cap * i.size := Nat.mul_le_mul_right _ hroom
        rw [Nat.add_mul] at hle
        have hfit : b.off + n * i.size + news.length ≤ cur.toArray.size := by rw [hl]; simp; omega
        have hr := run_append_room_at (P := P) w t ty e i ht hi b.block b.off n cap cur.toArray hb a m cc news hl hnews h1 hroom hfit
        rw [← hbe] at hr
        refine ⟨_, _, _, hr, ⟨by rw [List.length_append, hx1, hl, Nat.add_mul], hroom, hx3, hs, ?_, _, setRow_heap w b.block cur.toArray _ e _ hb, ?_, ?_⟩, ?_, fun j _ hn => setRow_other w b.block j _ (fun e => hn b rfl e.symm)⟩
        · rw [paint_lt (lt_of_block hb)]; exact hc
        · simp only [List.length_append, List.length_take, List.length_drop]
          omega
        · have e1 : (cur.take (b.off + n * i.size)).length = b.off + n * i.size := by rw [List.length_take]; omega
          have e2 : (cur.take (b.off + n * i.size)).drop b.off = xs := by rw [← hx, List.drop_take]; congr 1; omega
          simp only [List.append_assoc]
          rw [List.drop_append_of_le_length (by omega), e2, ← List.append_assoc]
          rw [show (n + m) * i.size = (xs ++ news).length by rw [List.length_append, hx1, hl, Nat.add_mul]]
          exact List.take_left
        · exact hst0.setRow _ (by rw [paint_lt (lt_of_block hb)]; exact hc)
      · have holds : ∀ j u, xs[j]? = some u → w.cell? (b.add j) = some u := by
          intro j u hu
          obtain ⟨a', ha, _, hcc, _⟩ := Row.cell (show Row c k w e i.size (some b) n cap xs from ⟨hx1, hx2, hx3, hs, hc, cur, hb, hlc, hx⟩) hu
          cases ha
          exact hcc
        have hr := run_append_grow (P := P) w t ty e i z ht hi hz b n cap xs hx1 holds a m cc news hl hnews (by omega) (by omega) (growslice_fits (by omega) hbytes)
        have hgr := grown cap (by omega) (by omega)
        exact ⟨_, _, _, hr, hgr.1, hgr.2, fun j hj _ => Below.heap_alloc w.drew _ j hj⟩

theorem wpList_append_row {ops : Array Oper} {rest : List Oper} {o : Oper} {a : Act} {Q : Exit → Act → World → Prop} (hgd : o.guard = none) (s x : Operand) (t : TypeId)
    (ho : o.op = .call { callee := .builtin .append, args := #[s, x], argTypes := #[t, t] })
    (c : Nat → Nat) (k : Nat) (e : TypeId) (z : Value) (size bytes : Nat) (ht : P.underlying t = some (.slice e)) (hinfo : (P.info? e).map (fun i => (i.zero, i.size, i.bytes)) = some (some z, size, bytes))
    (hzs : z.cells.size = size)
    (ao : Option Addr) (n cap : Nat) (xs : List Value) (hs : a.eval s = .slice ao n cap) (hrow : Row c k w e size ao n cap xs)
    (y : Value) (m : Nat) (news : List Value) (hx : a.eval x = y) (hsrc : Src w size y m news) (h1 : ∀ u ∈ news, u.oneCell' = true)
    (h63 : n + m ≤ maxLen) (hbytes : (n + m) * bytes ≤ 140737488355328)
    (h : ∀ ao' cap' w', Row (paint c w.heap.size k) k w' e size ao' (n + m) cap' (xs ++ news) → Stp (· = k) c (paint c w.heap.size k) w w' → Others w w' ao → wpList P ops Q rest (a.put o.dst (.slice ao' (n + m) cap')) w') :
    wpList P ops Q (o :: rest) a w := by
  obtain ⟨i, hi, hz, hsize, hby⟩ := info_parts hinfo
  subst hsize; subst hby
  refine wpList_plain hgd fun _ hK => ?_
  obtain ⟨ao', cap', w', hr, h2, h3, h4⟩ := run_append_row (P := P) w c k t o.type e i z ht hi hz hzs ao n cap xs hrow y m news hsrc h1 h63 hbytes
  unfold Oper.wp execOp
  simp only [ho, resolve, invoke, builtin, Sem.run_bind, Sem.run_pure, Result.andThen_ok, List.map_toArray, List.map_cons, List.map_nil, hs, hx, hr]
  exact hK _ _ (h ao' cap' w' h2 h3 h4)
end
end Go.Proofs.YtiphdedfbafhkaaGreatDoor
