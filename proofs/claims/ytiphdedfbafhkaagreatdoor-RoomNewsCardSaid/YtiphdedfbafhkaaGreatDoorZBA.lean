/- Contracts that the closing theorem wants (BA). No condition beyond each law's own. -/
import Derived.WalkKit
import Derived.WalkLawsBesides
import Derived.WalkSpells
import Derived.Lib.Hide
import Derived.Test.YtiphdedfbafhkaaGreatDoorRows
import Derived.ProofKit
import Derived.OpenShut
import Derived.Test.YtiphdedfbafhkaaGreatDoorCards
import Derived.Test.YtiphdedfbafhkaaGreatDoorTie
import Derived.LaidMore
import Derived.Lib.LaidTab
import Derived.MakeChecks
import Derived.Stop.Joined
import Derived.SevenTiedAt
import Derived.Deep.DeepMust
import Derived.LaidEql
import Derived.Stop.Asserts
import Derived.RowKitTokens
import Derived.Deep.Slices
import Derived.ChangeSame
namespace Go.Proofs.YtiphdedfbafhkaaGreatDoor
open Go.RowKit

def paint (c : Nat → Nat) (n k : Nat) : Nat → Nat := fun i => if i < n then c i else k

theorem paint_lt {c : Nat → Nat} {n k i : Nat} (h : i < n) : paint c n k i = c i := by simp [paint, h]
theorem paint_ge {c : Nat → Nat} {n k i : Nat} (h : n ≤ i) : paint c n k i = k := by simp [paint, Nat.not_lt.2 h]

structure Stp (J : Nat → Prop) (c c' : Nat → Nat) (w w' : World) : Prop where
  os : w'.os = w.os
  tape : w'.tape = w.tape
  output : w'.output = w.output
  size : w.heap.size ≤ w'.heap.size
  col : ∀ i, i < w.heap.size → c' i = c i
  block : ∀ i, i < w.heap.size → ¬ J (c i) → w'.heap[i]? = w.heap[i]?

theorem Stp.refl (J : Nat → Prop) (c : Nat → Nat) (w : World) : Stp J c c w w := ⟨rfl, rfl, rfl, Nat.le_refl _, fun _ _ => rfl, fun _ _ _ => rfl⟩

theorem Stp.trans {J : Nat → Prop} {c c1 c2 : Nat → Nat} {w w1 w2 : World} (h : Stp J c c1 w w1) (k : Stp J c1 c2 w1 w2) : Stp J c c2 w w2 :=
  ⟨k.os.trans h.os, k.tape.trans h.tape, k.output.trans h.output, Nat.le_trans h.size k.size,
    fun i hi => (k.col i (Nat.lt_of_lt_of_le hi h.size)).trans (h.col i hi),
    fun i hi hj => (k.block i (Nat.lt_of_lt_of_le hi h.size) (by rw [h.col i hi]; exact hj)).trans (h.block i hi hj)⟩

theorem Stp.mono {J J' : Nat → Prop} {c c' : Nat → Nat} {w w' : World} (h : Stp J c c' w w') (hj : ∀ k, J k → J' k) : Stp J' c c' w w' :=
  ⟨h.os, h.tape, h.output, h.size, h.col, fun i hi hn => h.block i hi fun hh => hn (hj _ hh)⟩

theorem Stp.alloc {J : Nat → Prop} {c c' : Nat → Nat} {a w : World} (h : Stp J c c' a w) (o : Obj) (j : Nat) : Stp J c (paint c' w.heap.size j) a (w.alloc o) :=
  h.trans ⟨rfl, rfl, rfl, by simp, fun i hi => paint_lt hi, fun i hi _ => Below.heap_alloc w o i hi⟩

theorem Stp.setCell {J : Nat → Prop} {c c' : Nat → Nat} {a w : World} (h : Stp J c c' a w) {p : Addr} (v : Value) (hp : J (c' p.block)) : Stp J c c' a (w.setCell p v) :=
  h.trans ⟨rfl, rfl, rfl, by simp [World.setCell], fun i _ => rfl, fun i _ hn => Below.heap_setCell w p v i (by rintro rfl; exact hn hp)⟩

theorem Stp.setRow {J : Nat → Prop} {c c' : Nat → Nat} {a w : World} (h : Stp J c c' a w) {g : Nat} (cs : Array Value) (hp : J (c' g)) : Stp J c c' a (w.setRow g cs) :=
  h.trans ⟨rfl, rfl, rfl, by simp [World.setRow], fun i _ => rfl, fun i _ hn => setRow_other w g i cs (by rintro rfl; exact hn hp)⟩

theorem Stp.drew {J : Nat → Prop} {c c' : Nat → Nat} {a w : World} (h : Stp J c c' a w) : Stp J c c' a w.drew := ⟨h.os, h.tape, h.output, h.size, h.col, h.block⟩
theorem Stp.drewN {J : Nat → Prop} {c c' : Nat → Nat} {a w : World} (h : Stp J c c' a w) (n : Nat) : Stp J c c' a (w.drewN n) := ⟨h.os, h.tape, h.output, h.size, h.col, h.block⟩

/-- What a step that turns none of the old blocks' colours leaves. -/
theorem Stp.below {J : Nat → Prop} {c c' : Nat → Nat} {w w' : World} (h : Stp J c c' w w') {B : Nat} (hB : B ≤ w.heap.size) (hc : ∀ i, i < B → ¬ J (c i)) : Below B w w' :=
  ⟨h.os, h.tape, h.output, h.size, fun i hi => h.block i (Nat.lt_of_lt_of_le hi hB) (hc i hi)⟩

def Blk (c : Nat → Nat) (k : Nat) (w : World) (b : Nat) (cs : List Value) (t : TypeId) : Prop := c b = k ∧ w.heap[b]? = some (.cells cs.toArray t (0, 0))

theorem Blk.lt {c : Nat → Nat} {k : Nat} {w : World} {b : Nat} {cs : List Value} {t : TypeId} (h : Blk c k w b cs t) : b < w.heap.size := lt_of_block h.2

theorem Blk.cell {c : Nat → Nat} {k : Nat} {w : World} {b : Nat} {cs : List Value} {t : TypeId} (h : Blk c k w b cs t) (i : Nat) : w.cell? ⟨b, i, none⟩ = cs[i]? := by simp [World.cell?, h.2]

theorem Blk.free {c : Nat → Nat} {k : Nat} {w : World} {b : Nat} {cs : List Value} {t : TypeId} (h : Blk c k w b cs t) (i : Nat) : w.frozen? ⟨b, i, none⟩ = false := by simp [World.frozen?, h.2]

theorem Blk.stp {J : Nat → Prop} {c c' : Nat → Nat} {k : Nat} {w w' : World} {b : Nat} {cs : List Value} {t : TypeId} (h : Blk c k w b cs t) (s : Stp J c c' w w') (hk : ¬ J k) : Blk c' k w' b cs t :=
  ⟨(s.col b h.lt).trans h.1, by rw [s.block b h.lt (by rw [h.1]; exact hk)]; exact h.2⟩

theorem Blk.alloc {c : Nat → Nat} {k : Nat} {w : World} {b : Nat} {cs : List Value} {t : TypeId} (h : Blk c k w b cs t) (o : Obj) (j : Nat) : Blk (paint c w.heap.size j) k (w.alloc o) b cs t :=
  h.stp ((Stp.refl (fun _ => False) c w).alloc o j) id

theorem Blk.drew {c : Nat → Nat} {k : Nat} {w : World} {b : Nat} {cs : List Value} {t : TypeId} (h : Blk c k w b cs t) : Blk c k w.drew b cs t := h
/-- All blocks but the one in which a slice lies are as they were. -/
def Others (w w' : World) (ao : Option Addr) : Prop := ∀ j, j < w.heap.size → (∀ a, ao = some a → a.block ≠ j) → w'.heap[j]? = w.heap[j]?

/-- A block that an append has not touched. -/
theorem Blk.kept {c c' : Nat → Nat} {k : Nat} {w w' : World} {b : Nat} {cs : List Value} {t : TypeId} {ao : Option Addr} (h : Blk c k w b cs t) (hc : c' b = c b)
    (ho : Others w w' ao) (hn : ∀ a, ao = some a → a.block ≠ b) : Blk c' k w' b cs t :=
  ⟨hc.trans h.1, by rw [ho b h.lt hn]; exact h.2⟩

theorem Blk.new (c : Nat → Nat) (k : Nat) (w : World) (cs : List Value) (t : TypeId) : Blk (paint c w.heap.size k) k (w.alloc (.cells cs.toArray t)) w.heap.size cs t :=
  ⟨paint_ge (Nat.le_refl _), heap_alloc_new w _⟩

theorem heap_setCell_same {w : World} {b i : Nat} {cs : List Value} {t : TypeId} {fr : Nat × Nat} (v : Value) (h : w.heap[b]? = some (.cells cs.toArray t fr)) :
    (w.setCell ⟨b, i, none⟩ v).heap[b]? = some (.cells (cs.set i v).toArray t fr) := by
  have hlt := lt_of_block h
  have h' : w.heap[b] = .cells cs.toArray t fr := by simpa [Array.getElem?_eq_getElem hlt] using h
  show (w.heap.modify b _)[b]? = _
  rw [Array.getElem?_eq_getElem (by simpa using hlt), Array.getElem_modify_self, h']
  simp

theorem Blk.set {c : Nat → Nat} {k : Nat} {w : World} {b : Nat} {cs : List Value} {t : TypeId} (h : Blk c k w b cs t) (i : Nat) (v : Value) : Blk c k (w.setCell ⟨b, i, none⟩ v) b (cs.set i v) t :=
  ⟨h.1, heap_setCell_same v h.2⟩

theorem Blk.other {c : Nat → Nat} {k : Nat} {w : World} {b : Nat} {cs : List Value} {t : TypeId} (h : Blk c k w b cs t) {p : Addr} (v : Value) (hp : p.block ≠ b) : Blk c k (w.setCell p v) b cs t :=
  ⟨h.1, by rw [Below.heap_setCell w p v b (fun e => hp e.symm)]; exact h.2⟩

theorem cell_other {w : World} {p a : Addr} {v : Value} (h : p.block ≠ a.block) : (w.setCell p v).cell? a = w.cell? a := World.cell?_of_block (Below.heap_setCell w p v _ (fun e => h e.symm))

/-- The slice value `.slice ao n cap` of elements of type `e`, `size` cells each, lies in a block of colour `k`, and its cells are `xs`; what is behind its end, up to the capacity, is its own. -/
def Row (c : Nat → Nat) (k : Nat) (w : World) (e : TypeId) (size : Nat) (ao : Option Addr) (n cap : Nat) (xs : List Value) : Prop :=
  xs.length = n * size ∧ n ≤ cap ∧ cap ≤ maxLen ∧
    match ao with
    | none => cap = 0
    | some a => a.spot = none ∧ c a.block = k ∧ ∃ cur : List Value, w.heap[a.block]? = some (.cells cur.toArray e (0, 0)) ∧ a.off + cap * size ≤ cur.length ∧ (cur.drop a.off).take (n * size) = xs

theorem Row.nil (c : Nat → Nat) (k : Nat) (w : World) (e : TypeId) (size : Nat) : Row c k w e size none 0 0 [] := ⟨by simp, Nat.le_refl _, Nat.zero_le _, rfl⟩

theorem Row.stp {J : Nat → Prop} {c c' : Nat → Nat} {k : Nat} {w w' : World} {e : TypeId} {size : Nat} {ao : Option Addr} {n cap : Nat} {xs : List Value} (h : Row c k w e size ao n cap xs) (s : Stp J c c' w w') (hk : ¬ J k) : Row c' k w' e size ao n cap xs := by
  obtain ⟨h1, h2, h3, h4⟩ := h
  refine ⟨h1, h2, h3, ?_⟩
  cases ao with
  | none => exact h4
  | some a =>
    obtain ⟨hs, hc, cur, hb, hl, hx⟩ := h4
    have hlt := lt_of_block hb
    exact ⟨hs, (s.col _ hlt).trans hc, cur, by rw [s.block _ hlt (by rw [hc]; exact hk)]; exact hb, hl, hx⟩

theorem Row.alloc {c : Nat → Nat} {k : Nat} {w : World} {e : TypeId} {size : Nat} {ao : Option Addr} {n cap : Nat} {xs : List Value} (h : Row c k w e size ao n cap xs) (o : Obj) (j : Nat) : Row (paint c w.heap.size j) k (w.alloc o) e size ao n cap xs :=
  h.stp ((Stp.refl (fun _ => False) c w).alloc o j) id
theorem Row.drew {c : Nat → Nat} {k : Nat} {w : World} {e : TypeId} {size : Nat} {ao : Option Addr} {n cap : Nat} {xs : List Value} (h : Row c k w e size ao n cap xs) : Row c k w.drew e size ao n cap xs := h
theorem Row.drewN {c : Nat → Nat} {k : Nat} {w : World} {e : TypeId} {size : Nat} {ao : Option Addr} {n cap : Nat} {xs : List Value} (h : Row c k w e size ao n cap xs) (m : Nat) : Row c k (w.drewN m) e size ao n cap xs := h

/-- A store into a block of another element type. -/
theorem Row.other {c : Nat → Nat} {k : Nat} {w : World} {e : TypeId} {size : Nat} {ao : Option Addr} {n cap : Nat} {xs : List Value} (h : Row c k w e size ao n cap xs) {p : Addr} {u : Value} (v : Value) (hp : ∀ a, ao = some a → a.block ≠ p.block) (_hu : u = v) : Row c k (w.setCell p v) e size ao n cap xs := by
  obtain ⟨h1, h2, h3, h4⟩ := h
  refine ⟨h1, h2, h3, ?_⟩
  cases ao with
  | none => exact h4
  | some a =>
    obtain ⟨hs, hc, cur, hb, hl, hx⟩ := h4
    exact ⟨hs, hc, cur, by rw [Below.heap_setCell w p v _ (hp a rfl)]; exact hb, hl, hx⟩

theorem Row.ne_blk {c : Nat → Nat} {k k' : Nat} {w : World} {e t : TypeId} {size : Nat} {ao : Option Addr} {n cap : Nat} {xs cs : List Value} {b : Nat} (h : Row c k w e size ao n cap xs) (hb : Blk c k' w b cs t) (hne : e ≠ t) : ∀ a, ao = some a → a.block ≠ b := by
  rintro a rfl rfl
  obtain ⟨_, _, _, _, _, cur, hh, _⟩ := h
  have := hb.2
  rw [hh] at this
  simp at this
  exact hne this.2

/-- A cell of the slice. -/
theorem Row.cell {c : Nat → Nat} {k : Nat} {w : World} {e : TypeId} {size : Nat} {ao : Option Addr} {n cap : Nat} {xs : List Value} (h : Row c k w e size ao n cap xs) {j : Nat} {v : Value} (hv : xs[j]? = some v) :
    ∃ a, ao = some a ∧ a.spot = none ∧ w.cell? (a.add j) = some v ∧ w.frozen? (a.add j) = false ∧ a.add j = ⟨a.block, a.off + j, none⟩ ∧ c a.block = k := by
  obtain ⟨h1, h2, h3, h4⟩ := h
  have hj : j < xs.length := (List.getElem?_eq_some_iff.1 hv).1
  cases ao with
  | none =>
    simp only at h4
    subst h4
    have : n = 0 := by omega
    subst this
    simp at h1
    subst h1
    simp at hj
  | some a =>
    obtain ⟨hs, hc, cur, hb, hl, hx⟩ := h4
    have ha : a.add j = ⟨a.block, a.off + j, none⟩ := by
      unfold Addr.add
      split
      · next hz => subst hz; cases a; simp_all
      · simp
    refine ⟨a, rfl, hs, ?_, ?_, ha, hc⟩
    · rw [ha]
      have : cur[a.off + j]? = some v := by
        rw [← hx, List.getElem?_take] at hv
        split at hv
        · rw [List.getElem?_drop] at hv
          exact hv
        · cases hv
      simp [World.cell?, hb, this]
    · rw [ha]; simp [World.frozen?, hb]

theorem list_set_append {α : Type} (l : List α) (i : Nat) (v : α) (m n : Nat) (_h : i < n) : ((l.set (m + i) v).drop m).take n = ((l.drop m).take n).set i v := by
  rw [List.drop_set]
  simp only [Nat.not_lt.2 (Nat.le_add_right m i), if_false, Nat.add_sub_cancel_left]
  rw [List.take_set]

/-- A store into a cell of the slice. -/
theorem Row.set {c : Nat → Nat} {k : Nat} {w : World} {e : TypeId} {size : Nat} {a : Addr} {n cap : Nat} {xs : List Value} (h : Row c k w e size (some a) n cap xs) (j : Nat) (v : Value) (hj : j < xs.length) :
    Row c k (w.setCell ⟨a.block, a.off + j, none⟩ v) e size (some a) n cap (xs.set j v) := by
  obtain ⟨h1, h2, h3, hs, hc, cur, hb, hl, hx⟩ := h
  refine ⟨by simpa using h1, h2, h3, hs, hc, cur.set (a.off + j) v, heap_setCell_same v hb, by simpa using hl, ?_⟩
  rw [list_set_append _ _ _ _ _ (by omega), hx]

/-- A slice of what is behind the first `m`. -/
theorem Row.drop {c : Nat → Nat} {k : Nat} {w : World} {e : TypeId} {size : Nat} {a : Addr} {n cap : Nat} {xs : List Value} (h : Row c k w e size (some a) n cap xs) (m : Nat) (hm : m ≤ n) :
    Row c k w e size (some ⟨a.block, a.off + m * size, none⟩) (n - m) (cap - m) (xs.drop (m * size)) := by
  obtain ⟨h1, h2, h3, hs, hc, cur, hb, hl, hx⟩ := h
  refine ⟨by rw [List.length_drop, h1, Nat.sub_mul], by omega, by omega, rfl, hc, cur, hb, ?_, ?_⟩
  · have : (cap - m) * size + m * size = cap * size := by rw [← Nat.add_mul]; congr 1; omega
    simp only; omega
  · simp only
    rw [← hx, List.drop_take, ← List.drop_drop, ← Nat.sub_mul]

theorem Row.take {c : Nat → Nat} {k : Nat} {w : World} {e : TypeId} {size : Nat} {ao : Option Addr} {n cap : Nat} {xs : List Value} (h : Row c k w e size ao n cap xs) (m : Nat) (hm : m ≤ n) :
    Row c k w e size ao m cap (xs.take (m * size)) := by
  obtain ⟨h1, h2, h3, h4⟩ := h
  have hms : m * size ≤ n * size := Nat.mul_le_mul_right _ hm
  refine ⟨by rw [List.length_take, h1]; omega, by omega, h3, ?_⟩
  cases ao with
  | none => exact h4
  | some a =>
    obtain ⟨hs, hc, cur, hb, hl, hx⟩ := h4
    exact ⟨hs, hc, cur, hb, hl, by rw [← hx, List.take_take]; congr 1; omega⟩

/-- A block that has just been made, as a slice. -/
theorem Row.new (c : Nat → Nat) (k : Nat) (w : World) (e : TypeId) (size n cap : Nat) (cs : List Value) (hl : cs.length = cap * size) (hn : n ≤ cap) (hm : cap ≤ maxLen) :
    Row (paint c w.heap.size k) k (w.alloc (.cells cs.toArray e)) e size (some ⟨w.heap.size, 0, none⟩) n cap (cs.take (n * size)) := by
  have := Nat.mul_le_mul_right size hn
  exact ⟨by rw [List.length_take, hl]; omega, hn, hm, rfl, paint_ge (Nat.le_refl _), cs, heap_alloc_new w _, by simp [hl], by simp⟩

theorem Row.blk {c : Nat → Nat} {k : Nat} {w : World} {e : TypeId} {size b n : Nat} {cs : List Value} (h : Blk c k w b cs e) (hl : cs.length = n * size) (hm : n ≤ maxLen) : Row c k w e size (some ⟨b, 0, none⟩) n n cs :=
  ⟨hl, Nat.le_refl _, hm, rfl, h.1, cs, h.2, by simp [hl], by simp [← hl]⟩

def Src (w : World) (size : Nat) (y : Value) (m : Nat) (news : List Value) : Prop :=
  (y = .slice none 0 0 ∧ m = 0 ∧ news = []) ∨ ∃ a cap, y = .slice (some a) m cap ∧ news.length = m * size ∧ ∀ j u, news[j]? = some u → w.cell? (a.add j) = some u

theorem Row.src {c : Nat → Nat} {k : Nat} {w : World} {e : TypeId} {size : Nat} {ao : Option Addr} {n cap : Nat} {xs : List Value} (h : Row c k w e size ao n cap xs) : Src w size (.slice ao n cap) n xs := by
  cases ao with
  | none =>
    obtain ⟨h1, h2, h3, h4⟩ := h
    simp only at h4
    subst h4
    have : n = 0 := by omega
    subst this
    exact .inl ⟨rfl, rfl, by simpa using h1⟩
  | some a =>
    refine .inr ⟨a, cap, rfl, h.1, fun j u hu => ?_⟩
    obtain ⟨a', ha, _, hc, _⟩ := h.cell hu
    cases ha
    exact hc

theorem Src.one (w : World) (v : Value) (t : TypeId) : Src (w.alloc (.cells #[v] t)) 1 (.slice (some ⟨w.heap.size, 0, none⟩) 1 1) 1 [v] := by
  refine .inr ⟨_, _, rfl, rfl, fun j u hu => ?_⟩
  match j, hu with
  | 0, hu => simp at hu; subst hu; simp [Addr.add]

/-- A slice literal that has just been laid. -/
theorem Src.new (w : World) (size n : Nat) (cs : List Value) (t : TypeId) (hl : cs.length = n * size) : Src (w.alloc (.cells cs.toArray t)) size (.slice (some ⟨w.heap.size, 0, none⟩) n n) n cs := by
  refine .inr ⟨_, _, rfl, hl, fun j u hu => ?_⟩
  simp [Addr.add_lit, hu]

section
variable {P : Program} (w : World)

theorem run_append_room_at (t ty e : TypeId) (i : TypeInfo) (ht : P.underlying t = some (.slice e)) (hi : P.info? e = some i)
    (g off sLen sCap : Nat) (cur : Array Value) (hg : w.heap[g]? = some (.cells cur e (0, 0)))
    (a : Addr) (m c : Nat) (news : List Value) (hl : news.length = m * i.size) (hnews : ∀ j u, news[j]? = some u → w.cell? (a.add j) = some u) (h1 : ∀ u ∈ news, u.oneCell' = true)
    (hroom : sLen + m ≤ sCap) (hfit : off + sLen * i.size + news.length ≤ cur.size) :
    (Builtin.append_ #[t, t] ty #[.slice (some ⟨g, off, none⟩) sLen sCap, .slice (some a) m c]).run P w =
      .ok (.slice (some ⟨g, off, none⟩) (sLen + m) sCap) (w.setRow g (cur.toList.take (off + sLen * i.size) ++ news ++ cur.toList.drop (off + sLen * i.size + news.length)).toArray) := by
  have hf := run_firstCells_some (P := P) w i.size m a m c news hl hnews
  have hst := run_storeCells_at P g (off + sLen * i.size) e news 0 cur w hg (by simpa using hfit) h1
  simp only [Nat.add_zero] at hst
  simp [Builtin.append_, run_underlying ht, sizeOf, typeInfo, hi, Builtin.lenOf, hroom, hf, Addr.add_lit, hst]

theorem run_append_row (c : Nat → Nat) (k : Nat) (t ty e : TypeId) (i : TypeInfo) (z : Value) (ht : P.underlying t = some (.slice e)) (hi : P.info? e = some i) (hz : i.zero = some z) (hzs : z.cells.size = i.size)
    (ao : Option Addr) (n cap : Nat) (xs : List Value) (hrow : Row c k w e i.size ao n cap xs)
    (y : Value) (m : Nat) (news : List Value) (hsrc : Src w i.size y m news) (h1 : ∀ u ∈ news, u.oneCell' = true)
    (h63 : n + m ≤ maxLen) (hbytes : (n + m) * i.bytes ≤ 140737488355328) :
    ∃ ao' cap' w', (Builtin.append_ #[t, t] ty #[.slice ao n cap, y]).run P w = .ok (.slice ao' (n + m) cap') w' ∧
      Row (paint c w.heap.size k) k w' e i.size ao' (n + m) cap' (xs ++ news) ∧ Stp (· = k) c (paint c w.heap.size k) w w' ∧ Others w w' ao := by
  have hsmall : n + m ≤ 9223372036854775807 := by simp only [maxLen] at h63; omega
  have hst0 : Stp (· = k) c (paint c w.heap.size k) w w := ⟨rfl, rfl, rfl, Nat.le_refl _, fun i hi => paint_lt hi, fun _ _ _ => rfl⟩
  -- nothing is appended
  have nothing : m = 0 → news = [] → (∀ a cc, y = .slice (some a) 0 cc ∨ y = .slice none 0 0 → True) → (Builtin.append_ #[t, t] ty #[.slice ao n cap, y]).run P w = .ok (.slice ao n cap) w →
      ∃ ao' cap' w', (Builtin.append_ #[t, t] ty #[.slice ao n cap, y]).run P w = .ok (.slice ao' (n + m) cap') w' ∧
      Row (paint c w.heap.size k) k w' e i.size ao' (n + m) cap' (xs ++ news) ∧ Stp (· = k) c (paint c w.heap.size k) w w' ∧ Others w w' ao := by
    intro hm hn _ hr
    subst hm; subst hn
    refine ⟨ao, cap, w, by simpa using hr, ?_, hst0, fun _ _ _ => rfl⟩
    have h := hrow.stp (J := fun _ => False) (c' := paint c w.heap.size k) (w' := w) ⟨rfl, rfl, rfl, Nat.le_refl _, fun i hi => paint_lt hi, fun _ _ _ => rfl⟩ id
    simpa using h
  obtain ⟨hx1, hx2, hx3, hx4⟩ := hrow
  rcases hsrc with ⟨rfl, rfl, rfl⟩ | ⟨a, cc, rfl, hl, hnews⟩
  · refine nothing rfl rfl (fun _ _ _ => trivial) ?_
    cases ao with
    | none => simp [Builtin.append_, run_underlying ht, sizeOf, typeInfo, hi, Builtin.lenOf, hx2, Builtin.firstCells]
    | some a =>
      have := run_storeCells_at P a.block (a.off + n * i.size) e [] 0
      simp [Builtin.append_, run_underlying ht, sizeOf, typeInfo, hi, Builtin.lenOf, hx2, Builtin.firstCells, storeCells]
  · by_cases hm : m = 0
    · subst hm
      have hn : news = [] := List.eq_nil_of_length_eq_zero (by simpa using hl)
      subst hn
      refine nothing rfl rfl (fun _ _ _ => trivial) ?_
      have hf := run_firstCells_some (P := P) w i.size 0 a 0 cc [] (by simp) (by simp)
      cases ao with
      | none => simp [Builtin.append_, run_underlying ht, sizeOf, typeInfo, hi, Builtin.lenOf, hx2, hf]
      | some a => simp [Builtin.append_, run_underlying ht, sizeOf, typeInfo, hi, Builtin.lenOf, hx2, hf, storeCells]
    -- a new array
    have grown : ∀ (old : Nat), old < n + m → n ≤ old + n →
        Row (paint c w.heap.size k) k (w.drew.alloc (.cells (xs.toArray ++ news.toArray ++ Builtin.zeroCells z.cells (grownCap w (n + m) old e - (n + m))) e)) e i.size
          (some ⟨w.heap.size, 0, none⟩) (n + m) (grownCap w (n + m) old e) (xs ++ news) ∧
        Stp (· = k) c (paint c w.heap.size k) w (w.drew.alloc (.cells (xs.toArray ++ news.toArray ++ Builtin.zeroCells z.cells (grownCap w (n + m) old e - (n + m))) e)) := by
      intro old ho _
      have hge := grownCap_ge w (n + m) old e
      have hcm : grownCap w (n + m) old e ≤ maxLen := grownCap_le_maxLen w (n + m) old e h63
      have hlen : (xs ++ news).length = (n + m) * i.size := by rw [List.length_append, hx1, hl, Nat.add_mul]
      refine ⟨⟨hlen, hge, hcm, rfl, paint_ge (Nat.le_refl _), (xs.toArray ++ news.toArray ++ Builtin.zeroCells z.cells (grownCap w (n + m) old e - (n + m))).toList, ?_, ?_, ?_⟩, ⟨rfl, rfl, rfl, by simp, fun j hj => paint_lt hj, fun j hj _ => Below.heap_alloc w.drew _ j hj⟩⟩
      · rw [Array.toArray_toList]; exact heap_alloc_new w.drew _
      · simp only [Array.length_toList, Array.size_append, List.size_toArray, size_zeroCells, hzs, hx1, hl, ← Nat.add_mul, Nat.zero_add]
        apply Nat.le_of_eq; congr 1; omega
      · simp only [Array.toList_append, List.drop_zero]
        rw [← hlen]
        exact List.take_left
    cases ao with
    | none =>
      simp only at hx4
      subst hx4
      have hn0 : n = 0 := by omega
      subst hn0
      have hx0 : xs = [] := List.eq_nil_of_length_eq_zero (by simpa using hx1)
      subst hx0
      have hr := run_append_nil (P := P) w t ty e i z ht hi hz a m cc news hl hnews (by omega) (by omega) (by have hb := hbytes; simp only [Nat.zero_add] at hb; omega)
      have hgr := grown 0 (by omega) (by omega)
      simp only [Nat.zero_add, List.nil_append, Array.empty_append] at hgr ⊢
      exact ⟨_, _, _, hr, hgr.1, hgr.2, fun j hj _ => Below.heap_alloc w.drew _ j hj⟩
    | some b =>
      obtain ⟨hs, hc, cur, hb, hlc, hx⟩ := hx4
      have hbe : b = ⟨b.block, b.off, none⟩ := by cases b; simp_all
      by_cases hroom : n + m ≤ cap
      · have hle : (n + m) * i.size ≤ cap * i.size := Nat.mul_le_mul_right _ hroom
        rw [Nat.add_mul] at hle
        have hfit : b.off + n * i.size + news.length ≤ cur.toArray.size := by rw [hl]; simp; omega
        have hr := run_append_room_at (P := P) w t ty e i ht hi b.block b.off n cap cur.toArray hb a m cc news hl hnews h1 hroom hfit
        rw [← hbe] at hr
        refine ⟨_, _, _, hr, ⟨by rw [List.length_append, hx1, hl, Nat.add_mul], hroom, hx3, hs, ?_, _, setRow_heap w b.block cur.toArray _ e _ hb, ?_, ?_⟩, ?_, fun j _ hn => setRow_other w b.block j _ (fun e => hn b rfl e.symm)⟩
        · rw [paint_lt (lt_of_block hb)]; exact hc
        · simp only [List.length_append, List.length_take, List.length_drop]
          omega
        · have e1 : (cur.take (b.off + n * i.size)).length = b.off + n * i.size := by rw [List.length_take]; omega
          have e2 : (cur.take (b.off + n * i.size)).drop b.off = xs := by rw [← hx, List.drop_take]; congr 1; omega
          simp only [List.append_assoc]
          rw [List.drop_append_of_le_length (by omega), e2, ← List.append_assoc]
          rw [show (n + m) * i.size = (xs ++ news).length by rw [List.length_append, hx1, hl, Nat.add_mul]]
          exact List.take_left
        · exact hst0.setRow _ (by rw [paint_lt (lt_of_block hb)]; exact hc)
      · have holds : ∀ j u, xs[j]? = some u → w.cell? (b.add j) = some u := by
          intro j u hu
          obtain ⟨a', ha, _, hcc, _⟩ := Row.cell (show Row c k w e i.size (some b) n cap xs from ⟨hx1, hx2, hx3, hs, hc, cur, hb, hlc, hx⟩) hu
          cases ha
          exact hcc
        have hr := run_append_grow (P := P) w t ty e i z ht hi hz b n cap xs hx1 holds a m cc news hl hnews (by omega) (by omega) (growslice_fits (by omega) hbytes)
        have hgr := grown cap (by omega) (by omega)
        exact ⟨_, _, _, hr, hgr.1, hgr.2, fun j hj _ => Below.heap_alloc w.drew _ j hj⟩

theorem wpList_append_row {ops : Array Oper} {rest : List Oper} {o : Oper} {a : Act} {Q : Exit → Act → World → Prop} (hgd : o.guard = none) (s x : Operand) (t : TypeId)
    (ho : o.op = .call { callee := .builtin .append, args := #[s, x], argTypes := #[t, t] })
    (c : Nat → Nat) (k : Nat) (e : TypeId) (z : Value) (size bytes : Nat) (ht : P.underlying t = some (.slice e)) (hinfo : (P.info? e).map (fun i => (i.zero, i.size, i.bytes)) = some (some z, size, bytes))
    (hzs : z.cells.size = size)
    (ao : Option Addr) (n cap : Nat) (xs : List Value) (hs : a.eval s = .slice ao n cap) (hrow : Row c k w e size ao n cap xs)
    (y : Value) (m : Nat) (news : List Value) (hx : a.eval x = y) (hsrc : Src w size y m news) (h1 : ∀ u ∈ news, u.oneCell' = true)
    (h63 : n + m ≤ maxLen) (hbytes : (n + m) * bytes ≤ 140737488355328)
    (h : ∀ ao' cap' w', Row (paint c w.heap.size k) k w' e size ao' (n + m) cap' (xs ++ news) → Stp (· = k) c (paint c w.heap.size k) w w' → Others w w' ao → wpList P ops Q rest (a.put o.dst (.slice ao' (n + m) cap')) w') :
    wpList P ops Q (o :: rest) a w := by
  obtain ⟨i, hi, hz, hsize, hby⟩ := info_parts hinfo
  subst hsize; subst hby
  refine wpList_plain hgd fun _ hK => ?_
  obtain ⟨ao', cap', w', hr, h2, h3, h4⟩ := run_append_row (P := P) w c k t o.type e i z ht hi hz hzs ao n cap xs hrow y m news hsrc h1 h63 hbytes
  unfold Oper.wp execOp
  simp only [ho, resolve, invoke, builtin, Sem.run_bind, Sem.run_pure, Result.andThen_ok, List.map_toArray, List.map_cons, List.map_nil, hs, hx, hr]
  exact hK _ _ (h ao' cap' w' h2 h3 h4)
end
end Go.Proofs.YtiphdedfbafhkaaGreatDoor

namespace Go.Proofs.YtiphdedfbafhkaaGreatDoor
open Go.ChangeShapes Go.WideShapes Go.ChangeAt Go.RowKit

/-- The arguments read behind a call that has turned nothing old as they read ahead of it. -/
theorem args_stay {H : Type} {enc : TypeId × Value → H} {P : Program} (hl : laidOutB P = true) {W W' : World} (hb : Below W.heap.size W W') :
    ∀ (ts : List TypeId) (vs : List Value) (ds : List (DataW H)) (ps : List MemPlace), (∀ t ∈ ts, P.readableRec t = true ∧ t < P.types.size) →
      DataW.TrodAll enc P W 0 (fun _ => true) true ts vs ds ps → (∀ x ∈ ps, x.block < W.heap.size) → DataW.TrodAll enc P W' 0 (fun b => decide (b < W.heap.size)) true ts vs ds ps
  | [], vs, ds, ps, _, h, _ => by
    obtain ⟨rfl, rfl, rfl⟩ := trodAll_nil h
    exact trodAll_mk0
  | t :: ts, vs, ds, ps, hr, h, hlt => by
    obtain ⟨v, vs', d, ds', p, q, rfl, rfl, rfl, h1, h2⟩ := trodAll_cons h
    have ht := hr t (by simp)
    exact trodAll_cons_mk (Below.trod hl ht.1 ht.2 h1 hb (fun x hx => hlt x (by simp [hx]))) (args_stay hl hb ts vs' ds' q (fun u hu => hr u (by simp [hu])) h2 (fun x hx => hlt x (by simp [hx])))

/-- What a law owes behind its walk: it returned true, and nothing old has turned. -/
theorem post_law {H : Type} {enc : TypeId × Value → H} {P : Program} {f : Func} {s : ChangeSpec} {W W' : World} {args : Array Value} {ds : List (DataW H)} {before : List MemPlace} {tb : TypeId}
    (hl : laidOutB P = true) (hr : (f.params.toList.all fun t => P.readableRec t && decide (t < P.types.size)) = true) (hres : f.resultTypes = #[tb]) (hbool : P.underlying tb = some .bool)
    (hvars : s.vars = []) (hfn : (s.fn H (ds ++ [])).results = [.lit (.bool true)] ∧ (s.fn H (ds ++ [])).args = ds ∧ (s.fn H (ds ++ [])).vars = [])
    (hW : DataW.Whole enc P f.params.toList s.vars false W args.toList ds [] before) (hb : Below W.heap.size W W') : s.post enc P f false true false false W args (.bool true) W' := by
  have hW0 := hW
  obtain ⟨p, q, hA, hV, rfl, _, _⟩ := hW
  rw [hvars] at hV
  obtain ⟨_, rfl⟩ := trodVars_none hV
  refine ⟨ds, [], p ++ [], [], p, [], hW0, ?_, ?_, ?_, hb.frame _, fun h => by cases h⟩
  · rw [hfn.1, hres]
    exact trodAll_mk1 (shut_bool hbool _)
  · rw [hfn.2.1]
    exact args_stay hl hb _ _ _ _ (fun t ht => by have := List.all_eq_true.1 hr t ht; simpa using this) hA (fun x hx => hW0.lt x (by simpa using hx))
  · rw [hfn.2.2, hvars]; rfl

theorem Tryz.own : ownKnob Tryz.prog.godebug = none := by kernel_rfl
theorem Tryz.laidOut : laidOutB Tryz.prog = true := by kernel_rfl
end Go.Proofs.YtiphdedfbafhkaaGreatDoor

namespace Go.Proofs.YtiphdedfbafhkaaGreatDoor
open Go.RowKit

theorem flat_len {α : Type} (enc : α → List Value) (m : Nat) (hm : ∀ x, (enc x).length = m) (l : List α) : (l.flatMap enc).length = l.length * m := by
  induction l with
  | nil => simp
  | cons x l ih => simp only [List.flatMap_cons, List.length_append, hm, ih, List.length_cons, Nat.add_mul]; omega

theorem flat_get {α : Type} (enc : α → List Value) (m : Nat) (hm : ∀ x, (enc x).length = m) (f : Nat) (hf : f < m) : ∀ (l : List α) (j : Nat) (x : α), l[j]? = some x → (l.flatMap enc)[j * m + f]? = (enc x)[f]?
  | [], j, x, h => by simp at h
  | y :: l, 0, x, h => by
    simp at h; subst h
    rw [List.flatMap_cons, List.getElem?_append_left (by rw [hm]; omega)]
    simp
  | y :: l, j + 1, x, h => by
    simp at h
    rw [List.flatMap_cons, List.getElem?_append_right (by rw [hm, Nat.add_mul]; omega), hm, show (j + 1) * m + f - m = j * m + f by rw [Nat.add_mul]; omega]
    exact flat_get enc m hm f hf l j x h

theorem flat_set {α : Type} (enc : α → List Value) (m : Nat) (hm : ∀ x, (enc x).length = m) (f : Nat) (hf : f < m) (v : Value) : ∀ (l : List α) (j : Nat) (x y : α), l[j]? = some x → enc y = (enc x).set f v → (l.flatMap enc).set (j * m + f) v = (l.set j y).flatMap enc
  | [], j, x, y, h, _ => by simp at h
  | z :: l, 0, x, y, h, he => by
    simp at h; subst h
    simp only [List.flatMap_cons, List.set_cons_zero, Nat.zero_mul, Nat.zero_add]
    rw [List.set_append_left _ _ (by rw [hm]; exact hf), he]
  | z :: l, j + 1, x, y, h, he => by
    simp at h
    simp only [List.flatMap_cons, List.set_cons_succ]
    rw [List.set_append_right _ _ (by rw [hm, Nat.add_mul]; omega), hm, show (j + 1) * m + f - m = j * m + f by rw [Nat.add_mul]; omega, flat_set enc m hm f hf v l j x y h he]

/-- A cell of an element of a row of structs. -/
theorem Row.field {α : Type} {enc : α → List Value} {m : Nat} (hm : ∀ x, (enc x).length = m) {c : Nat → Nat} {k : Nat} {w : World} {e : TypeId} {ao : Option Addr} {n cap : Nat} {l : List α} (h : Row c k w e m ao n cap (l.flatMap enc)) {j : Nat} {x : α} (hx : l[j]? = some x) {f : Nat} {v : Value} (hv : (enc x)[f]? = some v) :
    ∃ g off, ao = some ⟨g, off, none⟩ ∧ w.cell? ⟨g, off + (j * m + f), none⟩ = some v ∧ w.frozen? ⟨g, off + (j * m + f), none⟩ = false ∧ c g = k := by
  have hf : f < m := by have := (List.getElem?_eq_some_iff.1 hv).1; rw [hm] at this; exact this
  obtain ⟨a, rfl, hs, hc, hz, ha, hk⟩ := h.cell ((flat_get enc m hm f hf l j x hx).trans hv)
  obtain ⟨g, off, sp⟩ := a
  simp only at hs; subst hs
  rw [ha] at hc hz
  exact ⟨g, off, rfl, hc, hz, hk⟩

theorem Row.setField {α : Type} {enc : α → List Value} {m : Nat} (hm : ∀ x, (enc x).length = m) {c : Nat → Nat} {k : Nat} {w : World} {e : TypeId} {g off n cap : Nat} {l : List α} (h : Row c k w e m (some ⟨g, off, none⟩) n cap (l.flatMap enc)) {j : Nat} {x y : α} (hx : l[j]? = some x) {f : Nat} {v : Value} (hf : f < m) (hy : enc y = (enc x).set f v) :
    Row c k (w.setCell ⟨g, off + (j * m + f), none⟩ v) e m (some ⟨g, off, none⟩) n cap ((l.set j y).flatMap enc) := by
  have hj : j < l.length := (List.getElem?_eq_some_iff.1 hx).1
  have h' := h.set (j * m + f) v (by
    rw [flat_len enc m hm]
    have : (j + 1) * m ≤ l.length * m := Nat.mul_le_mul_right _ hj
    rw [Nat.add_mul] at this
    omega)
  rw [flat_set enc m hm f hf v l j x y hx hy] at h'
  exact h'

theorem Stp.allocG {J : Nat → Prop} {c c' : Nat → Nat} {a w : World} {o : Obj} {n j : Nat} (h : Stp J c c' a w) (hn : n = w.heap.size) : Stp J c (paint c' n j) a (w.alloc o) := by
  subst hn; exact h.alloc o j
theorem Row.allocG {c : Nat → Nat} {k : Nat} {w : World} {e : TypeId} {size : Nat} {ao : Option Addr} {m cap : Nat} {xs : List Value} {o : Obj} {n j : Nat} (h : Row c k w e size ao m cap xs) (hn : n = w.heap.size) : Row (paint c n j) k (w.alloc o) e size ao m cap xs := by
  subst hn; exact h.alloc o j
theorem Stp.fin {c' : Nat → Nat} {w w' : World} (h : Stp (2 ≤ ·) (fun _ => 0) c' w w') : Below w.heap.size w w' := h.below (Nat.le_refl _) (fun _ _ => by decide)

theorem Src.oneAt {w : World} {v : Value} {t : TypeId} {b : Nat} (h : b = w.heap.size) : Src (w.alloc (.cells #[v] t)) 1 (.slice (some ⟨b, 0, none⟩) 1 1) 1 [v] := by
  subst h; exact Src.one w v t
theorem Src.newAt {w : World} {size n : Nat} {cs : List Value} {t : TypeId} {b : Nat} (h : b = w.heap.size) (hl : cs.length = n * size) : Src (w.alloc (.cells cs.toArray t)) size (.slice (some ⟨b, 0, none⟩) n n) n cs := by
  subst h; exact Src.new w size n cs t hl
end Go.Proofs.YtiphdedfbafhkaaGreatDoor

namespace Go.Proofs.YtiphdedfbafhkaaGreatDoor
open Go.RowKit

theorem tz_gen (x : Int) (i : Nat) (v : Int) (w : World) (hx : (x == 0) = false) (hidx : IntKind.u64.wrap (bits BinOp.and IntKind.u64 x (IntKind.u64.wrap (-x)) * 285870213051353865) / 288230376151711744 = (i : Int)) (hi : i < 64)
    (ht : w.cell? ⟨1, i, none⟩ = some (.int .u8 v)) (h0 : 0 ≤ v) (h1 : v ≤ 64) :
    Calls Tryz.prog 103 #[.int .u64 x] w fun e w' => e = .returned (.int .i64 v) ∧ w = w' := by
  go_enter Tryz.func103, Tryz.ntmps103
  go_wp2
  go_ret
  exact ⟨rfl, rfl⟩

/-- The table of math/bits.deBruijn64tab. -/
def deb64 : List Int := [0, 1, 56, 2, 57, 49, 28, 3, 61, 58, 42, 50, 38, 29, 17, 4, 62, 47, 59, 36, 45, 43, 51, 22, 53, 39, 33, 30, 24, 18, 12, 5, 63, 55, 48, 27, 60, 41, 37, 16, 46, 35, 44, 21, 52, 32, 23, 11, 54, 26, 40, 15, 34, 20, 31, 10, 25, 14, 19, 9, 13, 8, 7, 6]
def deb32 : List Int := [0, 1, 28, 2, 29, 14, 24, 3, 30, 22, 20, 15, 25, 17, 4, 8, 31, 27, 13, 23, 21, 19, 16, 7, 26, 12, 18, 6, 11, 5, 10, 9]

/-- The place in the table of a power of two. -/
def debAt (k : Nat) : Nat := (2 ^ k * 285870213051353865 % 18446744073709551616) / 288230376151711744

/-- What of the tables a walk wants: the cells of deBruijn64tab. -/
def Tab (w : World) : Prop := ∀ i, i < 64 → w.cell? ⟨1, i, none⟩ = some (.int .u8 (deb64.getD i 0))

theorem deb_facts : ∀ k : Nat, k < 21 → (((2 ^ k : Nat) : Int) == 0) = false ∧ IntKind.u64.wrap (bits BinOp.and IntKind.u64 ((2 ^ k : Nat) : Int) (IntKind.u64.wrap (-((2 ^ k : Nat) : Int))) * 285870213051353865) / 288230376151711744 = (debAt k : Int) ∧ debAt k < 64 ∧ deb64.getD (debAt k) 0 = (k : Int) ∧
    (1 : Int) ≤ ((2 ^ k : Nat) : Int) ∧ ((2 ^ k : Nat) : Int) ≤ 1048576 ∧ (bits BinOp.and IntKind.i64 ((2 ^ k : Nat) : Int) (((2 ^ k : Nat) : Int) - 1) != 0) = false := by decide +kernel

theorem of_gen (c : Nat → Nat) (n : Int) (i : Nat) (v : Int) (w : World) (hx : (n == 0) = false) (hidx : IntKind.u64.wrap (bits BinOp.and IntKind.u64 n (IntKind.u64.wrap (-n)) * 285870213051353865) / 288230376151711744 = (i : Int)) (hi : i < 64)
    (ht : w.cell? ⟨1, i, none⟩ = some (.int .u8 v)) (hlt : 1 < w.heap.size) (h0 : 0 ≤ v) (h1 : v ≤ 64) (n0 : 1 ≤ n) (n1 : n ≤ 1048576) (hand : (bits BinOp.and IntKind.i64 n (n - 1) != 0) = false) :
    Calls Tryz.prog 51 #[.int .i64 n] w fun e w' => e = .returned (.tuple #[.agg #[.int .i64 v], .nilIface]) ∧ ∃ c', Stp (fun _ => False) c c' w w' := by
  have Hidx := Lib.hid hidx
  have ht' : ∀ o, (w.alloc o).cell? ⟨1, i, none⟩ = some (.int .u8 v) := fun o => by rw [World.cell?_alloc_past _ _ _ hlt]; exact ht
  have Ht := Lib.hid ht'
  have t1 : decide (n < 1) = false := by simp; omega
  have t2 : decide ((1048576 : Int) < n) = false := by simp; omega
  clear hidx ht hlt ht'
  go_enter Tryz.func51, Tryz.ntmps51
  go_wp2_with (go_at_call 103; refine (tz_gen _ i v _ hx Hidx.out hi (Ht.out _) h0 h1).mono ?_; rintro e w' ⟨rfl, rfl⟩)
  exact bodyPost_ret (v := .tuple #[.agg #[.int .i64 v], .nilIface]) (by simp [results, Tryz.results51, go_sem]) rfl ⟨rfl, _, (Stp.refl _ c w).alloc _ 2⟩

/-- Of a power of two that is a size. -/
theorem of_pow (c : Nat → Nat) (k : Nat) (hk : k < 21) (w : World) (ht : Tab w) :
    Calls Tryz.prog 51 #[.int .i64 ((2 ^ k : Nat) : Int)] w fun e w' => e = .returned (.tuple #[.agg #[.int .i64 k], .nilIface]) ∧ ∃ c', Stp (fun _ => False) c c' w w' := by
  obtain ⟨h1, h2, h3, h4, h5, h6, h7⟩ := deb_facts k hk
  have := ht (debAt k) h3
  rw [h4] at this
  exact of_gen c _ (debAt k) k w h1 h2 h3 this (World.block_lt_of_cell? w _ (ht 0 (by decide))) (by omega) (by omega) h5 h6 h7

theorem Tab.stp {J : Nat → Prop} {c c' : Nat → Nat} {w w' : World} (h : Tab w) (s : Stp J c c' w w') (hj : ¬ J (c 1)) : Tab w' := fun i hi =>
  (World.cell?_of_block (s.block 1 (World.block_lt_of_cell? w _ (h 0 (by decide))) hj)).trans (h i hi)
end Go.Proofs.YtiphdedfbafhkaaGreatDoor

namespace Go.Proofs.YtiphdedfbafhkaaGreatDoor
open Go.ChangeShapes Go.WideShapes Go.ChangeAt Go.RowKit

def bitsLaid : List (String × DataW Unit) := [("math/bits.deBruijn32tab", Rows.laid_math_bits_deBruijn32tab), ("math/bits.deBruijn64tab", Rows.laid_math_bits_deBruijn64tab)]

theorem g64 : Tryz.prog.globalNamed "math/bits.deBruijn64tab" = some 1 := by kernel_rfl
theorem ty64 : (Tryz.prog.globals[1]?).map (·.type) = some 254 := by kernel_rfl
theorem c64 : Tryz.prog.cellsOf 254 = 64 := by kernel_rfl
theorem c8 : Tryz.prog.cellsOf 5 = 1 := by kernel_rfl
theorem tab64 : (Rows.laid_math_bits_deBruijn64tab : DataW Unit) = Lib.tabData .u8 deb64 := by kernel_rfl

theorem door_met (os : Os) (args : Array Value) : laidMetH Tryz.prog bitsLaid ((World.doorLaid Tryz.prog 400 os).forCall (fun _ _ => 0) ⟨#[], args, []⟩).memory :=
  laidMetH_of_parts3 (fuel := 8) (laidMet_of_run' 8 (by kernel_rfl) (by kernel_rfl)) (by kernel_rfl) (by kernel_rfl)

theorem tab_of_laid {W : World} (h : laidMetH Tryz.prog bitsLaid W) : Tab W := by
  rw [MakeChecks.laidMetH_plain _ _ _ (by kernel_rfl)] at h
  obtain ⟨ps, ⟨g0, t0, cs0, f0, p0, q0, hg0, ht0, hv0, hd0, ⟨g1, t1, cs1, f1, p1, q1, hg1, ht1, hv1, hd1, _, _⟩, _⟩, _, _⟩ := h
  obtain rfl := Option.some.inj (g64.symm.trans hg1)
  obtain rfl := Option.some.inj (ty64.symm.trans ht1)
  intro i hi
  rw [tab64] at hd1
  have hcs := Lib.cells_of_tab Tryz.underlying254 Tryz.underlying5 c8 c64 hd1
  have := World.var?_cell hg1 hv1 i
  rw [this]
  have hl : deb64.length = 64 := by decide
  rw [← Array.getElem?_toList, hcs, List.getElem?_map, List.getElem?_eq_getElem (by omega)]
  simp [List.getD, List.getElem?_eq_getElem (show i < deb64.length by omega)]
end Go.Proofs.YtiphdedfbafhkaaGreatDoor

namespace Go.Proofs.YtiphdedfbafhkaaGreatDoor
open Go.RowKit

theorem two_pow_cast (k : Nat) : ((2 ^ k : Nat) : Int) = 2 ^ k := by simp
theorem two_pow_bd (k : Nat) (hk : k < 21) : (1 : Int) ≤ 2 ^ k ∧ (2 : Int) ^ k ≤ 1048576 := by
  have h1 : 1 ≤ 2 ^ k := Nat.one_le_two_pow
  have h2 : 2 ^ k ≤ 2 ^ 20 := Nat.pow_le_pow_right (by decide) (by omega)
  rw [← two_pow_cast]
  omega
theorem wrap_two_pow (k : Nat) (hk : k < 21) : wrap64 (2 ^ k) = 2 ^ k := by
  have := two_pow_bd k hk
  exact IntWalk.wrap64_in _ ⟨by omega, by omega⟩
theorem wrap_mask (k : Nat) (hk : k < 21) : wrap64 (2 ^ k - 1) = 2 ^ k - 1 := by
  have := two_pow_bd k hk
  exact IntWalk.wrap64_in _ ⟨by omega, by omega⟩

/-- The low bits of any number are its rest by a power of two. -/
theorem and_mask (seq : Int) (k : Nat) (hk : k < 21) : bits BinOp.and IntKind.i64 seq (2 ^ k - 1) = seq % 2 ^ k := by
  have hb := two_pow_bd k hk
  have hm : (2 : Int) ^ k - 1 = ((2 ^ k - 1 : Nat) : Int) := by
    have h1 : 1 ≤ 2 ^ k := Nat.one_le_two_pow
    rw [← two_pow_cast]; omega
  show IntKind.i64.wrap ((BitVec.ofInt 64 seq &&& BitVec.ofInt 64 (2 ^ k - 1)).toNat : Int) = _
  rw [BitVec.toNat_and, hm, BitVec.ofInt_natCast, BitVec.toNat_ofNat, BitVec.toNat_ofInt]
  have h2 : 2 ^ k - 1 < 2 ^ 64 := by
    have : 2 ^ k ≤ 2 ^ 20 := Nat.pow_le_pow_right (by decide) (by omega)
    omega
  rw [Nat.mod_eq_of_lt h2, Nat.and_two_pow_sub_one_eq_mod]
  have h3 : 0 ≤ seq % 2 ^ k := Int.emod_nonneg _ (by omega)
  have h4 : seq % 2 ^ k < 2 ^ k := Int.emod_lt_of_pos _ (by omega)
  have e : (((seq % ((2 ^ 64 : Nat) : Int)).toNat % 2 ^ k : Nat) : Int) = seq % 2 ^ k := by
    rw [Int.natCast_emod, Int.toNat_of_nonneg (Int.emod_nonneg _ (by decide)), two_pow_cast]
    refine Int.emod_emod_of_dvd _ ?_
    have : (2 : Int) ^ k ∣ 2 ^ 64 := ⟨2 ^ (64 - k), by rw [← Int.pow_add, show k + (64 - k) = 64 by omega]⟩
    simpa using this
  rw [e, IntKind.wrap_i64]
  omega

theorem slots_k (k : Nat) (hk : k < 21) (w : World) : Calls Tryz.prog 30 #[.agg #[.int .i64 k]] w (fun e w' => e = .returned (.int .i64 (2 ^ k)) ∧ w.alloc (.cells #[.int .i64 k] 65) = w') := by
  have h := wrap_two_pow k hk
  go_enter Tryz.func30, Tryz.ntmps30
  go_wp2
  go_ret
  exact ⟨by simp [h], rfl⟩
theorem round_k (k : Nat) (hk : k < 21) (seq : Int) (w : World) : Calls Tryz.prog 151 #[.agg #[.int .i64 k], .int .i64 seq] w (fun e w' => e = .returned (.int .i64 (seq / 2 ^ k)) ∧ w.alloc (.cells #[.int .i64 k] 65) = w') := by
  go_enter Tryz.func151, Tryz.ntmps151
  go_wp2
  go_ret
  exact ⟨rfl, rfl⟩
theorem index_k (k : Nat) (hk : k < 21) (seq : Int) (w : World) : Calls Tryz.prog 88 #[.agg #[.int .i64 k], .int .i64 seq] w (fun e w' => e = .returned (.int .i64 (seq % 2 ^ k)) ∧
    ((w.alloc (.cells #[.int .i64 k] 65)).alloc (.cells #[.int .i64 k] 65)).alloc (.cells #[.int .i64 k] 65) = w') := by
  have h1 := wrap_two_pow k hk
  have h2 := wrap_mask k hk
  have h3 := and_mask seq k hk
  go_enter Tryz.func88, Tryz.ntmps88
  go_wp2
  go_ret
  exact ⟨rfl, rfl⟩

end Go.Proofs.YtiphdedfbafhkaaGreatDoor

namespace Go.Proofs.YtiphdedfbafhkaaGreatDoor
open Go.RowKit

theorem Tryz.info2 : (Tryz.prog.info? 2).map (fun i => (i.zero, i.size, i.bytes)) = some (some (.int .i64 0), 1, 8) := by kernel_rfl

theorem wrap_some (op : ByteArray) (seq : Int) (t : TypeId) (v : Value) (w : World) :
    Calls Tryz.prog 50 #[.string op, .int .i64 seq, .iface t v] w fun e w' => e = .returned (.iface 179 (.pointer (some ⟨w.heap.size, 0, none⟩))) ∧ w.alloc (.cells #[.string op, .int .i64 seq, .iface t v] 181 (0, 0)) = w' := by
  go_enter Tryz.func50, Tryz.ntmps50
  go_wp2
  go_ret
  exact ⟨rfl, rfl⟩

/-- An arena. -/
def ArenaAt (c : Nat → Nat) (k : Nat) (w : World) (p : Nat) (l : List Int) (s : Int) : Prop :=
  ∃ ao cap, Blk c k w p [.slice ao l.length cap, .int .i64 s] 127 ∧ Row c k w 2 1 ao l.length cap (l.map (Value.int .i64))

end Go.Proofs.YtiphdedfbafhkaaGreatDoor

namespace Go.Proofs.YtiphdedfbafhkaaGreatDoor
open Go.RowKit

theorem ArenaAt.stp {J : Nat → Prop} {c c' : Nat → Nat} {k : Nat} {w w' : World} {p : Nat} {l : List Int} {s : Int} (h : ArenaAt c k w p l s) (st : Stp J c c' w w') (hk : ¬ J k) : ArenaAt c' k w' p l s := by
  obtain ⟨ao, cap, hb, hr⟩ := h
  exact ⟨ao, cap, hb.stp st hk, hr.stp st hk⟩

/-- The count of steps goes up. -/
theorem ArenaAt.step {c : Nat → Nat} {k : Nat} {w : World} {p : Nat} {l : List Int} {s : Int} (h : ArenaAt c k w p l s) (s' : Int) : ArenaAt c k (w.setCell ⟨p, 1, none⟩ (.int .i64 s')) p l s' := by
  obtain ⟨ao, cap, hb, hr⟩ := h
  exact ⟨ao, cap, hb.set 1 _, hr.other _ (hr.ne_blk hb (by decide)) rfl⟩

theorem new_any (c : Nat → Nat) (k : Nat) (w : World) :
    Calls Tryz.prog 74 #[] w fun e w' => e = .returned (.pointer (some ⟨w.heap.size, 0, none⟩)) ∧ ∃ c', Stp (· = k) c c' w w' ∧ ArenaAt c' k w' w.heap.size [] 0 := by
  go_enter Tryz.func74, Tryz.ntmps74
  go_wp2
  go_ret
  refine ⟨rfl, _, (Stp.refl _ c w).alloc _ k, none, 0, Blk.new c k w _ _, Row.nil _ _ _ _ _⟩

theorem alloc_ok {c : Nat → Nat} {k : Nat} {w : World} {p : Nat} {l : List Int} {s : Int} (h : ArenaAt c k w p l s) (v : Int) (hl : (l.length : Int) < 2097152) :
    Calls Tryz.prog 36 #[.pointer (some ⟨p, 0, none⟩), .int .i64 v] w fun e w' => e = .returned (.tuple #[.int .i64 l.length, .nilIface]) ∧ ∃ c', Stp (· = k) c c' w w' ∧ ArenaAt c' k w' p (l ++ [v]) s := by
  obtain ⟨ao, cap, hb, hr⟩ := h
  have c0 := hb.cell 0
  simp at c0
  have Hb := Lib.hid hb
  have Hr := Lib.hid hr
  have hlt := hb.lt
  have hl' : decide ((2097152 : Int) ≤ l.length) = false := by simp; omega
  have Hl := Lib.hid hl
  clear hb hr hl
  go_enter Tryz.func36, Tryz.ntmps36
  go_wp2_with (at_builtin; refine wpList_append_row _ rfl (.tmp 26) (.tmp 28) 125 rfl (paint c w.heap.size k) k 2 (.int .i64 0) 1 8 Tryz.underlying125 Tryz.info2 rfl ao l.length cap (l.map (Value.int .i64)) rfl (Hr.out.alloc _ _) _ 1 [.int .i64 v] rfl (Src.one _ _ _) ?c1 ?c2 ?c3 ?_)
  case c1 => simp [Value.oneCell']
  case c2 => have := Hl.out; unfold maxLen; omega
  case c3 => have := Hl.out; omega
  intro ao' cap' w1 hr1 st1 ot1
  have hb1 := (Hb.out.alloc (.cells #[.int .i64 v] 2) k).kept (st1.col p (by simp; omega)) ot1 (Hr.out.ne_blk Hb.out (by decide))
  have d0 := hb1.cell 0
  have e0 := hb1.free 0
  simp at d0
  have Hb1 := Lib.hid hb1
  have Hr1 := Lib.hid hr1
  have Hst := Lib.hid st1
  have hlb := Hl.out
  clear hb1 hr1 st1 ot1 c0
  go_wp2
  go_ret2
  refine ⟨rfl, _, (((Stp.refl _ c w).alloc _ k).trans Hst.out).setCell _ Hb1.out.1, ao', cap', ?_, ?_⟩
  · simpa using Hb1.out.set 0 (.slice ao' (l.length + 1) cap')
  · simpa using Hr1.out.other _ (Hr1.out.ne_blk Hb1.out (by decide)) rfl

/-- What a read of cell j wants to know. -/
theorem ArenaAt.open_cell {c : Nat → Nat} {k : Nat} {w : World} {p : Nat} {l : List Int} {s : Int} (h : ArenaAt c k w p l s) {j : Nat} (hj : j < l.length) :
    ∃ g off cap, Blk c k w p [.slice (some ⟨g, off, none⟩) l.length cap, .int .i64 s] 127 ∧ Row c k w 2 1 (some ⟨g, off, none⟩) l.length cap (l.map (Value.int .i64)) ∧
      w.cell? ⟨g, off + j, none⟩ = some (.int .i64 (l.getD j 0)) ∧ w.frozen? ⟨g, off + j, none⟩ = false ∧ g ≠ p := by
  obtain ⟨ao, cap, hb, hr⟩ := h
  have hv : (l.map (Value.int .i64))[j]? = some (.int .i64 (l.getD j 0)) := by simp [List.getD, hj]
  obtain ⟨a, rfl, hs, hc, hf, ha, _⟩ := hr.cell hv
  obtain ⟨g, off, sp⟩ := a
  simp only at hs
  subst hs
  rw [ha] at hc hf
  exact ⟨g, off, cap, hb, hr, hc, hf, hr.ne_blk hb (by decide) _ rfl⟩

/-- An error's value: a number, or a fault around one. Faults have a colour of their own (1), which nobody turns. -/
def ErrAt (c : Nat → Nat) (w : World) (v : Value) (n : Int) : Prop :=
  v = .iface 98 (.int .i64 n) ∨ ∃ b op seq, v = .iface 179 (.pointer (some ⟨b, 0, none⟩)) ∧ Blk c 1 w b [.string op, .int .i64 seq, .iface 98 (.int .i64 n)] 181

theorem ErrAt.stp {J : Nat → Prop} {c c' : Nat → Nat} {w w' : World} {v : Value} {n : Int} (h : ErrAt c w v n) (st : Stp J c c' w w') (hk : ¬ J 1) : ErrAt c' w' v n := by
  rcases h with h | ⟨b, op, seq, h, hb⟩
  · exact .inl h
  · exact .inr ⟨b, op, seq, h, hb.stp st hk⟩

theorem ErrAt.new (c : Nat → Nat) (w : World) (op : ByteArray) (seq n : Int) : ErrAt (paint c w.heap.size 1) (w.alloc (.cells #[.string op, .int .i64 seq, .iface 98 (.int .i64 n)] 181)) (.iface 179 (.pointer (some ⟨w.heap.size, 0, none⟩))) n :=
  .inr ⟨_, op, seq, rfl, Blk.new c 1 w _ _⟩

theorem ArenaAt.put {c : Nat → Nat} {k : Nat} {w : World} {p : Nat} {l : List Int} {s : Int} {g off cap : Nat} (hb : Blk c k w p [.slice (some ⟨g, off, none⟩) l.length cap, .int .i64 s] 127) (hr : Row c k w 2 1 (some ⟨g, off, none⟩) l.length cap (l.map (Value.int .i64)))
    (j : Nat) (hj : j < l.length) (v : Int) : ArenaAt c k (w.setCell ⟨g, off + j, none⟩ (.int .i64 v)) p (l.set j v) s := by
  refine ⟨some ⟨g, off, none⟩, cap, by simpa using hb.other (p := ⟨g, off + j, none⟩) (.int .i64 v) (show g ≠ p from hr.ne_blk hb (by decide) ⟨g, off, none⟩ rfl), ?_⟩
  have := hr.set j (.int .i64 v) (by simpa using hj)
  simpa using this

end Go.Proofs.YtiphdedfbafhkaaGreatDoor

namespace Go.Proofs.YtiphdedfbafhkaaGreatDoor
open Go.RowKit Go.Extern.Stop Go.Stop Go.Extern

theorem equalIn_iface_int {P : Program} (w : World) (d : Nat) {ti tn : TypeId} {ms : Array (String × TypeId)} {i : TypeInfo} {k : IntKind} (a b : Int)
    (hi : P.underlying ti = some (.interface ms)) (hn : P.underlying tn = some (.int k)) (hinfo : P.info? tn = some i) (hc : i.comparable = true) :
    (Op.equalIn (d + 2) ti (.iface tn (.int k a)) (.iface tn (.int k b))).run P w = .ok (a == b) w := by
  simp [Op.equalIn, run_underlying hi, run_underlying hn, typeInfo, hinfo, hc]

theorem eql_iface_int {P : Program} (w : World) {ti tn : TypeId} {ms : Array (String × TypeId)} {i : TypeInfo} {k : IntKind} (a b : Int)
    (hi : P.underlying ti = some (.interface ms)) (hn : P.underlying tn = some (.int k)) (hinfo : P.info? tn = some i) (hc : i.comparable = true) :
    (binOp .eql ti (.iface tn (.int k a)) (.iface tn (.int k b))).run P w = .ok (.bool (a == b)) w := by
  simp only [binOp]
  simp [Op.equal, Op.maxDepth, equalIn_iface_int w 9998 a b hi hn hinfo hc]

theorem Tryz.isTypeOf (v : Value) (w : World) : (callFunc 114 #[.iface 98 v]).run Tryz.prog w = .ok (.value (.iface 235 (.agg #[.pointer (some ⟨2, 98, none⟩)]))) w := by kernel_rfl
theorem Tryz.isComparable (w : World) : (callFunc 178 #[.agg #[.pointer (some ⟨2, 98, none⟩)]]).run Tryz.prog w = .ok (.value (.bool true)) w := by kernel_rfl
theorem Tryz.isMethodComparable (v : Value) (w : World) : (Go.method 389 235 v "Comparable").run Tryz.prog w = .ok (178, v) w := by kernel_rfl
theorem Tryz.isComp : (Tryz.prog.info? 98).map (·.comparable) = some true := by kernel_rfl
theorem Tryz.noIsE (v : Value) (xT : TypeId) (w : World) : (Instr.typeAssert (.iface 98 v) xT 237 true).run Tryz.prog w = .ok (.tuple #[.nilIface, .bool false]) w := run_typeAssert_lacksB Tryz.underlying237 (by kernel_rfl) (by kernel_rfl) v xT w
theorem Tryz.noUnwrapE (v : Value) (xT : TypeId) (w : World) : (Instr.typeAssert (.iface 98 v) xT 240 true).run Tryz.prog w = .ok (.tuple #[.nilIface, .bool false]) w := run_typeAssert_lacksB Tryz.underlying240 (by kernel_rfl) (by kernel_rfl) v xT w
theorem Tryz.noUnwrapsE (v : Value) (xT : TypeId) (w : World) : (Instr.typeAssert (.iface 98 v) xT 242 true).run Tryz.prog w = .ok (.tuple #[.nilIface, .bool false]) w := run_typeAssert_lacksB Tryz.underlying242 (by kernel_rfl) (by kernel_rfl) v xT w
theorem Tryz.noIsF (v : Value) (xT : TypeId) (w : World) : (Instr.typeAssert (.iface 179 v) xT 237 true).run Tryz.prog w = .ok (.tuple #[.nilIface, .bool false]) w := run_typeAssert_lacksB Tryz.underlying237 (by kernel_rfl) (by kernel_rfl) v xT w
theorem Tryz.hasUnwrapF (v : Value) (xT : TypeId) (w : World) : (Instr.typeAssert (.iface 179 v) xT 240 true).run Tryz.prog w = .ok (.tuple #[.iface 179 v, .bool true]) w := run_typeAssert_hasB Tryz.underlying240 (by kernel_rfl) v xT w
theorem Tryz.methodUnwrap (v : Value) (w : World) : (Go.method 389 179 v "Unwrap").run Tryz.prog w = .ok (174, v) w := by kernel_rfl

end Go.Proofs.YtiphdedfbafhkaaGreatDoor

namespace Go.Proofs.YtiphdedfbafhkaaGreatDoor
open Go.RowKit Go.Extern.Stop Go.Stop Go.Extern

/-- errors.Is of a number. -/
theorem is_num (n m : Int) (w : World) :
    Calls Tryz.prog 66 #[.iface 98 (.int .i64 n), .iface 98 (.int .i64 m)] w fun e w' => e = .returned (.bool (n == m)) ∧ w = w' := by
  obtain ⟨i, hi, hcmp⟩ := Option.map_eq_some_iff.1 Tryz.isComp
  have tT := Tryz.isTypeOf
  have cT := Tryz.isComparable
  have mR := Tryz.isMethodComparable
  have nE := Tryz.noIsE
  have uE := Tryz.noUnwrapE
  have vE := Tryz.noUnwrapsE
  have heq := eql_iface_int (P := Tryz.prog) w n m Tryz.underlying24 Tryz.underlying98 hi hcmp
  by_cases hnm : n = m
  · have e1 : (n == m) = true := by simpa using hnm
    rw [e1] at heq ⊢
    clear e1 hnm
    go_enter Tryz.func66, Tryz.ntmps66
    go_wp2
    refine wp_loop_rounds 1 ?_
    rw [rounds_succ]
    go_wp2
    go_ret
    exact ⟨rfl, rfl⟩
  · have e1 : (n == m) = false := by simpa using hnm
    rw [e1] at heq ⊢
    clear e1 hnm
    go_enter Tryz.func66, Tryz.ntmps66
    go_wp2
    refine wp_loop_rounds 1 ?_
    rw [rounds_succ]
    go_wp2
    go_ret
    exact ⟨rfl, rfl⟩

/-- errors.Is of a fault around a number. -/
theorem is_fault (b : Nat) (n m : Int) (w : World) (h : w.cell? ⟨b, 2, none⟩ = some (.iface 98 (.int .i64 n))) :
    Calls Tryz.prog 66 #[.iface 179 (.pointer (some ⟨b, 0, none⟩)), .iface 98 (.int .i64 m)] w fun e w' => e = .returned (.bool (n == m)) ∧ w = w' := by
  obtain ⟨i, hi, hcmp⟩ := Option.map_eq_some_iff.1 Tryz.isComp
  have tT := Tryz.isTypeOf
  have cT := Tryz.isComparable
  have mR := Tryz.isMethodComparable
  have nE := Tryz.noIsE
  have uE := Tryz.noUnwrapE
  have vE := Tryz.noUnwrapsE
  have nF := Tryz.noIsF
  have uF := Tryz.hasUnwrapF
  have mU := Tryz.methodUnwrap
  have heq := eql_iface_int (P := Tryz.prog) w n m Tryz.underlying24 Tryz.underlying98 hi hcmp
  have hty := run_eql_iface_types (P := Tryz.prog) 179 98 (.pointer (some ⟨b, 0, none⟩)) (.int .i64 m) Tryz.underlying24 (by decide) w
  by_cases hnm : n = m
  · have e1 : (n == m) = true := by simpa using hnm
    rw [e1] at heq ⊢
    clear e1 hnm
    go_enter Tryz.func66, Tryz.ntmps66
    go_wp2
    refine wp_loop_rounds 2 ?_
    rw [rounds_succ]
    go_wp2
    rw [rounds_succ]
    go_wp2
    go_ret
    exact ⟨rfl, rfl⟩
  · have e1 : (n == m) = false := by simpa using hnm
    rw [e1] at heq ⊢
    clear e1 hnm
    go_enter Tryz.func66, Tryz.ntmps66
    go_wp2
    refine wp_loop_rounds 2 ?_
    rw [rounds_succ]
    go_wp2
    rw [rounds_succ]
    go_wp2
    go_ret
    exact ⟨rfl, rfl⟩
end Go.Proofs.YtiphdedfbafhkaaGreatDoor

namespace Go.Proofs.YtiphdedfbafhkaaGreatDoor
open Go.RowKit

/-- An error or none, by its number: 0 is none. -/
def Err (c : Nat → Nat) (w : World) (v : Value) (n : Int) : Prop := (n = 0 ∧ v = .nilIface) ∨ (n ≠ 0 ∧ ErrAt c w v n)

theorem Err.nil (c : Nat → Nat) (w : World) : Err c w .nilIface 0 := .inl ⟨rfl, rfl⟩
theorem ErrAt.err {c : Nat → Nat} {w : World} {v : Value} {n : Int} (h : ErrAt c w v n) (hn : n ≠ 0) : Err c w v n := .inr ⟨hn, h⟩
theorem Err.stp {J : Nat → Prop} {c c' : Nat → Nat} {w w' : World} {v : Value} {n : Int} (h : Err c w v n) (st : Stp J c c' w w') (hk : ¬ J 1) : Err c' w' v n := by
  rcases h with h | ⟨h, he⟩
  · exact .inl h
  · exact .inr ⟨h, he.stp st hk⟩

theorem ErrAt.newAt {c : Nat → Nat} {w : World} {op : ByteArray} {seq n : Int} {b j : Nat} (hb : b = w.heap.size) (hj : j = w.heap.size) :
    ErrAt (paint c j 1) (w.alloc (.cells #[.string op, .int .i64 seq, .iface 98 (.int .i64 n)] 181)) (.iface 179 (.pointer (some ⟨b, 0, none⟩))) n := by
  subst hb; subst hj; exact ErrAt.new c w op seq n

theorem is_nil (n : Int) (w : World) :
    Calls Tryz.prog 14 #[.nilIface, .int .i64 n] w fun e w' => e = .returned (.bool (0 == n)) ∧ w = w' := by
  by_cases hn : n = 0
  · subst hn
    go_enter Tryz.func14, Tryz.ntmps14
    go_wp2
    go_ret
    exact ⟨rfl, rfl⟩
  · have h0 : (n == 0) = false := by simpa using hn
    have h1 : ((0 : Int) == n) = false := by simp; omega
    rw [h1]
    clear h1 hn
    go_enter Tryz.func14, Tryz.ntmps14
    go_wp2
    go_ret
    exact ⟨rfl, rfl⟩

theorem is_errat {c : Nat → Nat} {w : World} {v : Value} {m : Int} (h : ErrAt c w v m) (hm : m ≠ 0) (n : Int) :
    Calls Tryz.prog 14 #[v, .int .i64 n] w fun e w' => e = .returned (.bool (m == n)) ∧ w = w' := by
  by_cases hn : n = 0
  · subst hn
    have h1 : (m == 0) = false := by simpa using hm
    rw [h1]
    clear h1 hm
    rcases h with rfl | ⟨b, op, seq, rfl, hb⟩
    · go_enter Tryz.func14, Tryz.ntmps14
      go_wp2
      go_ret
      exact ⟨rfl, rfl⟩
    · clear hb
      go_enter Tryz.func14, Tryz.ntmps14
      go_wp2
      go_ret
      exact ⟨rfl, rfl⟩
  · have h0 : (n == 0) = false := by simpa using hn
    clear hn hm
    rcases h with rfl | ⟨b, op, seq, rfl, hb⟩
    · go_enter Tryz.func14, Tryz.ntmps14
      go_wp2_with (go_at_call 66; refine (is_num _ _ _).mono ?_; rintro e w' ⟨rfl, rfl⟩)
      go_ret
      exact ⟨rfl, rfl⟩
    · have h2 := hb.cell 2
      simp at h2
      have H2 := Lib.hid h2
      clear h2 hb
      go_enter Tryz.func14, Tryz.ntmps14
      go_wp2_with (go_at_call 66; refine (is_fault _ _ _ _ H2.out).mono ?_; rintro e w' ⟨rfl, rfl⟩)
      go_ret
      exact ⟨rfl, rfl⟩

/-- norialaw01.Is. -/
theorem lawis {c : Nat → Nat} {w : World} {v : Value} {m : Int} (h : Err c w v m) (n : Int) :
    Calls Tryz.prog 14 #[v, .int .i64 n] w fun e w' => e = .returned (.bool (m == n)) ∧ w = w' := by
  rcases h with ⟨rfl, rfl⟩ | ⟨hm, h⟩
  · exact is_nil n w
  · exact is_errat h hm n
end Go.Proofs.YtiphdedfbafhkaaGreatDoor

namespace Go.Proofs.YtiphdedfbafhkaaGreatDoor
open Go.RowKit

/-- What is wrong with a step of n on from an index, 0: nothing. -/
def nextErr (seq n : Int) : Int := if n < 1 ∨ 1048576 < n then 1 else if seq < -1 then 5 else if 4611686018427387904 - n < seq then 15 else 0

end Go.Proofs.YtiphdedfbafhkaaGreatDoor

namespace Go.Proofs.YtiphdedfbafhkaaGreatDoor
open Go.RowKit

theorem pnext_ok (seq n : Int) (h : nextErr seq n = 0) (w : World) :
    Calls Tryz.prog 105 #[.int .i64 seq, .int .i64 n] w fun e w' => e = .returned (.tuple #[.int .i64 (seq + n), .nilIface]) ∧ w = w' := by
  have h1 : ¬ n < 1 := fun h1 => by simp [nextErr, h1] at h
  have h2 : ¬ 1048576 < n := fun h2 => by simp [nextErr, h2] at h
  have h3 : ¬ seq < -1 := fun h3 => by simp [nextErr, h1, h2, h3] at h
  have h4 : ¬ 4611686018427387904 - n < seq := fun h4 => by simp [nextErr, h1, h2, h3, h4] at h
  have t1 : decide (n < 1) = false := by simpa using h1
  have t2 : decide ((1048576 : Int) < n) = false := by simpa using h2
  have t3 : decide (seq < -1) = false := by simpa using h3
  have t4 : decide (4611686018427387904 - n < seq) = false := by simpa using h4
  clear h
  go_enter Tryz.func105, Tryz.ntmps105
  go_wp2
  go_ret2
  exact ⟨rfl, rfl⟩

theorem pnext_bad (seq n : Int) (h : nextErr seq n ≠ 0) (c : Nat → Nat) (w : World) :
    Calls Tryz.prog 105 #[.int .i64 seq, .int .i64 n] w fun e w' => ∃ ev, e = .returned (.tuple #[.int .i64 0, ev]) ∧ ∃ c', Stp (fun _ => False) c c' w w' ∧ ErrAt c' w' ev (nextErr seq n) := by
  by_cases h1 : n < 1
  · have t1 : decide (n < 1) = true := by simpa using h1
    have e : nextErr seq n = 1 := by simp [nextErr, h1]
    rw [e]
    clear h1 e h
    go_enter Tryz.func105, Tryz.ntmps105
    go_wp2_with (go_at_call 50; refine (wrap_some _ _ _ _ _).mono ?_; rintro e w' ⟨rfl, rfl⟩)
    go_ret2
    exact ⟨_, rfl, _, (Stp.refl _ c w).alloc _ 1, ErrAt.new _ _ _ _ _⟩
  · have t1 : decide (n < 1) = false := by simpa using h1
    by_cases h2 : 1048576 < n
    · have t2 : decide ((1048576 : Int) < n) = true := by simpa using h2
      have e : nextErr seq n = 1 := by simp [nextErr, h2]
      rw [e]
      clear e h
      go_enter Tryz.func105, Tryz.ntmps105
      go_wp2_with (go_at_call 50; refine (wrap_some _ _ _ _ _).mono ?_; rintro e w' ⟨rfl, rfl⟩)
      go_ret2
      exact ⟨_, rfl, _, (Stp.refl _ c w).alloc _ 1, ErrAt.new _ _ _ _ _⟩
    · have t2 : decide ((1048576 : Int) < n) = false := by simpa using h2
      by_cases h3 : seq < -1
      · have t3 : decide (seq < -1) = true := by simpa using h3
        have e : nextErr seq n = 5 := by simp [nextErr, h1, h2, h3]
        rw [e]
        clear e h
        go_enter Tryz.func105, Tryz.ntmps105
        go_wp2_with (go_at_call 50; refine (wrap_some _ _ _ _ _).mono ?_; rintro e w' ⟨rfl, rfl⟩)
        go_ret2
        exact ⟨_, rfl, _, (Stp.refl _ c w).alloc _ 1, ErrAt.new _ _ _ _ _⟩
      · have t3 : decide (seq < -1) = false := by simpa using h3
        by_cases h4 : 4611686018427387904 - n < seq
        · have t4 : decide (4611686018427387904 - n < seq) = true := by simpa using h4
          have e : nextErr seq n = 15 := by simp [nextErr, h1, h2, h3, h4]
          rw [e]
          clear e h
          go_enter Tryz.func105, Tryz.ntmps105
          go_wp2_with (go_at_call 50; refine (wrap_some _ _ _ _ _).mono ?_; rintro e w' ⟨rfl, rfl⟩)
          go_ret2
          exact ⟨_, rfl, _, (Stp.refl _ c w).alloc _ 1, ErrAt.new _ _ _ _ _⟩
        · exact absurd (by simp [nextErr, h1, h2, h3, h4]) h

/-- How many may be claimed yet. -/
def roomOf (m cl le : Int) : Int := if cl < -1 ∨ 4611686018427387904 < cl ∨ le < -1 ∨ cl < le then 0 else if m ≤ cl - le then 0 else m - (cl - le)

end Go.Proofs.YtiphdedfbafhkaaGreatDoor

namespace Go.Proofs.YtiphdedfbafhkaaGreatDoor
open Go.RowKit

/-- No power of two among the sizes. -/
def NoPow (n : Int) : Prop := ∀ k : Nat, k < 21 → n ≠ ((2 ^ k : Nat) : Int)

theorem and_pow (n : Int) (h1 : 1 ≤ n) (h2 : n ≤ 1048576) (h : NoPow n) : (bits BinOp.and IntKind.i64 n (n - 1) != 0) = true := by
  obtain ⟨m, rfl⟩ := Int.eq_ofNat_of_zero_le (show 0 ≤ n by omega)
  have hm : ((m : Int) - 1) = ((m - 1 : Nat) : Int) := by omega
  have e : bits BinOp.and IntKind.i64 (m : Int) ((m : Int) - 1) = ((m &&& (m - 1) : Nat) : Int) := by
    show IntKind.i64.wrap ((BitVec.ofInt 64 (m : Int) &&& BitVec.ofInt 64 ((m : Int) - 1)).toNat : Int) = _
    rw [BitVec.toNat_and, hm, BitVec.ofInt_natCast, BitVec.ofInt_natCast, BitVec.toNat_ofNat, BitVec.toNat_ofNat, Nat.mod_eq_of_lt (by omega), Nat.mod_eq_of_lt (by omega), IntKind.wrap_i64]
    have := Nat.and_le_left (n := m) (m := m - 1)
    omega
  rw [e]
  by_cases hz : m &&& (m - 1) = 0
  · obtain ⟨k, hk⟩ := (Nat.and_sub_one_eq_zero_iff_isPowerOfTwo (by omega)).1 hz
    have hk21 : k < 21 := by
      rcases Nat.lt_or_ge k 21 with hlt | hge
      · exact hlt
      · have : 2 ^ 21 ≤ 2 ^ k := Nat.pow_le_pow_right (by decide) hge
        omega
    exact absurd (by rw [hk]) (h k hk21)
  · simp; omega

theorem of_bad (c : Nat → Nat) (n : Int) (h : NoPow n) (w : World) :
    Calls Tryz.prog 51 #[.int .i64 n] w fun e w' => ∃ ev, e = .returned (.tuple #[.agg #[.int .i64 0], ev]) ∧ ∃ c', Stp (fun _ => False) c c' w w' ∧ ErrAt c' w' ev 7 := by
  by_cases h0 : n < 1
  · have t1 : decide (n < 1) = true := by simpa using h0
    clear h h0
    go_enter Tryz.func51, Tryz.ntmps51
    go_wp2_with (go_at_call 50; refine (wrap_some _ _ _ _ _).mono ?_; rintro e w' ⟨rfl, rfl⟩)
    refine bodyPost_ret (v := .tuple #[.agg #[.int .i64 0], .iface 179 (.pointer (some ⟨w.heap.size + 1, 0, none⟩))]) (by simp [results, Tryz.results51, go_sem]) rfl ⟨_, rfl, paint (paint c w.heap.size 2) (w.heap.size + 1) 1, Stp.allocG (Stp.allocG (Stp.refl _ c w) rfl) (by simp), ErrAt.newAt (by simp) (by simp)⟩
  · have t1 : decide (n < 1) = false := by simpa using h0
    by_cases h1 : 1048576 < n
    · have t2 : decide ((1048576 : Int) < n) = true := by simpa using h1
      clear h h0
      go_enter Tryz.func51, Tryz.ntmps51
      go_wp2_with (go_at_call 50; refine (wrap_some _ _ _ _ _).mono ?_; rintro e w' ⟨rfl, rfl⟩)
      refine bodyPost_ret (v := .tuple #[.agg #[.int .i64 0], .iface 179 (.pointer (some ⟨w.heap.size + 1, 0, none⟩))]) (by simp [results, Tryz.results51, go_sem]) rfl ⟨_, rfl, paint (paint c w.heap.size 2) (w.heap.size + 1) 1, Stp.allocG (Stp.allocG (Stp.refl _ c w) rfl) (by simp), ErrAt.newAt (by simp) (by simp)⟩
    · have t2 : decide ((1048576 : Int) < n) = false := by simpa using h1
      have t3 := and_pow n (by omega) (by omega) h
      have b0 : 1 ≤ n := by omega
      have b1 : n ≤ 1048576 := by omega
      clear h h0 h1
      go_enter Tryz.func51, Tryz.ntmps51
      go_wp2_with (go_at_call 50; refine (wrap_some _ _ _ _ _).mono ?_; rintro e w' ⟨rfl, rfl⟩)
      refine bodyPost_ret (v := .tuple #[.agg #[.int .i64 0], .iface 179 (.pointer (some ⟨w.heap.size + 1, 0, none⟩))]) (by simp [results, Tryz.results51, go_sem]) rfl ⟨_, rfl, paint (paint c w.heap.size 2) (w.heap.size + 1) 1, Stp.allocG (Stp.allocG (Stp.refl _ c w) rfl) (by simp), ErrAt.newAt (by simp) (by simp)⟩

theorem pow_le20 (j : Nat) (h : j < 21) : (1 : Int) ≤ ((2 ^ j : Nat) : Int) ∧ ((2 ^ j : Nat) : Int) ≤ 1048576 := by
  have h1 : 1 ≤ 2 ^ j := Nat.one_le_two_pow
  have h2 : 2 ^ j ≤ 2 ^ 20 := Nat.pow_le_pow_right (by decide) (by omega)
  omega
def ShRel (b : Nat) (p i : Value) : Prop := ∃ (j : Nat) (q : Int), p = .int .i64 q ∧ i = .int .i64 j ∧ j ≤ b ∧ q = ((2 ^ j : Nat) : Int)

def Bits (x : Int) (v : Nat) : Prop := v < 21 ∧ x < ((2 ^ v : Nat) : Int) ∧ (0 < v → ((2 ^ (v - 1) : Nat) : Int) ≤ x)

/-- The least power of two that is enough. -/
def UpTo (n : Int) (v : Nat) : Prop := v < 21 ∧ n ≤ ((2 ^ v : Nat) : Int) ∧ ∀ j : Nat, j < v → ((2 ^ j : Nat) : Int) < n

/-- The table of bits.Len64, as a walk leaves it: each byte is its index's number of bits. -/
def lenTab (T : ByteArray) : Bool := (List.range T.size).all fun j => decide ((T.data.getD j 0).toNat < 9 ∧ j < 2 ^ (T.data.getD j 0).toNat) && (decide ((T.data.getD j 0).toNat = 0) || decide (2 ^ ((T.data.getD j 0).toNat - 1) ≤ j))

end Go.Proofs.YtiphdedfbafhkaaGreatDoor

namespace Go.Proofs.YtiphdedfbafhkaaGreatDoor
open Go.RowKit Go.ChangeShapes Go.WideShapes Go.Deep

/-- The slice value `.slice ao n cap` of elements of `m` cells reads as `xs`; its array has colour `k`. -/
def In (c : Nat → Nat) (k : Nat) (w : World) (m : Nat) (ao : Option Addr) (n cap : Nat) (xs : List Value) : Prop :=
  xs.length = n * m ∧ n ≤ cap ∧ cap ≤ maxLen ∧ (ao = none → cap = 0) ∧ (0 < n → ∃ a, ao = some a ∧ c a.block = k ∧ a.block < w.heap.size ∧ ∀ j u, xs[j]? = some u → w.cell? (a.add j) = some u)

/-- An append onto an array that was made just ahead of it. -/
theorem Stp.fresh {c c1 : Nat → Nat} {k : Nat} {w w1 : World} {o : Obj} (st : Stp (· = k) (paint c w.heap.size k) c1 (w.alloc o) w1) (ot : Others (w.alloc o) w1 (some ⟨w.heap.size, 0, none⟩)) : Stp (fun _ => False) c c1 w w1 :=
  ⟨st.os, st.tape, st.output, by have := st.size; simp at this; omega, fun i hi => (st.col i (by simp; omega)).trans (paint_lt hi), fun i hi _ => by
    rw [ot i (by simp; omega) (fun a ha => by cases ha; simp; omega)]
    exact Below.heap_alloc w o i hi⟩

/-- A store into a block that was not there at the step's beginning. -/
theorem Stp.setNew {J : Nat → Prop} {c c' : Nat → Nat} {a w : World} (h : Stp J c c' a w) {p : Addr} (v : Value) (hp : a.heap.size ≤ p.block) : Stp J c c' a (w.setCell p v) :=
  ⟨h.os, h.tape, h.output, by have := h.size; simpa [World.setCell] using this, h.col, fun i hi hn => (Below.heap_setCell w p v i (by omega)).trans (h.block i hi hn)⟩

/-- What turns nothing old is a step; the new blocks get colour j. -/
theorem Stp.ofBelow {c : Nat → Nat} {w w' : World} (h : Below w.heap.size w w') (j : Nat) : Stp (fun _ => False) c (paint c w.heap.size j) w w' :=
  ⟨h.os, h.tape, h.output, h.size, fun _ hi => paint_lt hi, fun i hi _ => h.block i hi⟩

/-- A step under a new name of its colours. -/
theorem Stp.name {J : Nat → Prop} {c c' : Nat → Nat} {w w' : World} (h : Stp J c c' w w') : ∃ c2, Hid (c2 = c') ∧ Hid (Stp J c c2 w w') := ⟨c', Lib.hid rfl, Lib.hid h⟩

theorem add_block (a : Addr) (n : Nat) : (a.add n).block = a.block := by unfold Addr.add; split <;> rfl
theorem add_add' (a : Addr) (i j : Nat) : (a.add i).add j = a.add (i + j) := by
  unfold Addr.add
  by_cases hi : i = 0 <;> by_cases hj : j = 0 <;> simp [hi, hj, Nat.add_assoc]

section
variable {c c' : Nat → Nat} {k : Nat} {w w' : World} {m : Nat} {ao : Option Addr} {n cap : Nat} {xs : List Value}

theorem In.stp {J : Nat → Prop} (h : In c k w m ao n cap xs) (s : Stp J c c' w w') (hk : ¬ J k) : In c' k w' m ao n cap xs := by
  obtain ⟨h1, h2, h3, h0, h4⟩ := h
  refine ⟨h1, h2, h3, h0, fun hn => ?_⟩
  obtain ⟨a, rfl, hc, hl, hx⟩ := h4 hn
  exact ⟨a, rfl, (s.col _ hl).trans hc, Nat.lt_of_lt_of_le hl s.size, fun j u hu => (World.cell?_of_block (by rw [add_block]; exact s.block _ hl (by rw [hc]; exact hk))).trans (hx j u hu)⟩

theorem In.nil (c : Nat → Nat) (k : Nat) (w : World) (m : Nat) (ao : Option Addr) : In c k w m ao 0 0 [] := ⟨by simp, Nat.le_refl _, Nat.zero_le _, fun _ => rfl, fun h => absurd h (by omega)⟩

theorem Row.toIn {e : TypeId} (h : Row c k w e m ao n cap xs) : In c k w m ao n cap xs := by
  refine ⟨h.1, h.2.1, h.2.2.1, fun hn => by subst hn; exact h.2.2.2, fun hn => ?_⟩
  obtain ⟨h1, h2, h3, h4⟩ := h
  cases ao with
  | none => simp only at h4; omega
  | some a =>
    have h : Row c k w e m (some a) n cap xs := ⟨h1, h2, h3, h4⟩
    obtain ⟨hs, hc, cur, hb, hl, hx⟩ := h4
    refine ⟨a, rfl, hc, lt_of_block hb, fun j u hu => ?_⟩
    obtain ⟨a', ha, _, hcc, _⟩ := h.cell hu
    cases ha
    exact hcc

/-- Element j, a cell each. -/
theorem In.at1 (h : In c k w 1 ao n cap xs) {j : Nat} (hj : j < n) : ∃ a, ao = some a ∧ ∃ v, xs[j]? = some v ∧ w.cell? (a.add j) = some v := by
  obtain ⟨h1, h2, h3, _, h4⟩ := h
  obtain ⟨a, rfl, hc, hl, hx⟩ := h4 (by omega)
  have hlt : j < xs.length := by omega
  exact ⟨a, rfl, xs[j], List.getElem?_eq_getElem hlt, hx j _ (List.getElem?_eq_getElem hlt)⟩

theorem In.ints {kd : IntKind} {l : List Int} (h : In c k w 1 ao n cap (l.map (Value.int kd))) {j : Nat} (hj : j < n) : ∃ a, ao = some a ∧ w.cell? (a.add j) = some (.int kd (l.getD j 0)) := by
  obtain ⟨a, rfl, v, hv, hc⟩ := h.at1 hj
  have hl : j < l.length := by have := h.1; simp at this; omega
  refine ⟨a, rfl, ?_⟩
  rw [hc, ← hv]
  simp [List.getD, hl]

/-- Field f of element j. -/
theorem In.field {α : Type} {enc : α → List Value} (hm : ∀ x, (enc x).length = m) {l : List α} (h : In c k w m ao n cap (l.flatMap enc)) {j : Nat} {x : α} (hx : l[j]? = some x) {f : Nat} {v : Value} (hv : (enc x)[f]? = some v) :
    ∃ a, ao = some a ∧ w.cell? (a.add (j * m + f)) = some v := by
  have hf : f < m := by have := (List.getElem?_eq_some_iff.1 hv).1; rw [hm] at this; exact this
  have hn : 0 < n := by
    have h1 := h.1
    rw [flat_len enc m hm] at h1
    have hl : j < l.length := (List.getElem?_eq_some_iff.1 hx).1
    have h2 : 0 < l.length * m := Nat.mul_pos (by omega) (by omega)
    rcases Nat.eq_zero_or_pos n with h3 | h3
    · rw [h3] at h1; omega
    · exact h3
  obtain ⟨a, rfl, _, _, hc⟩ := h.2.2.2.2 hn
  exact ⟨a, rfl, hc _ _ ((flat_get enc m hm f hf l j x hx).trans hv)⟩

theorem In.take (h : In c k w m ao n cap xs) {q : Nat} (hq : q ≤ n) : In c k w m ao q cap (xs.take (q * m)) := by
  obtain ⟨h1, h2, h3, h0, h4⟩ := h
  have := Nat.mul_le_mul_right m hq
  refine ⟨by rw [List.length_take, h1]; omega, by omega, h3, h0, fun hq0 => ?_⟩
  obtain ⟨a, rfl, hc, hl, hx⟩ := h4 (by omega)
  refine ⟨a, rfl, hc, hl, fun j u hu => hx j u ?_⟩
  rw [List.getElem?_take] at hu
  split at hu
  · exact hu
  · cases hu

theorem In.drop (h : In c k w m ao n cap xs) {q : Nat} (hq : q ≤ n) : In c k w m (if cap = q then ao else ao.map (·.add (q * m))) (n - q) (cap - q) (xs.drop (q * m)) := by
  obtain ⟨h1, h2, h3, h0, h4⟩ := h
  refine ⟨by rw [List.length_drop, h1, Nat.sub_mul], by omega, by omega, fun hn => ?_, fun hq0 => ?_⟩
  · split at hn
    · omega
    · have := h0 (by simpa using hn); omega
  obtain ⟨a, rfl, hc, hl, hx⟩ := h4 (by omega)
  rw [if_neg (by omega)]
  refine ⟨_, rfl, by rw [add_block]; exact hc, by rw [add_block]; exact hl, fun j u hu => ?_⟩
  rw [add_add']
  rw [List.getElem?_drop] at hu
  exact hx _ u hu

theorem In.src (h : In c k w m ao n cap xs) : Src w m (.slice ao n cap) n xs := by
  rcases Nat.eq_zero_or_pos n with hn | hn
  · subst hn
    have hx : xs = [] := List.eq_nil_of_length_eq_zero (by simpa using h.1)
    subst hx
    cases ao with
    | none =>
      obtain rfl := h.2.2.2.1 rfl
      exact .inl ⟨rfl, rfl, rfl⟩
    | some a => exact .inr ⟨a, cap, rfl, by simp, fun j u hu => by simp at hu⟩
  · obtain ⟨a, rfl, _, _, hx⟩ := h.2.2.2.2 hn
    exact .inr ⟨a, cap, rfl, h.1, hx⟩
end

theorem list_of_all {α : Type} (p : Nat → α → Prop) : ∀ n : Nat, (∀ i, i < n → ∃ x, p i x) → ∃ l : List α, l.length = n ∧ ∀ i x, l[i]? = some x → p i x
  | 0, _ => ⟨[], rfl, by simp⟩
  | n + 1, h => by
    obtain ⟨l, hl, hp⟩ := list_of_all p n fun i hi => h i (by omega)
    obtain ⟨x, hx⟩ := h n (by omega)
    refine ⟨l ++ [x], by simp [hl], fun i y hy => ?_⟩
    by_cases hi : i < l.length
    · rw [List.getElem?_append_left hi] at hy
      exact hp i y hy
    · rw [List.getElem?_append_right (by omega)] at hy
      have h0 : i - l.length = 0 := by
        have := (List.getElem?_eq_some_iff.1 hy).1
        simp at this
        omega
      rw [h0] at hy
      simp at hy
      subst hy
      rw [show i = n by omega]
      exact hx

/-- A slice that came in, opened: its elements are such as `dec` says. -/
theorem open_in {H : Type} {enc : TypeId × Value → H} {P : Program} {w : World} {base : Nat} {spare : Nat → Bool} {held : Bool} {α : Type} {en : α → List Value} {good : α → Prop} {t e : TypeId} {m fuel : Nat} {cs : List Value} {x : DataW H × List MemPlace}
    (ht : P.underlying t = some (.slice e)) (hC : P.cellsOf e = m) (hm : ∀ x, (en x).length = m) (h0 : 0 < m)
    (dec : ∀ n cs' y, DataW.trod enc P w base spare held n e cs' = some y → ∃ x, cs' = en x ∧ good x) (h : DataW.trod enc P w base spare held fuel t cs = some x) :
    ∃ (ao : Option Addr) (len cap : Nat) (l : List α), cs = [.slice ao len cap] ∧ In (fun _ => 0) 0 w m ao len cap (l.flatMap en) ∧ (∀ x ∈ l, good x) ∧ l.length = len := by
  rcases open_slice ht h with ⟨rfl, _⟩ | ⟨a, len, cap, q, n, D, Pl, rfl, hb, hl, hcm, hq, _, hi⟩
  · exact ⟨none, 0, 0, [], rfl, In.nil _ _ _ _ _, by simp, rfl⟩
  · rw [hC] at hi
    have hql : len ≤ q := by rw [hq]; split <;> omega
    obtain ⟨l, hll, hp⟩ := list_of_all (fun i x => good x ∧ ∀ j u, (en x)[j]? = some u → w.cell? (a.add (i * m + j)) = some u) len (fun i hil => by
      obtain ⟨cs', hc, ht'⟩ := hi i (by omega)
      obtain ⟨x, rfl, hg⟩ := dec _ _ _ ht'
      obtain ⟨_, hcl, hat⟩ := World.cells?_some hc
      refine ⟨x, hg, fun j u hu => ?_⟩
      have hj : j < m := by have := (List.getElem?_eq_some_iff.1 hu).1; rw [hm] at this; exact this
      rw [← add_add', hat j hj, hu])
    refine ⟨some a, len, cap, l, rfl, ⟨by rw [flat_len en m hm, hll], hl, hcm, fun hn => (by cases hn), fun hn => ⟨a, rfl, rfl, ?_, ?_⟩⟩, fun x hx => ?_, hll⟩
    · have h1 : l[0]? = some (l[0]'(by omega)) := List.getElem?_eq_getElem (by omega)
      have h2 : (en (l[0]'(by omega)))[0]? = some ((en (l[0]'(by omega)))[0]'(by rw [hm]; exact h0)) := List.getElem?_eq_getElem (by rw [hm]; exact h0)
      have h3 := World.block_lt_of_cell? w _ ((hp 0 _ h1).2 0 _ h2)
      rw [add_block] at h3
      exact h3
    · intro j u hu
      have hlt : j < (l.flatMap en).length := (List.getElem?_eq_some_iff.1 hu).1
      rw [flat_len en m hm] at hlt
      have hd : j / m < l.length := Nat.div_lt_of_lt_mul (by rw [Nat.mul_comm]; exact hlt)
      have h1 : l[j / m]? = some (l[j / m]'hd) := List.getElem?_eq_getElem hd
      have h2 := flat_get en m hm (j % m) (Nat.mod_lt _ h0) l (j / m) _ h1
      have h4 : j / m * m + j % m = j := by rw [Nat.mul_comm]; exact Nat.div_add_mod j m
      rw [h4, hu] at h2
      have := (hp (j / m) _ h1).2 (j % m) u h2.symm
      rw [h4] at this
      exact this
    · obtain ⟨i, hi'⟩ := List.getElem?_of_mem hx
      exact (hp i x hi').1
end Go.Proofs.YtiphdedfbafhkaaGreatDoor
