/- Laws of a general kind on copy, in rows; and the contract of slices.Insert of one timer anywhere. No condition beyond each law's own. -/
import Derived.Test.YtiphdedfbafhkaaGreatDoorClock3
import Derived.Laws.CopyRow
import Derived.Laws.IdiomCopy
import Derived.Lib.Overlaps
import Derived.Lib.AppendZeros
import Derived.Lib.AppendZerosOnto
namespace Go.Proofs.YtiphdedfbafhkaaGreatDoor
open Go.RowKit

theorem splice_eq {α : Type} (cur news : List α) (off p T : Nat) (h : p + news.length ≤ T) (hT : off + T ≤ cur.length) :
    ((cur.take (off + p) ++ news ++ cur.drop (off + p + news.length)).drop off).take T = ((cur.drop off).take T).take p ++ news ++ ((cur.drop off).take T).drop (p + news.length) := by
  have e0 : (cur.take (off + p)).drop off = (cur.drop off).take p := by rw [List.drop_take]; congr 1; omega
  have e1 : cur.drop (off + p + news.length) = (cur.drop off).drop (p + news.length) := by rw [List.drop_drop]; congr 1; omega
  have e2 : ((cur.drop off).take p).length = p := by rw [List.length_take, List.length_drop]; omega
  rw [e1, List.append_assoc, List.drop_append_of_le_length (by rw [List.length_take]; omega), e0, List.take_take, Nat.min_eq_left (by omega), List.drop_take, ← List.append_assoc]
  have e3 : ((cur.drop off).take p ++ news).length = p + news.length := by rw [List.length_append, e2]
  rw [List.take_append, e3, List.take_of_length_le (by omega)]

section
variable {P : Program}

/-- copy into a row: from element i on stand the new ones. -/
theorem run_copy_row (w : World) (c : Nat → Nat) (k : Nat) (t ty e : TypeId) (i : TypeInfo) (ht : P.underlying t = some (.slice e)) (hi : P.info? e = some i)
    (g off N cap : Nat) (xs : List Value) (hrow : Row c k w e i.size (some ⟨g, off, none⟩) N cap xs) (at_ dl dc : Nat) (b : Addr) (sl sc m : Nat) (news : List Value) (hm : m = Nat.min sl dl) (hl : news.length = m * i.size) (hfit : at_ + m ≤ N)
    (hnews : ∀ j u, news[j]? = some u → w.cell? (b.add j) = some u) (h1 : ∀ u ∈ news, u.oneCell' = true) :
    ∃ w', (Builtin.copy_ #[t, t] ty #[.slice (some ⟨g, off + at_ * i.size, none⟩) dl dc, .slice (some b) sl sc]).run P w = .ok (goInt m) w' ∧
      Row c k w' e i.size (some ⟨g, off, none⟩) N cap (xs.take (at_ * i.size) ++ news ++ xs.drop ((at_ + m) * i.size)) ∧ Stp (· = k) c c w w' ∧ Others w w' (some ⟨g, off, none⟩) := by
  obtain ⟨hx1, hx2, hx3, hs, hc, cur, hb, hlc, hx⟩ := hrow
  simp only at hb hlc hx hc
  have hle : N * i.size ≤ cap * i.size := Nat.mul_le_mul_right _ hx2
  have hle2 : (at_ + m) * i.size ≤ N * i.size := Nat.mul_le_mul_right _ hfit
  have hadd : (at_ + m) * i.size = at_ * i.size + m * i.size := Nat.add_mul _ _ _
  have hf := run_firstCells_some (P := P) w i.size m b sl sc news hl hnews
  have hst := run_storeCells_at P g (off + at_ * i.size) e news 0 cur.toArray w hb (by simp; omega) h1
  simp only [Nat.add_zero] at hst
  refine ⟨w.setRow g (cur.take (off + at_ * i.size) ++ news ++ cur.drop (off + at_ * i.size + news.length)).toArray, by simp [Builtin.copy_, run_underlying ht, Builtin.lenOf, sizeOf, typeInfo, hi, ← hm, hf, hst], ⟨?_, hx2, hx3, hs, hc, _, setRow_heap w g cur.toArray _ e _ hb, ?_, ?_⟩, (Stp.refl _ c w).setRow _ hc, fun j _ hn => setRow_other w g j _ (fun e => hn _ rfl e.symm)⟩
  · simp only [List.length_append, List.length_take, List.length_drop, hx1, hl, hadd]; omega
  · simp only [List.length_append, List.length_take, List.length_drop]; omega
  · simp only
    rw [← hx]
    have e1 : (cur.take (off + at_ * i.size)).length = off + at_ * i.size := by rw [List.length_take]; omega
    have q := splice_eq cur news off (at_ * i.size) (N * i.size) (by rw [hl]; omega) (by omega)
    rw [hl] at q
    rw [hl, q, hadd]

theorem Row.extend {c : Nat → Nat} {k : Nat} {w : World} {e : TypeId} {size : Nat} {a : Addr} {n cap : Nat} {xs : List Value} (h : Row c k w e size (some a) n cap xs) (m : Nat) (hm : n + m ≤ cap) :
    ∃ sp : List Value, sp.length = m * size ∧ Row c k w e size (some a) (n + m) cap (xs ++ sp) := by
  obtain ⟨h1, h2, h3, hs, hc, cur, hb, hl, hx⟩ := h
  have hle : (n + m) * size ≤ cap * size := Nat.mul_le_mul_right _ hm
  rw [Nat.add_mul] at hle
  refine ⟨((cur.drop a.off).drop (n * size)).take (m * size), by rw [List.length_take, List.length_drop, List.length_drop]; omega, ?_, hm, h3, hs, hc, cur, hb, hl, ?_⟩
  · rw [List.length_append, h1, List.length_take, List.length_drop, List.length_drop, Nat.add_mul]; omega
  · rw [Nat.add_mul, List.take_add, hx]

theorem step_copy {w : World} {ops : Array Oper} {o : Oper} {a : Act} {K : Act → World → Prop} {Q : Exit → Act → World → Prop} {E : Prop} (hg : o.guard = none) (s x : Operand) (t : TypeId)
    (hop : o.op = Op.call { callee := Callee.builtin Builtin.copy, args := #[s, x], argTypes := #[t, t] })
    (c : Nat → Nat) (k : Nat) (e : TypeId) (size : Nat) (ht : P.underlying t = some (.slice e)) (hinfo : (P.info? e).map (·.size) = some size)
    (g off N cap : Nat) (xs : List Value) (hrow : Row c k w e size (some ⟨g, off, none⟩) N cap xs) (at_ dl dc : Nat) (hs : a.eval s = .slice (some ⟨g, off + at_ * size, none⟩) dl dc) (b : Addr) (sl sc m : Nat) (news : List Value) (hx : a.eval x = .slice (some b) sl sc)
    (hm : m = Nat.min sl dl) (hl : news.length = m * size) (hfit : at_ + m ≤ N) (hnews : ∀ j u, news[j]? = some u → w.cell? (b.add j) = some u) (h1 : ∀ u ∈ news, u.oneCell' = true)
    (hK : ∀ w', Row c k w' e size (some ⟨g, off, none⟩) N cap (xs.take (at_ * size) ++ news ++ xs.drop ((at_ + m) * size)) → Stp (· = k) c c w w' → Others w w' (some ⟨g, off, none⟩) → K (a.put o.dst (goInt m)) w') :
    if Region.wanted o (yielded ops a.tmps) = true then Oper.wp P o a w K Q else E := by
  have hw : Region.wanted o (yielded ops a.tmps) = true := by simp [Region.wanted, hg]
  rw [if_pos hw]
  obtain ⟨i, hi, hsize⟩ := Option.map_eq_some_iff.1 hinfo
  subst hsize
  obtain ⟨w', hr, h2, h3, h4⟩ := run_copy_row (P := P) w c k t o.type e i ht hi g off N cap xs hrow at_ dl dc b sl sc m news hm hl hfit hnews h1
  unfold Oper.wp
  simp [execOp, hop, resolve, invoke, builtin, hs, hx, hr, Result.andThen]
  exact hK _ h2 h3 h4

theorem wpList_copy {w : World} {ops : Array Oper} {rest : List Oper} {o : Oper} {a : Act} {Q : Exit → Act → World → Prop} (hgd : o.guard = none) (s x : Operand) (t : TypeId)
    (ho : o.op = .call { callee := .builtin .copy, args := #[s, x], argTypes := #[t, t] })
    (c : Nat → Nat) (k : Nat) (e : TypeId) (size : Nat) (ht : P.underlying t = some (.slice e)) (hinfo : (P.info? e).map (·.size) = some size)
    (g off N cap : Nat) (xs : List Value) (hrow : Row c k w e size (some ⟨g, off, none⟩) N cap xs) (at_ dl dc : Nat) (hs : a.eval s = .slice (some ⟨g, off + at_ * size, none⟩) dl dc) (b : Addr) (sl sc m : Nat) (news : List Value) (hx : a.eval x = .slice (some b) sl sc)
    (hm : m = Nat.min sl dl) (hl : news.length = m * size) (hfit : at_ + m ≤ N) (hnews : ∀ j u, news[j]? = some u → w.cell? (b.add j) = some u) (h1 : ∀ u ∈ news, u.oneCell' = true)
    (h : ∀ w', Row c k w' e size (some ⟨g, off, none⟩) N cap (xs.take (at_ * size) ++ news ++ xs.drop ((at_ + m) * size)) → Stp (· = k) c c w w' → Others w w' (some ⟨g, off, none⟩) → wpList P ops Q rest (a.put o.dst (goInt m)) w') :
    wpList P ops Q (o :: rest) a w := by
  obtain ⟨i, hi, hsize⟩ := Option.map_eq_some_iff.1 hinfo
  subst hsize
  refine wpList_plain hgd fun _ hK => ?_
  obtain ⟨w', hr, h2, h3, h4⟩ := run_copy_row (P := P) w c k t o.type e i ht hi g off N cap xs hrow at_ dl dc b sl sc m news hm hl hfit hnews h1
  unfold Oper.wp execOp
  simp only [ho, resolve, invoke, builtin, Sem.run_bind, Sem.run_pure, Result.andThen_ok, List.map_toArray, List.map_cons, List.map_nil, hs, hx, hr]
  exact hK _ _ (h w' h2 h3 h4)
end
end Go.Proofs.YtiphdedfbafhkaaGreatDoor
