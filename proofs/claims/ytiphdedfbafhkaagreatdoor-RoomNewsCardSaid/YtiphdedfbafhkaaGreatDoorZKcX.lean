/- Contracts that the closing theorem wants (KcX). No condition beyond each law's own. -/
import Derived.Test.YtiphdedfbafhkaaGreatDoorZAct
import Derived.Laws.CopyRow
import Derived.Laws.IdiomCopy
import Derived.Lib.Overlaps
import Derived.Lib.AppendZeros
import Derived.Lib.AppendZerosOnto
namespace Go.Proofs.YtiphdedfbafhkaaGreatDoor
open Go.RowKit

theorem ksetf_any {w : World} {c : Nat → Nat} {b : Nat} {x : Int} (hb : w.cell? ⟨b, 0, none⟩ = some (.int .i64 x)) (y : Tm) (v : Bool) (hv : decide (x < y.at_) = v) :
    Calls Tryz.prog 112 #[.agg #[.int .i64 y.at_, .int .i64 y.who], .pointer (some ⟨b, 0, none⟩)] w fun e w' => e = .returned (.bool v) ∧ ∃ c', Stp (fun _ => False) c c' w w' := by
  have hlt := World.block_lt_of_cell? w _ hb
  subst hv
  go_enter Tryz.func112, Tryz.ntmps112
  go_wp2
  go_ret
  exact ⟨rfl, _, (Stp.refl _ c w).alloc _ 0⟩

theorem kdropf_any {w : World} {c : Nat → Nat} {b : Nat} {x : Int} (hb : w.cell? ⟨b, 0, none⟩ = some (.int .i64 x)) (y : Tm) (v : Bool) (hv : (y.who == x) = v) :
    Calls Tryz.prog 110 #[.agg #[.int .i64 y.at_, .int .i64 y.who], .pointer (some ⟨b, 0, none⟩)] w fun e w' => e = .returned (.bool v) ∧ ∃ c', Stp (fun _ => False) c c' w w' := by
  have hlt := World.block_lt_of_cell? w _ hb
  subst hv
  go_enter Tryz.func110, Tryz.ntmps110
  go_wp2
  go_ret
  exact ⟨rfl, _, (Stp.refl _ c w).alloc _ 0⟩

/-- The first place of one that a test holds of; -1: none. -/
def ixOfP (l : List Tm) (q : Tm → Bool) : Int := if l.any q then (l.findIdx q : Nat) else -1

theorem ixOfP_hit {l : List Tm} {q : Tm → Bool} {j : Nat} {x : Tm} (hj : l[j]? = some x) (hx : q x = true) (hn : ∀ t ∈ l.take j, q t = false) : ixOfP l q = j := by
  have hl := (List.getElem?_eq_some_iff.1 hj).1
  have ha : l.any q = true := List.any_eq_true.2 ⟨x, List.mem_of_getElem? hj, hx⟩
  rw [ixOfP, if_pos ha]
  congr 1
  rw [List.findIdx_eq hl]
  refine ⟨?_, fun i hi => hn _ ?_⟩
  · have := (List.getElem?_eq_some_iff.1 hj).2
    rw [this]; exact hx
  · rw [List.mem_take_iff_getElem]
    exact ⟨i, by omega, rfl⟩

theorem ixOfP_none {l : List Tm} {q : Tm → Bool} (hn : ∀ t ∈ l, q t = false) : ixOfP l q = -1 := by
  have ha : l.any q = false := by
    rw [List.any_eq_false]
    intro x hx
    rw [hn x hx]; decide
  simp [ixOfP, ha]

set_option maxRecDepth 100000 in
/-- slices.IndexFunc of timers, the test a closure over one number. -/
theorem kindex_set {c : Nat → Nat} {k : Nat} {w : World} {ao : Option Addr} {n cap : Nat} {l : List Tm} {b : Nat} {x : Int} (h : In c k w 2 ao n cap (l.flatMap Tm.cells)) (hln : l.length = n) (hb : w.cell? ⟨b, 0, none⟩ = some (.int .i64 x)) :
    Calls Tryz.prog 111 #[.slice ao n cap, .func (.func 112) #[] #[.pointer (some ⟨b, 0, none⟩)]] w fun e w' => e = .returned (.int .i64 (ixOfP l (fun t => decide (x < t.at_)))) ∧ ∃ c', Stp (fun _ => False) c c' w w' := by
  have hm : n ≤ 9223372036854775807 := by have h1 := h.2.1; have h2 := h.2.2.1; simp only [maxLen] at h2; omega
  have H := Lib.hid h
  have Hn := Lib.hid hln
  have Hb := Lib.hid hb
  have hbl := World.block_lt_of_cell? w _ hb
  have Hbl := Lib.hid hbl
  clear h hln hb hbl
  go_enter Tryz.func111, Tryz.ntmps111
  go_wp2
  go_loopw [8] (fun i wr => ∃ (c' : Nat → Nat) (j : Nat), i = .int .i64 j ∧ j ≤ n ∧ (∀ t ∈ l.take j, (fun t => decide (x < t.at_)) t = false) ∧ Stp (fun _ => False) c c' w wr) (fun i _ => n - (intOf i).toNat)
  case atStart => exact ⟨c, 0, rfl, Nat.zero_le _, by simp, Stp.refl _ _ _⟩
  case round =>
    obtain ⟨c1, j, rfl, hj, hno, st⟩ := hrel
    have St := Lib.hid st
    have Hno := Lib.hid hno
    clear st hno
    by_cases hlt : j < n
    · obtain ⟨y, hy⟩ : ∃ y, l[j]? = some y := ⟨_, List.getElem?_eq_getElem (by rw [Hn.out]; exact hlt)⟩
      have hIn := H.out.stp St.out id
      obtain ⟨a, ha, y0⟩ := hIn.field Tm.len hy (f := 0) (v := .int .i64 y.at_) rfl
      obtain ⟨a1, ha1, y1⟩ := hIn.field Tm.len hy (f := 1) (v := .int .i64 y.who) rfl
      subst ha
      cases ha1
      have y1' : wr.cell? ⟨(a.add (j * 2)).block, (a.add (j * 2)).off + 1, none⟩ = some (.int .i64 y.who) := by rw [← add_add'] at y1; exact y1
      rw [Nat.add_zero] at y0
      have Hy := Lib.hid hy
      have Hbc := Lib.hid ((World.cell?_of_block (St.out.block b Hbl.out id)).trans Hb.out)
      clear hIn y1 hy
      by_cases hq : (fun t => decide (x < t.at_)) y = true
      · have Hq := Lib.hid hq
        clear hq
        go_wp2_with fail
        refine (ksetf_any (c := c1) Hbc.out y true Hq.out).mono ?_
        rintro e w2 ⟨rfl, c2, s2⟩
        have S2 := Lib.hid (St.out.trans s2)
        clear s2 y0 y1'
        go_wp2
        go_ret
        refine ⟨?_, c2, S2.out⟩
        rw [ixOfP_hit Hy.out Hq.out Hno.out]
        rfl
      · have Hq := Lib.hid (show (fun t => decide (x < t.at_)) y = false by simpa using hq)
        clear hq
        go_wp2_with fail
        refine (ksetf_any (c := c1) Hbc.out y false Hq.out).mono ?_
        rintro e w2 ⟨rfl, c2, s2⟩
        have S2 := Lib.hid (St.out.trans s2)
        clear s2 y0 y1'
        go_wp2
        go_roundw
        case rel => exact ⟨c2, j + 1, by go_num, by omega, fun t ht => by
          rw [List.take_add_one, Hy.out] at ht
          rcases List.mem_append.1 ht with ht | ht
          · exact Hno.out t ht
          · simp at ht; subst ht; exact Hq.out, S2.out⟩
        case measure => simp [intOf]; omega
    · have hjn : n ≤ j := by omega
      have Hx := Lib.hid (ixOfP_none (l := l) (q := (fun t => decide (x < t.at_))) (fun t ht => Hno.out t (by rw [List.take_of_length_le (by rw [Hn.out]; exact hjn)]; exact ht)))
      clear hjn
      go_wp2
      go_ret
      refine ⟨?_, c1, St.out⟩
      rw [Hx.out]
      rfl

set_option maxRecDepth 100000 in
/-- slices.IndexFunc of timers, the test a closure over one number. -/
theorem kindex_drop {c : Nat → Nat} {k : Nat} {w : World} {ao : Option Addr} {n cap : Nat} {l : List Tm} {b : Nat} {x : Int} (h : In c k w 2 ao n cap (l.flatMap Tm.cells)) (hln : l.length = n) (hb : w.cell? ⟨b, 0, none⟩ = some (.int .i64 x)) :
    Calls Tryz.prog 111 #[.slice ao n cap, .func (.func 110) #[] #[.pointer (some ⟨b, 0, none⟩)]] w fun e w' => e = .returned (.int .i64 (ixOfP l (fun t => t.who == x))) ∧ ∃ c', Stp (fun _ => False) c c' w w' := by
  have hm : n ≤ 9223372036854775807 := by have h1 := h.2.1; have h2 := h.2.2.1; simp only [maxLen] at h2; omega
  have H := Lib.hid h
  have Hn := Lib.hid hln
  have Hb := Lib.hid hb
  have hbl := World.block_lt_of_cell? w _ hb
  have Hbl := Lib.hid hbl
  clear h hln hb hbl
  go_enter Tryz.func111, Tryz.ntmps111
  go_wp2
  go_loopw [8] (fun i wr => ∃ (c' : Nat → Nat) (j : Nat), i = .int .i64 j ∧ j ≤ n ∧ (∀ t ∈ l.take j, (fun t => t.who == x) t = false) ∧ Stp (fun _ => False) c c' w wr) (fun i _ => n - (intOf i).toNat)
  case atStart => exact ⟨c, 0, rfl, Nat.zero_le _, by simp, Stp.refl _ _ _⟩
  case round =>
    obtain ⟨c1, j, rfl, hj, hno, st⟩ := hrel
    have St := Lib.hid st
    have Hno := Lib.hid hno
    clear st hno
    by_cases hlt : j < n
    · obtain ⟨y, hy⟩ : ∃ y, l[j]? = some y := ⟨_, List.getElem?_eq_getElem (by rw [Hn.out]; exact hlt)⟩
      have hIn := H.out.stp St.out id
      obtain ⟨a, ha, y0⟩ := hIn.field Tm.len hy (f := 0) (v := .int .i64 y.at_) rfl
      obtain ⟨a1, ha1, y1⟩ := hIn.field Tm.len hy (f := 1) (v := .int .i64 y.who) rfl
      subst ha
      cases ha1
      have y1' : wr.cell? ⟨(a.add (j * 2)).block, (a.add (j * 2)).off + 1, none⟩ = some (.int .i64 y.who) := by rw [← add_add'] at y1; exact y1
      rw [Nat.add_zero] at y0
      have Hy := Lib.hid hy
      have Hbc := Lib.hid ((World.cell?_of_block (St.out.block b Hbl.out id)).trans Hb.out)
      clear hIn y1 hy
      by_cases hq : (fun t => t.who == x) y = true
      · have Hq := Lib.hid hq
        clear hq
        go_wp2_with fail
        refine (kdropf_any (c := c1) Hbc.out y true Hq.out).mono ?_
        rintro e w2 ⟨rfl, c2, s2⟩
        have S2 := Lib.hid (St.out.trans s2)
        clear s2 y0 y1'
        go_wp2
        go_ret
        refine ⟨?_, c2, S2.out⟩
        rw [ixOfP_hit Hy.out Hq.out Hno.out]
        rfl
      · have Hq := Lib.hid (show (fun t => t.who == x) y = false by simpa using hq)
        clear hq
        go_wp2_with fail
        refine (kdropf_any (c := c1) Hbc.out y false Hq.out).mono ?_
        rintro e w2 ⟨rfl, c2, s2⟩
        have S2 := Lib.hid (St.out.trans s2)
        clear s2 y0 y1'
        go_wp2
        go_roundw
        case rel => exact ⟨c2, j + 1, by go_num, by omega, fun t ht => by
          rw [List.take_add_one, Hy.out] at ht
          rcases List.mem_append.1 ht with ht | ht
          · exact Hno.out t ht
          · simp at ht; subst ht; exact Hq.out, S2.out⟩
        case measure => simp [intOf]; omega
    · have hjn : n ≤ j := by omega
      have Hx := Lib.hid (ixOfP_none (l := l) (q := (fun t => t.who == x)) (fun t ht => Hno.out t (by rw [List.take_of_length_le (by rw [Hn.out]; exact hjn)]; exact ht)))
      clear hjn
      go_wp2
      go_ret
      refine ⟨?_, c1, St.out⟩
      rw [Hx.out]
      rfl

/-- slices.Insert of one timer, at the end. -/
theorem kinsert_end {c : Nat → Nat} {k : Nat} {w : World} {ao : Option Addr} {n cap : Nat} {l : List Tm} {vb : Nat} {y : Tm} (h : Row c k w 196 2 ao n cap (l.flatMap Tm.cells)) (hv : Blk c 0 w vb y.cells 196) (hn : (n : Int) ≤ 1000) :
    Calls Tryz.prog 113 #[.slice ao n cap, .int .i64 n, .slice (some ⟨vb, 0, none⟩) 1 1] w fun e w' => ∃ ao' cap', e = .returned (.slice ao' (n + 1) cap') ∧ ∃ c', Stp (· = k) c c' w w' ∧ Row c' k w' 196 2 ao' (n + 1) cap' ((l ++ [y]).flatMap Tm.cells) := by
  have hcap := h.2.1
  have hmax : cap ≤ 9223372036854775807 := by have := h.2.2.1; simp only [maxLen] at this; omega
  have H := Lib.hid h
  have V := Lib.hid (show Src w 2 (.slice (some ⟨vb, 0, none⟩) 1 1) 1 y.cells from (Row.blk (n := 1) hv rfl (by decide)).src)
  have d2 : Hid (n + 1 ≤ maxLen) := Lib.hid (by unfold maxLen; omega)
  have d3 : Hid ((n + 1) * 16 ≤ 140737488355328) := Lib.hid (by omega)
  have hci : (n : Int) ≤ cap := by omega
  have hn0 : ao = none → n = 0 ∧ cap = 0 := fun e => by subst e; have := h.2.2.2; simp only at this; omega
  clear h hv hn
  rcases (show (∃ a, ao = some a ∧ ¬ cap = n) ∨ (∃ a, ao = some a ∧ cap = n) ∨ (ao = none ∧ n = 0 ∧ cap = 0) by
    cases ao with
    | none => exact .inr (.inr ⟨rfl, hn0 rfl⟩)
    | some a =>
      by_cases hz : cap = n
      · exact .inr (.inl ⟨a, rfl, hz⟩)
      · exact .inl ⟨a, rfl, hz⟩) with ⟨a, rfl, hz⟩ | ⟨a, rfl, rfl⟩ | ⟨rfl, rfl, rfl⟩
  all_goals
    clear hn0
    go_enter Tryz.func113, Tryz.ntmps113
    go_wp2_with (at_builtin; refine wpList_append_row _ rfl (.tmp 23) (.tmp 24) 131 rfl c k 196 (.agg #[.int .i64 0, .int .i64 0]) 2 16 Tryz.underlying131 Tryz.infoTimer rfl _ _ _ (l.flatMap Tm.cells) rfl H.out _ 1 y.cells rfl V.out (by simp [Tm.cells, Value.oneCell']) d2.out d3.out ?_)
    intro ao2 cap2 w2 hr2 st2 _
    have R2 := Lib.hid hr2
    have S2 := Lib.hid st2
    clear hr2 st2
    go_wp2
    go_ret
    exact ⟨ao2, cap2, rfl, _, S2.out, by simpa [Tm.cells] using R2.out⟩
end Go.Proofs.YtiphdedfbafhkaaGreatDoor

namespace Go.Proofs.YtiphdedfbafhkaaGreatDoor
open Go.RowKit

def KJ2 (k : Nat) (j : Nat) : Prop := j = k ∨ j = k + 1

end Go.Proofs.YtiphdedfbafhkaaGreatDoor

namespace Go.Proofs.YtiphdedfbafhkaaGreatDoor
open Go.RowKit

theorem splice_eq {α : Type} (cur news : List α) (off p T : Nat) (h : p + news.length ≤ T) (hT : off + T ≤ cur.length) :
    ((cur.take (off + p) ++ news ++ cur.drop (off + p + news.length)).drop off).take T = ((cur.drop off).take T).take p ++ news ++ ((cur.drop off).take T).drop (p + news.length) := by
  have e0 : (cur.take (off + p)).drop off = (cur.drop off).take p := by rw [List.drop_take]; congr 1; omega
  have e1 : cur.drop (off + p + news.length) = (cur.drop off).drop (p + news.length) := by rw [List.drop_drop]; congr 1; omega
  have e2 : ((cur.drop off).take p).length = p := by rw [List.length_take, List.length_drop]; omega
  rw [e1, List.append_assoc, List.drop_append_of_le_length (by rw [List.length_take]; omega), e0, List.take_take, Nat.min_eq_left (by omega), List.drop_take, ← List.append_assoc]
  have e3 : ((cur.drop off).take p ++ news).length = p + news.length := by rw [List.length_append, e2]
  rw [List.take_append, e3, List.take_of_length_le (by omega)]

section
variable {P : Program}

/-- copy into a row: from element i on stand the new ones. -/
theorem run_copy_row (w : World) (c : Nat → Nat) (k : Nat) (t ty e : TypeId) (i : TypeInfo) (ht : P.underlying t = some (.slice e)) (hi : P.info? e = some i)
    (g off N cap : Nat) (xs : List Value) (hrow : Row c k w e i.size (some ⟨g, off, none⟩) N cap xs) (at_ dl dc : Nat) (b : Addr) (sl sc m : Nat) (news : List Value) (hm : m = Nat.min sl dl) (hl : news.length = m * i.size) (hfit : at_ + m ≤ N)
    (hnews : ∀ j u, news[j]? = some u → w.cell? (b.add j) = some u) (h1 : ∀ u ∈ news, u.oneCell' = true) :
    ∃ w', (Builtin.copy_ #[t, t] ty #[.slice (some ⟨g, off + at_ * i.size, none⟩) dl dc, .slice (some b) sl sc]).run P w = .ok (goInt m) w' ∧
      Row c k w' e i.size (some ⟨g, off, none⟩) N cap (xs.take (at_ * i.size) ++ news ++ xs.drop ((at_ + m) * i.size)) ∧ Stp (· = k) c c w w' ∧ Others w w' (some ⟨g, off, none⟩) := by
  obtain ⟨hx1, hx2, hx3, hs, hc, cur, hb, hlc, hx⟩ := hrow
  simp only at hb hlc hx hc
  have hle : N * i.size ≤ cap * i.size := Nat.mul_le_mul_right _ hx2
  have hle2 : (at_ + m) * i.size ≤ N * i.size := Nat.mul_le_mul_right _ hfit
  have hadd : (at_ + m) * i.size = at_ * i.size + m * i.size := Nat.add_mul _ _ _
  have hf := run_firstCells_some (P := P) w i.size m b sl sc news hl hnews
  have hst := run_storeCells_at P g (off + at_ * i.size) e news 0 cur.toArray w hb (by simp; omega) h1
  simp only [Nat.add_zero] at hst
  refine ⟨w.setRow g (cur.take (off + at_ * i.size) ++ news ++ cur.drop (off + at_ * i.size + news.length)).toArray, by simp [Builtin.copy_, run_underlying ht, Builtin.lenOf, sizeOf, typeInfo, hi, ← hm, hf, hst], ⟨?_, hx2, hx3, hs, hc, _, setRow_heap w g cur.toArray _ e _ hb, ?_, ?_⟩, (Stp.refl _ c w).setRow _ hc, fun j _ hn => setRow_other w g j _ (fun e => hn _ rfl e.symm)⟩
  · simp only [List.length_append, List.length_take, List.length_drop, hx1, hl, hadd]; omega
  · simp only [List.length_append, List.length_take, List.length_drop]; omega
  · simp only
    rw [← hx]
    have e1 : (cur.take (off + at_ * i.size)).length = off + at_ * i.size := by rw [List.length_take]; omega
    have q := splice_eq cur news off (at_ * i.size) (N * i.size) (by rw [hl]; omega) (by omega)
    rw [hl] at q
    rw [hl, q, hadd]

theorem Row.extend {c : Nat → Nat} {k : Nat} {w : World} {e : TypeId} {size : Nat} {a : Addr} {n cap : Nat} {xs : List Value} (h : Row c k w e size (some a) n cap xs) (m : Nat) (hm : n + m ≤ cap) :
    ∃ sp : List Value, sp.length = m * size ∧ Row c k w e size (some a) (n + m) cap (xs ++ sp) := by
  obtain ⟨h1, h2, h3, hs, hc, cur, hb, hl, hx⟩ := h
  have hle : (n + m) * size ≤ cap * size := Nat.mul_le_mul_right _ hm
  rw [Nat.add_mul] at hle
  refine ⟨((cur.drop a.off).drop (n * size)).take (m * size), by rw [List.length_take, List.length_drop, List.length_drop]; omega, ?_, hm, h3, hs, hc, cur, hb, hl, ?_⟩
  · rw [List.length_append, h1, List.length_take, List.length_drop, List.length_drop, Nat.add_mul]; omega
  · rw [Nat.add_mul, List.take_add, hx]

theorem step_copy {w : World} {ops : Array Oper} {o : Oper} {a : Act} {K : Act → World → Prop} {Q : Exit → Act → World → Prop} {E : Prop} (hg : o.guard = none) (s x : Operand) (t : TypeId)
    (hop : o.op = Op.call { callee := Callee.builtin Builtin.copy, args := #[s, x], argTypes := #[t, t] })
    (c : Nat → Nat) (k : Nat) (e : TypeId) (size : Nat) (ht : P.underlying t = some (.slice e)) (hinfo : (P.info? e).map (·.size) = some size)
    (g off N cap : Nat) (xs : List Value) (hrow : Row c k w e size (some ⟨g, off, none⟩) N cap xs) (at_ dl dc : Nat) (hs : a.eval s = .slice (some ⟨g, off + at_ * size, none⟩) dl dc) (b : Addr) (sl sc m : Nat) (news : List Value) (hx : a.eval x = .slice (some b) sl sc)
    (hm : m = Nat.min sl dl) (hl : news.length = m * size) (hfit : at_ + m ≤ N) (hnews : ∀ j u, news[j]? = some u → w.cell? (b.add j) = some u) (h1 : ∀ u ∈ news, u.oneCell' = true)
    (hK : ∀ w', Row c k w' e size (some ⟨g, off, none⟩) N cap (xs.take (at_ * size) ++ news ++ xs.drop ((at_ + m) * size)) → Stp (· = k) c c w w' → Others w w' (some ⟨g, off, none⟩) → K (a.put o.dst (goInt m)) w') :
    if Region.wanted o (yielded ops a.tmps) = true then Oper.wp P o a w K Q else E := by
  have hw : Region.wanted o (yielded ops a.tmps) = true := by simp [Region.wanted, hg]
  rw [if_pos hw]
  obtain ⟨i, hi, hsize⟩ := Option.map_eq_some_iff.1 hinfo
  subst hsize
  obtain ⟨w', hr, h2, h3, h4⟩ := run_copy_row (P := P) w c k t o.type e i ht hi g off N cap xs hrow at_ dl dc b sl sc m news hm hl hfit hnews h1
  unfold Oper.wp
  simp [execOp, hop, resolve, invoke, builtin, hs, hx, hr, Result.andThen]
  exact hK _ h2 h3 h4

end
end Go.Proofs.YtiphdedfbafhkaaGreatDoor

namespace Go.Proofs.YtiphdedfbafhkaaGreatDoor
open Go.RowKit

theorem timer_size : ∀ w, (sizeOf 196).run Tryz.prog w = .ok 2 w := by
  intro w
  obtain ⟨i, hi, _, hs, _⟩ := info_parts Tryz.infoTimer
  simp [sizeOf, typeInfo, hi, hs]

theorem overlaps_no {c : Nat → Nat} {k : Nat} {w : World} {g off N cap vb : Nat} {xs : List Value} {y : Tm} (h : Row c k w 196 2 (some ⟨g, off, none⟩) N cap xs) (hv : Blk c 0 w vb y.cells 196) (hk : k ≠ 0) (hN : 0 < N) (o lb cb : Nat) :
    (callFunc 141 #[.slice (some ⟨vb, 0, none⟩) 1 1, .slice (some ⟨g, o, none⟩) lb cb]).run Tryz.prog w = .ok (.value (.bool false)) w := by
  obtain ⟨hx1, hx2, hx3, hs, hc, cur, hb, hlc, hx⟩ := h
  simp only at hb hlc hc
  have hne : vb ≠ g := by rintro rfl; have := hv.1; omega
  rw [run_callFunc_extern Tryz.func141 (by kernel_rfl) (by kernel_rfl) (by kernel_rfl) (e := Extern.SlicesOverlaps.overlaps #[131, 131] #[4]) (by kernel_rfl),
    Lib.run_overlaps_apart w 131 4 196 Tryz.underlying131 2 timer_size ⟨vb, 0, none⟩ ⟨g, o, none⟩ 1 1 lb cb hne 196 196 2 cur.length (by simp [World.shape?, hv.2, Tm.cells]) (by simp [World.shape?, hb]) (by omega) (by simp [World.frozen?, hv.2]) (by simp [World.frozen?, hv.2])]
  rfl

theorem run_copy_tm {w : World} {c : Nat → Nat} {k : Nat} (ty : TypeId) {g off N cap : Nat} {xs : List Value} (hrow : Row c k w 196 2 (some ⟨g, off, none⟩) N cap xs) (at_ dl dc : Nat) (b : Addr) (sl sc m : Nat) (news : List Value) (hm : m = Nat.min sl dl) (hl : news.length = m * 2) (hfit : at_ + m ≤ N)
    (hnews : ∀ j u, news[j]? = some u → w.cell? (b.add j) = some u) (h1 : ∀ u ∈ news, u.oneCell' = true) :
    ∃ w', (Builtin.copy_ #[131, 131] ty #[.slice (some ⟨g, off + at_ * 2, none⟩) dl dc, .slice (some b) sl sc]).run Tryz.prog w = .ok (goInt m) w' ∧
      Row c k w' 196 2 (some ⟨g, off, none⟩) N cap (xs.take (at_ * 2) ++ news ++ xs.drop ((at_ + m) * 2)) ∧ Stp (· = k) c c w w' ∧ Others w w' (some ⟨g, off, none⟩) := by
  obtain ⟨i, hi, _, hs, _⟩ := info_parts Tryz.infoTimer
  rw [← hs] at hrow hl ⊢
  exact run_copy_row w c k 131 ty 196 i Tryz.underlying131 hi g off N cap xs hrow at_ dl dc b sl sc m news hm hl hfit hnews h1

theorem flat_drop (l : List Tm) (i : Nat) : (l.drop i).flatMap Tm.cells = (l.flatMap Tm.cells).drop (i * 2) := by
  induction i generalizing l with
  | zero => simp
  | succ i ih =>
    cases l with
    | nil => simp
    | cons x l =>
      rw [List.drop_succ_cons, ih, List.flatMap_cons, Nat.add_mul, Nat.one_mul, Nat.add_comm, ← List.drop_drop]
      rfl

theorem flat_take (l : List Tm) (i : Nat) : (l.take i).flatMap Tm.cells = (l.flatMap Tm.cells).take (i * 2) := by
  induction i generalizing l with
  | zero => simp
  | succ i ih =>
    cases l with
    | nil => simp
    | cons x l =>
      rw [List.take_succ_cons, List.flatMap_cons, List.flatMap_cons, ih, show (i + 1) * 2 = i * 2 + 1 + 1 by omega]
      simp [Tm.cells]

theorem ins_eq {l : List Tm} {n i : Nat} {sp : List Value} {y : Tm} (hl : l.length = n) (hi : i < n) (hsp : sp.length = 1 * 2) :
    (((l.flatMap Tm.cells ++ sp).take ((i + 1) * 2) ++ (l.drop i).flatMap Tm.cells ++ (l.flatMap Tm.cells ++ sp).drop ((i + 1 + (n - i)) * 2)).take (i * 2) ++ y.cells ++
      ((l.flatMap Tm.cells ++ sp).take ((i + 1) * 2) ++ (l.drop i).flatMap Tm.cells ++ (l.flatMap Tm.cells ++ sp).drop ((i + 1 + (n - i)) * 2)).drop ((i + 1) * 2)) = (l.take i ++ y :: l.drop i).flatMap Tm.cells := by
  have hf : (l.flatMap Tm.cells).length = n * 2 := by rw [flat_len Tm.cells 2 Tm.len, hl]
  have e0 : (l.flatMap Tm.cells ++ sp).drop ((i + 1 + (n - i)) * 2) = [] := List.drop_of_length_le (by rw [List.length_append, hf, hsp]; omega)
  have e1 : ((l.flatMap Tm.cells ++ sp).take ((i + 1) * 2)).length = (i + 1) * 2 := by rw [List.length_take, List.length_append, hf, hsp]; omega
  rw [e0, List.append_nil, List.take_append_of_le_length (by rw [e1]; omega), List.take_take, Nat.min_eq_left (by omega), List.take_append_of_le_length (by rw [hf]; omega), ← flat_take,
    List.drop_append, e1, Nat.sub_self, List.drop_of_length_le (by rw [e1]; exact Nat.le_refl _), List.nil_append, List.drop_zero]
  simp [List.flatMap_append, List.flatMap_cons]

set_option maxRecDepth 100000 in
set_option maxHeartbeats 2000000 in
theorem kinsert_shift {c : Nat → Nat} {k : Nat} {w : World} {g off n cap i : Nat} {l : List Tm} {vb : Nat} {y : Tm} (h : Row c k w 196 2 (some ⟨g, off, none⟩) n cap (l.flatMap Tm.cells)) (hl : l.length = n) (hv : Blk c 0 w vb y.cells 196) (hk : k ≠ 0) (hi : i < n) (hroom : n + 1 ≤ cap) (hn : (n : Int) ≤ 1000) :
    Calls Tryz.prog 113 #[.slice (some ⟨g, off, none⟩) n cap, .int .i64 i, .slice (some ⟨vb, 0, none⟩) 1 1] w fun e w' => ∃ ao' cap', e = .returned (.slice ao' (n + 1) cap') ∧ ∃ c', Stp (· = k) c c' w w' ∧ Row c' k w' 196 2 ao' (n + 1) cap' ((l.take i ++ y :: l.drop i).flatMap Tm.cells) := by
  have hmax : cap ≤ 9223372036854775807 := by have := h.2.2.1; simp only [maxLen] at this; omega
  have H := Lib.hid h
  have V := Lib.hid hv
  have hov := overlaps_no h hv hk (by omega)
  have W1 : wrap64 ((n : Int) + 1) = n + 1 := IntWalk.wrap64_in _ ⟨by omega, by omega⟩
  have W2 : wrap64 ((i : Int) + 1) = i + 1 := IntWalk.wrap64_in _ ⟨by omega, by omega⟩
  have W3 : IntKind.i64.wrap ((i : Int) + 1) = i + 1 := by rw [IntKind.wrap_i64]; omega
  have z1 : ¬ cap = i := by omega
  have z2 : ¬ cap = i + 1 := by omega
  have z3 : ((i : Int) == (n : Int)) = false := by simp; omega
  have z4 : decide ((cap : Int) < (n : Int) + 1) = false := by simp; omega
  have z5 : i ≤ n := by omega
  have z6 : (n : Int) + 1 ≤ cap := by omega
  have z7 : (i : Int) + 1 ≤ (n : Int) + 1 := by omega
  have z8 : (i : Int) ≤ (n : Int) + 1 := by omega
  have z9 : ¬ ((i : Int) = (n : Int)) := by omega
  have ha : ((n : Int) + 1).toNat = n + 1 := by omega
  have hb : ((i : Int) + 1).toNat = i + 1 := by omega
  have hc0 : (0 : Int) ≤ (n : Int) + 1 := by omega
  have hc1 : (0 : Int) ≤ (i : Int) + 1 := by omega
  obtain ⟨sp, hsp, hr2⟩ := h.extend 1 hroom
  have R2 := Lib.hid hr2
  have Hsp := Lib.hid hsp
  have Hl := Lib.hid hl
  clear h hv hr2 hsp hl hn
  go_enter Tryz.func113, Tryz.ntmps113
  go_wp2_with (simp only [hov])
  clear hov
  have hD := (H.out.drew.drop i z5)
  rw [← flat_drop] at hD
  have hnews : Hid (∀ j u, ((l.drop i).flatMap Tm.cells)[j]? = some u → w.drew.cell? ((⟨g, off + i * 2, none⟩ : Addr).add j) = some u) := Lib.hid (fun j u hu => by
    obtain ⟨a, hae, _, hcc, _⟩ := hD.cell hu
    cases hae
    exact hcc)
  have hnl : Hid (((l.drop i).flatMap Tm.cells).length = (n - i) * 2) := Lib.hid (by rw [flat_len Tm.cells 2 Tm.len, List.length_drop, Hl.out])
  have hmin : Hid (n - i = Nat.min (n + 1 - i) (n + 1 - (i + 1))) := Lib.hid (by simp only [Nat.min_def]; split <;> omega)
  have hmin2 : Hid (1 = Nat.min 1 (n + 1 - i)) := Lib.hid (by simp only [Nat.min_def]; split <;> omega)
  clear hD
  go_region_law (refine step_copy rfl (.tmp 73) (.tmp 76) 131 rfl c k 196 2 Tryz.underlying131 (by kernel_rfl) g off (n + 1) cap (l.flatMap Tm.cells ++ sp) R2.out.drew (i + 1) (n + 1 - (i + 1)) (cap - (i + 1)) (by simp [Act.eval, Act.put]) ⟨g, off + i * 2, none⟩ (n + 1 - i) (cap - i) (n - i) ((l.drop i).flatMap Tm.cells) (by simp [Act.eval, Act.put]) hmin.out hnl.out (by omega) hnews.out (tm_one _) ?_; intro w1 r1 s1 o1)
  all_goals
    have R1 := Lib.hid r1
    have S1 := Lib.hid ((Stp.refl (· = k) c w).drew.trans s1)
    have V1 := Lib.hid (V.out.drew.stp s1 (by simpa using Ne.symm hk))
    have hnv : Hid (∀ j u, y.cells[j]? = some u → w1.cell? ((⟨vb, 0, none⟩ : Addr).add j) = some u) := Lib.hid (fun j u hu => by
      rw [Addr.add_lit, Nat.zero_add, V1.out.cell]; exact hu)
    clear r1 s1 o1
    obtain ⟨w2, hr2, r2, s2, -⟩ := run_copy_tm 3 R1.out i (n + 1 - i) (cap - i) ⟨vb, 0, none⟩ 1 1 1 y.cells hmin2.out rfl (by omega) hnv.out (by simp [Tm.cells, Value.oneCell'])
    have R3 := Lib.hid r2
    have S3 := Lib.hid (S1.out.trans s2)
    clear r2 s2
    go_wp2
    go_ret
    refine ⟨_, _, rfl, c, S3.out, ?_⟩
    have r := R3.out
    rw [ins_eq Hl.out hi Hsp.out] at r
    exact r
end Go.Proofs.YtiphdedfbafhkaaGreatDoor

namespace Go.Proofs.YtiphdedfbafhkaaGreatDoor
open Go.RowKit

theorem grow_eq {l : List Tm} {n i : Nat} {Z : List Value} {y : Tm} (hl : l.length = n) (hi : i < n) (hZ : Z.length = (n + 1 - i) * 2) :
    ((((l.take i).flatMap Tm.cells ++ Z).take (i * 2) ++ y.cells ++ ((l.take i).flatMap Tm.cells ++ Z).drop ((i + 1) * 2)).take ((i + 1) * 2) ++ (l.drop i).flatMap Tm.cells ++
      (((l.take i).flatMap Tm.cells ++ Z).take (i * 2) ++ y.cells ++ ((l.take i).flatMap Tm.cells ++ Z).drop ((i + 1) * 2)).drop ((i + 1 + (n - i)) * 2)) = (l.take i ++ y :: l.drop i).flatMap Tm.cells := by
  have hT : ((l.take i).flatMap Tm.cells).length = i * 2 := by rw [flat_len Tm.cells 2 Tm.len, List.length_take, hl]; omega
  have e0 : ((l.take i).flatMap Tm.cells ++ Z).take (i * 2) = (l.take i).flatMap Tm.cells := by rw [← hT]; exact List.take_left
  have hy : y.cells.length = 2 := rfl
  have hA : ((l.take i).flatMap Tm.cells ++ y.cells).length = (i + 1) * 2 := by rw [List.length_append, hT, hy]; omega
  have hD : (((l.take i).flatMap Tm.cells ++ Z).drop ((i + 1) * 2)).length = (n - i) * 2 := by rw [List.length_drop, List.length_append, hT, hZ]; omega
  rw [e0]
  have e1 : ((l.take i).flatMap Tm.cells ++ y.cells ++ ((l.take i).flatMap Tm.cells ++ Z).drop ((i + 1) * 2)).take ((i + 1) * 2) = (l.take i).flatMap Tm.cells ++ y.cells := by
    rw [← hA]; exact List.take_left
  have e2 : ((l.take i).flatMap Tm.cells ++ y.cells ++ ((l.take i).flatMap Tm.cells ++ Z).drop ((i + 1) * 2)).drop ((i + 1 + (n - i)) * 2) = [] :=
    List.drop_of_length_le (by rw [List.length_append, hA, hD]; omega)
  rw [e1, e2, List.append_nil]
  simp [List.flatMap_append, List.flatMap_cons]

set_option maxRecDepth 100000 in
set_option maxHeartbeats 2000000 in
theorem kinsert_grow {c : Nat → Nat} {k : Nat} {w : World} {g off n cap i : Nat} {l : List Tm} {vb : Nat} {y : Tm} (h : Row c k w 196 2 (some ⟨g, off, none⟩) n cap (l.flatMap Tm.cells)) (hl : l.length = n) (hv : Blk c 0 w vb y.cells 196) (hi : i < n) (hroom : cap < n + 1) (hn : (n : Int) ≤ 1000) :
    Calls Tryz.prog 113 #[.slice (some ⟨g, off, none⟩) n cap, .int .i64 i, .slice (some ⟨vb, 0, none⟩) 1 1] w fun e w' => ∃ ao' cap', e = .returned (.slice ao' (n + 1) cap') ∧ ∃ c', Stp (· = k) c c' w w' ∧ Row c' k w' 196 2 ao' (n + 1) cap' ((l.take i ++ y :: l.drop i).flatMap Tm.cells) := by
  have hncap := h.2.1
  have H := Lib.hid h
  have V := Lib.hid hv
  have W1 : wrap64 ((n : Int) + 1) = n + 1 := IntWalk.wrap64_in _ ⟨by omega, by omega⟩
  have W2 : wrap64 ((i : Int) + 1) = i + 1 := IntWalk.wrap64_in _ ⟨by omega, by omega⟩
  have W3 : IntKind.i64.wrap ((i : Int) + 1) = i + 1 := by rw [IntKind.wrap_i64]; omega
  have W4 : wrap64 ((n : Int) + 1 - i) = (n : Int) + 1 - i := IntWalk.wrap64_in _ ⟨by omega, by omega⟩
  have hkk : ((n + 1 - i : Nat) : Int) = (n : Int) + 1 - i := by omega
  obtain ⟨i0, hi0, hz0, hzs, hzb⟩ := info_parts Tryz.infoTimer
  have hlt := h.2.2.2
  obtain ⟨-, hcg, cur, hbk, -⟩ := hlt
  have hgl : g < w.heap.size := lt_of_block hbk
  have hold : (Builtin.firstCells i0.size i (.slice (some ⟨g, off, none⟩) i cap)).run Tryz.prog w.drew = .ok ((l.take i).flatMap Tm.cells).toArray w.drew := by
    rw [hzs]
    exact run_firstCells_some w.drew 2 i ⟨g, off, none⟩ i cap ((l.take i).flatMap Tm.cells) (by rw [flat_len Tm.cells 2 Tm.len, List.length_take, hl]; omega) (fun j v hj => by
      have ht := h.take i (by omega)
      rw [← flat_take] at ht
      obtain ⟨a, ha, _, hcc, _⟩ := ht.cell hj
      cases ha
      exact hcc)
  have hrz : ∀ ty, (Builtin.append_ #[131, 3] ty #[.slice (some ⟨g, off, none⟩) i cap, .int .i64 ((n : Int) + 1 - (i : Int))]).run Tryz.prog w =
      .ok (.slice (some ⟨w.heap.size, 0, none⟩) (n + 1) (grownCap w (n + 1) cap 196)) (w.drew.alloc (.cells (((l.take i).flatMap Tm.cells).toArray ++ Builtin.zeroCells (Value.agg #[.int .i64 0, .int .i64 0]).cells (n + 1 - i) ++ Builtin.zeroCells (Value.agg #[.int .i64 0, .int .i64 0]).cells (grownCap w (n + 1) cap 196 - (n + 1))) 196)) := fun ty => by
    have hh := Lib.run_append_grow_zeros w 131 3 ty 196 i0 _ .i64 .i64 Tryz.underlying131 Tryz.underlying3 hi0 hz0 (some ⟨g, off, none⟩) i cap _ hold (n + 1 - i) (by omega) (by omega) (by omega) (by omega) (by rw [hzb]; omega) (by rw [hzb, show i + (n + 1 - i) = n + 1 by omega]; exact growslice_fits hroom (by omega))
    rw [show i + (n + 1 - i) = n + 1 by omega, hkk] at hh
    exact hh
  obtain ⟨G, hG⟩ : ∃ G, G = grownCap w (n + 1) cap 196 := ⟨_, rfl⟩
  have hGn : n + 1 ≤ G := by rw [hG]; exact grownCap_ge w _ _ _
  have hGm : G ≤ maxLen := by rw [hG]; exact grownCap_le_maxLen w (n + 1) cap 196 (by unfold maxLen; omega)
  rw [← hG] at hrz
  obtain ⟨Z, hZ⟩ : ∃ Z, Z = (Builtin.zeroCells (Value.agg #[.int .i64 0, .int .i64 0]).cells (n + 1 - i)).toList := ⟨_, rfl⟩
  obtain ⟨Z2, hZ2⟩ : ∃ Z, Z = (Builtin.zeroCells (Value.agg #[.int .i64 0, .int .i64 0]).cells (G - (n + 1))).toList := ⟨_, rfl⟩
  have hZl : Z.length = (n + 1 - i) * 2 := by rw [hZ]; simp [size_zeroCells, Value.cells]
  have hZl2 : Z2.length = (G - (n + 1)) * 2 := by rw [hZ2]; simp [size_zeroCells, Value.cells]
  have hTl : ((l.take i).flatMap Tm.cells).length = i * 2 := by rw [flat_len Tm.cells 2 Tm.len, List.length_take, hl]; omega
  obtain ⟨v, hv1⟩ : ∃ v : World, v = w.drew.alloc (.cells (((l.take i).flatMap Tm.cells).toArray ++ Builtin.zeroCells (Value.agg #[.int .i64 0, .int .i64 0]).cells (n + 1 - i) ++ Builtin.zeroCells (Value.agg #[.int .i64 0, .int .i64 0]).cells (G - (n + 1))) 196) := ⟨_, rfl⟩
  rw [← hv1] at hrz
  have hv2 : v = w.drew.alloc (.cells ((l.take i).flatMap Tm.cells ++ Z ++ Z2).toArray 196) := by
    rw [hv1, hZ, hZ2]
    congr 2
    apply Array.toList_inj.1
    simp
  have hrow : Row (paint c w.heap.size k) k v 196 2 (some ⟨w.heap.size, 0, none⟩) (n + 1) G ((l.take i).flatMap Tm.cells ++ Z) := by
    rw [hv2]
    refine ⟨by rw [List.length_append, hTl, hZl]; omega, hGn, hGm, rfl, paint_ge (Nat.le_refl _), _, heap_alloc_new w.drew _, by simp only [List.length_append, hTl, hZl, hZl2]; omega, ?_⟩
    rw [List.drop_zero, show (n + 1) * 2 = ((l.take i).flatMap Tm.cells ++ Z).length by rw [List.length_append, hTl, hZl]; omega]
    exact List.take_left
  obtain ⟨c1, hc1, A1⟩ := (show Stp (fun _ => False) c (paint c w.heap.size k) w v by rw [hv2]; exact (Stp.refl _ c w).drew.alloc _ k).name
  rw [← hc1.out] at hrow
  have V1 := hv.stp A1.out id
  have hmin : 1 = Nat.min 1 (n + 1 - i) := by simp only [Nat.min_def]; split <;> omega
  obtain ⟨v2, hrA, r2, s2, o2⟩ := run_copy_tm 3 hrow i (n + 1 - i) (G - i) ⟨vb, 0, none⟩ 1 1 1 y.cells hmin rfl (by omega) (fun j u hu => by rw [Addr.add_lit, Nat.zero_add, V1.cell]; exact hu) (by simp [Tm.cells, Value.oneCell'])
  rw [Nat.zero_add] at hrA
  have R2 := Lib.hid r2
  have S2 := Lib.hid ((A1.out.mono (J' := (· = k)) (fun _ h => h.elim)).trans s2)
  have hgne : g ≠ w.heap.size := by omega
  have hgv : v2.heap[g]? = w.heap[g]? := (o2 g (Nat.lt_of_lt_of_le hgl A1.out.size) (fun a ha => by cases ha; exact Ne.symm hgne)).trans (A1.out.block g hgl id)
  have hD := h.drop i (by omega)
  rw [← flat_drop] at hD
  have hnews : Hid (∀ j u, ((l.drop i).flatMap Tm.cells)[j]? = some u → v2.drew.cell? ((⟨g, off + i * 2, none⟩ : Addr).add j) = some u) := Lib.hid (fun j u hu => by
    obtain ⟨a, hae, _, hcc, _⟩ := hD.cell hu
    cases hae
    exact (World.cell?_of_block (w := w) (by rw [add_block]; exact hgv)).trans hcc)
  have hnl : Hid (((l.drop i).flatMap Tm.cells).length = (n - i) * 2) := Lib.hid (by rw [flat_len Tm.cells 2 Tm.len, List.length_drop, hl])
  have hmin2 : Hid (n - i = Nat.min (n - i) (n + 1 - (i + 1))) := Lib.hid (by simp only [Nat.min_def]; split <;> omega)
  have z1 : ¬ cap = i := by omega
  have z2 : ¬ G = i := by omega
  have z3 : ((i : Int) == (n : Int)) = false := by simp; omega
  have z4 : decide ((cap : Int) < (n : Int) + 1) = true := by simp; omega
  have z5 : i ≤ n := by omega
  have z6 : ¬ G = i + 1 := by omega
  have z7 : (i : Int) + 1 ≤ (n : Int) + 1 := by omega
  have z8 : (i : Int) ≤ (n : Int) + 1 := by omega
  have z9 : ¬ ((i : Int) = (n : Int)) := by omega
  have z10 : (i : Int) ≤ cap := by omega
  have ha : ((n : Int) + 1).toNat = n + 1 := by omega
  have hb : ((i : Int) + 1).toNat = i + 1 := by omega
  have hc0 : (0 : Int) ≤ (n : Int) + 1 := by omega
  have hc2 : (0 : Int) ≤ (i : Int) + 1 := by omega
  have hGx : G ≤ 9223372036854775807 := by simp only [maxLen] at hGm; omega
  have Hfin := Lib.hid (grow_eq (y := y) hl hi hZl)
  have Hi := Lib.hid hi
  clear hkk h hv hl hn hncap hi0 hz0 hzs hzb hcg hbk hgl hold hG hGm hZ hZ2 hZl hZl2 hTl hv1 hv2 hrow hc1 A1 V1 hmin r2 s2 o2 hgne hgv hD
  go_enter Tryz.func113, Tryz.ntmps113
  go_wp2_with (at_builtin; refine Lib.wpList_append_run _ rfl _ _ _ _ rfl _ _ rfl rfl _ _ (hrz _) ?_)
  go_region_law (refine step_copy rfl (.tmp 50) (.tmp 53) 131 rfl c1 k 196 2 Tryz.underlying131 (by kernel_rfl) w.heap.size 0 (n + 1) G _ R2.out.drew (i + 1) (n + 1 - (i + 1)) (G - (i + 1)) (by simp [Act.eval, Act.put]) ⟨g, off + i * 2, none⟩ (n - i) (cap - i) (n - i) ((l.drop i).flatMap Tm.cells) (by simp [Act.eval, Act.put]) hmin2.out hnl.out (by omega) hnews.out (tm_one _) ?_; intro w3 r3 s3 o3)
  all_goals
    have R3 := Lib.hid r3
    have S3 := Lib.hid ((S2.out.drew).trans s3)
    clear r3 s3 o3
    go_wp2
    go_ret
    refine ⟨_, _, rfl, c1, S3.out, ?_⟩
    have r := R3.out
    rw [Hfin.out] at r
    exact r

/-- slices.Insert of one timer. -/
theorem kinsert_any {c : Nat → Nat} {k : Nat} {w : World} {ao : Option Addr} {n cap i : Nat} {l : List Tm} {vb : Nat} {y : Tm} (h : Row c k w 196 2 ao n cap (l.flatMap Tm.cells)) (hl : l.length = n) (hv : Blk c 0 w vb y.cells 196) (hk : k ≠ 0) (hi : i ≤ n) (hn : (n : Int) ≤ 1000) :
    Calls Tryz.prog 113 #[.slice ao n cap, .int .i64 i, .slice (some ⟨vb, 0, none⟩) 1 1] w fun e w' => ∃ ao' cap', e = .returned (.slice ao' (n + 1) cap') ∧ ∃ c', Stp (· = k) c c' w w' ∧ Row c' k w' 196 2 ao' (n + 1) cap' ((l.take i ++ y :: l.drop i).flatMap Tm.cells) := by
  rcases Nat.lt_or_ge i n with hlt | hge
  · have hlx : i < l.length := by omega
    obtain ⟨a, rfl, hs, -⟩ := h.cell (j := i * 2) (v := .int .i64 (l[i]'hlx).at_) (by
      have := flat_get Tm.cells 2 Tm.len 0 (by decide) l i (l[i]'hlx) (List.getElem?_eq_getElem hlx)
      simpa [Tm.cells] using this)
    obtain ⟨g, off, sp⟩ := a
    simp only at hs
    subst hs
    by_cases hr : n + 1 ≤ cap
    · exact kinsert_shift h hl hv hk hlt hr hn
    · exact kinsert_grow h hl hv hlt (by omega) hn
  · obtain rfl : i = n := by omega
    rw [List.take_of_length_le (by omega), List.drop_of_length_le (by omega)]
    exact kinsert_end h hv hn
end Go.Proofs.YtiphdedfbafhkaaGreatDoor

namespace Go.Proofs.YtiphdedfbafhkaaGreatDoor
open Go.RowKit

/-- A timer put in, behind those that are not later. -/
def insT (y : Tm) (l : List Tm) : List Tm := l.take (l.findIdx (fun t => decide (y.at_ < t.at_))) ++ y :: l.drop (l.findIdx (fun t => decide (y.at_ < t.at_)))

set_option maxRecDepth 100000 in
set_option maxHeartbeats 2000000 in
theorem kset_any {c : Nat → Nat} {k : Nat} {w : World} {p : Nat} {now : Int} {l : List Tm} (h : ClockAt c k w p now l) (at_ who : Int) (h0 : now < at_) (h1 : at_ ≤ 1099511627776) (h2 : 0 ≤ who) (h3 : who < 64) (h4 : l.length < 64) :
    Calls Tryz.prog 63 #[.pointer (some ⟨p, 0, none⟩), .int .i64 at_, .int .i64 who] w fun e w' => e = .returned .nilIface ∧ ∃ c', Stp (KJ2 k) c c' w w' ∧ ClockAt c' k w' p now (insT ⟨at_, who⟩ l) := by
  obtain ⟨n, ao, cap, hc⟩ := h
  obtain ⟨c1, hc1, A1⟩ := ((Stp.refl (fun _ => False) c w).alloc (.cells #[.int .i64 at_] 2) 0).name
  have C1 := Lib.hid (show ClockIs c1 k (w.alloc (.cells #[.int .i64 at_] 2)) p now l n ao cap from ⟨hc.hb.stp A1.out id, hc.hr.stp A1.out id, hc.len⟩)
  have X1 := Lib.hid (show Blk c1 0 (w.alloc (.cells #[.int .i64 at_] 2)) w.heap.size [.int .i64 at_] 2 by rw [hc1.out]; exact Blk.new c 0 w _ _)
  have t0 : decide (at_ ≤ now) = false := by simp; omega
  have t1 : decide ((1099511627776 : Int) < at_) = false := by simp; omega
  have t2 : decide (who < 0) = false := by simp; omega
  have t3 : decide ((64 : Int) ≤ who) = false := by simp; omega
  have t4 : decide ((64 : Int) ≤ (n : Int)) = false := by have := hc.len; simp; omega
  have Hn := Lib.hid (show (n : Int) ≤ 1000 by have := hc.len; omega)
  clear hc hc1 h0 h1 h2 h3 h4
  go_enter Tryz.func63, Tryz.ntmps63
  go_wp2_with fail
  obtain ⟨w1, hw1⟩ : ∃ w1 : World, w1 = w.alloc (.cells #[.int .i64 at_] 2) := ⟨_, rfl⟩
  rw [← hw1] at A1 C1 X1 ⊢
  clear hw1
  have b0 := C1.out.hb.cell 0
  have b1 := C1.out.hb.cell 1
  have x0 := X1.out.cell 0
  simp at b0 b1 x0
  go_quiet (fail)
  clear b0 b1
  have D2 := Lib.hid (show Stp (fun _ => False) c1 c1 w1 (w1.drewN nq) from (Stp.refl _ _ _).drewN nq)
  obtain ⟨w2, hw2⟩ : ∃ w2 : World, w2 = w1.drewN nq := ⟨_, rfl⟩
  rw [← hw2] at D2 ⊢
  have C2 := Lib.hid (show ClockIs c1 k w2 p now l n ao cap from ⟨C1.out.hb.stp D2.out id, C1.out.hr.stp D2.out id, C1.out.len⟩)
  have X2 := Lib.hid (X1.out.stp D2.out id)
  have S2 := Lib.hid (A1.out.trans D2.out)
  have b1 := C2.out.hb.cell 1
  simp at b1
  clear hw2 x0 A1 C1 X1 D2
  go_wp2_with fail
  refine (kindex_set (x := at_) C2.out.hr.toIn C2.out.len (by simpa using X2.out.cell 0)).mono ?_
  rintro e w3 ⟨rfl, c3, s3⟩
  have C3 := Lib.hid (show ClockIs c3 k w3 p now l n ao cap from ⟨C2.out.hb.stp s3 id, C2.out.hr.stp s3 id, C2.out.len⟩)
  have X3 := Lib.hid (X2.out.stp s3 id)
  have S3 := Lib.hid (S2.out.trans s3)
  have b3 := C3.out.hb.cell 1
  have x3 := X3.out.cell 0
  have f3 := C3.out.hb.free 1
  have hp := C3.out.hb.lt
  simp at b3 x3
  clear s3 b1 C2 X2 S2
  obtain ⟨ix, hix⟩ : ∃ ix, ix = l.findIdx (fun t => decide (at_ < t.at_)) := ⟨_, rfl⟩
  have Hie := Lib.hid hix
  have Hix := Lib.hid (show ix ≤ n by rw [hix, ← C3.out.len]; exact List.findIdx_le_length)
  rcases (show (ixOfP l (fun t => decide (at_ < t.at_)) = -1 ∧ n = ix) ∨ ixOfP l (fun t => decide (at_ < t.at_)) = (ix : Int) by
    by_cases ha : l.any (fun t => decide (at_ < t.at_)) = true
    · exact .inr (by rw [ixOfP, if_pos ha, hix])
    · refine .inl ⟨by rw [ixOfP, if_neg ha], ?_⟩
      rw [hix, ← C3.out.len]
      refine Eq.symm ?_
      rw [List.findIdx_eq_length]
      intro x hx
      have hb : l.any (fun t => decide (at_ < t.at_)) = false := by simpa using ha
      exact (List.any_eq_false.1 hb x hx) |> fun h => by simpa using h) with ⟨hv, hixn⟩ | hv
  · rw [hv]
    subst hixn
    clear hix hv
    go_wp2_with fail
    go_region_with ((go_at_call 113; refine (kinsert_any (k := k + 1) (i := n) (C3.out.hr.drew.alloc (.cells #[.int .i64 at_, .int .i64 who] 196) 0) C3.out.len (y := ⟨at_, who⟩) (Blk.new c3 0 w3.drew [.int .i64 at_, .int .i64 who] 196) (Nat.succ_ne_zero _) Hix.out Hn.out).mono ?_; rintro e w4 ⟨ao4, cap4, rfl, c4, s4, r4⟩; have hb4 := (C3.out.hb.drew.alloc (.cells #[.int .i64 at_, .int .i64 who] 196) 0).stp s4 (show k ≠ k + 1 by omega); have k0 := hb4.cell 0; have k1 := hb4.cell 1; have g1 := hb4.free 1; simp at k0 k1))
    all_goals
      have S4 := Lib.hid (((S3.out.mono (J' := KJ2 k) (fun _ h => h.elim)).drew.alloc (.cells #[.int .i64 at_, .int .i64 who] 196) 0).trans (s4.mono (J' := KJ2 k) (fun _ h => .inr h)))
      have Hb4 := Lib.hid hb4
      have R4 := Lib.hid r4
      clear s4 r4 hb4 k0 k1 g1 b3 x3 f3
      go_wp2
      go_ret
      refine ⟨rfl, c4, S4.out.setCell _ (.inl Hb4.out.1), n + 1, ao4, cap4, by simpa using Hb4.out.set 1 (.slice ao4 (n + 1) cap4), ?_, by rw [insT, List.length_append, List.length_cons, List.length_take, List.length_drop, ← Hie.out, C3.out.len]; have := Hix.out; omega⟩
      rw [insT, ← Hie.out]
      exact R4.out.other _ (R4.out.ne_blk Hb4.out (by decide)) rfl
  · rw [hv]
    clear hix hv
    go_wp2_with fail
    go_region_with ((go_at_call 113; refine (kinsert_any (k := k + 1) (i := ix) (C3.out.hr.drew.alloc (.cells #[.int .i64 at_, .int .i64 who] 196) 0) C3.out.len (y := ⟨at_, who⟩) (Blk.new c3 0 w3.drew [.int .i64 at_, .int .i64 who] 196) (Nat.succ_ne_zero _) Hix.out Hn.out).mono ?_; rintro e w4 ⟨ao4, cap4, rfl, c4, s4, r4⟩; have hb4 := (C3.out.hb.drew.alloc (.cells #[.int .i64 at_, .int .i64 who] 196) 0).stp s4 (show k ≠ k + 1 by omega); have k0 := hb4.cell 0; have k1 := hb4.cell 1; have g1 := hb4.free 1; simp at k0 k1))
    all_goals
      have S4 := Lib.hid (((S3.out.mono (J' := KJ2 k) (fun _ h => h.elim)).drew.alloc (.cells #[.int .i64 at_, .int .i64 who] 196) 0).trans (s4.mono (J' := KJ2 k) (fun _ h => .inr h)))
      have Hb4 := Lib.hid hb4
      have R4 := Lib.hid r4
      clear s4 r4 hb4 k0 k1 g1 b3 x3 f3
      go_wp2
      go_ret
      refine ⟨rfl, c4, S4.out.setCell _ (.inl Hb4.out.1), n + 1, ao4, cap4, by simpa using Hb4.out.set 1 (.slice ao4 (n + 1) cap4), ?_, by rw [insT, List.length_append, List.length_cons, List.length_take, List.length_drop, ← Hie.out, C3.out.len]; have := Hix.out; omega⟩
      rw [insT, ← Hie.out]
      exact R4.out.other _ (R4.out.ne_blk Hb4.out (by decide)) rfl

end Go.Proofs.YtiphdedfbafhkaaGreatDoor

namespace Go.Proofs.YtiphdedfbafhkaaGreatDoor
open Go.RowKit

theorem run_clear_tm {w : World} {c : Nat → Nat} {k : Nat} (ty : TypeId) {g off n cap : Nat} {xs : List Value} (hrow : Row c k w 196 2 (some ⟨g, off, none⟩) n cap xs) (i dc : Nat) (hi : i < n) :
    ∃ w', (Builtin.clear_ #[131] ty #[.slice (some ⟨g, off + i * 2, none⟩) (n - i) dc]).run Tryz.prog w = .ok (.tuple #[]) w' ∧
      Row c k w' 196 2 (some ⟨g, off, none⟩) i cap (xs.take (i * 2)) ∧ Stp (· = k) c c w w' ∧ Others w w' (some ⟨g, off, none⟩) := by
  obtain ⟨hx1, hx2, hx3, hs, hc, cur, hb, hlc, hx⟩ := hrow
  simp only at hb hlc hx hc
  obtain ⟨Z, hZ⟩ : ∃ Z, Z = (Builtin.zeroCells (Value.agg #[.int .i64 0, .int .i64 0]).cells (n - i)).toList := ⟨_, rfl⟩
  have hZl : Z.length = (n - i) * 2 := by rw [hZ]; simp [size_zeroCells, Value.cells]
  have hZ1 : ∀ v ∈ Z, v.oneCell' = true := by
    intro v hv
    rw [hZ] at hv
    simp [Builtin.zeroCells, Value.cells] at hv
    obtain ⟨j, _, rfl⟩ := hv
    rcases Nat.mod_two_eq_zero_or_one j with h | h <;> simp [h, Value.oneCell']
  have hst := run_storeCells_at Tryz.prog g (off + i * 2) 196 Z 0 cur.toArray w hb (by simp; omega) hZ1
  simp only [Nat.add_zero] at hst
  obtain ⟨m, hm⟩ : ∃ m, n - i = m + 1 := ⟨n - i - 1, by omega⟩
  refine ⟨w.setRow g (cur.take (off + i * 2) ++ Z ++ cur.drop (off + i * 2 + Z.length)).toArray, ?_, ⟨by rw [List.length_take, hx1]; omega, by omega, hx3, hs, hc, _, setRow_heap w g cur.toArray _ _ _ hb, ?_, ?_⟩, (Stp.refl _ c w).setRow _ hc, fun j _ hn => setRow_other w g j _ (fun e => hn _ rfl e.symm)⟩
  · rw [hZ] at hst ⊢
    rw [hm] at hst ⊢
    simp [Builtin.clear_, run_underlying Tryz.underlying131, hst]
  · simp only [List.length_append, List.length_take, List.length_drop]; omega
  · simp only
    rw [← hx, List.take_take, Nat.min_eq_left (by omega), List.append_assoc, List.drop_append_of_le_length (by rw [List.length_take]; omega), List.drop_take, List.take_append_of_le_length (by rw [List.length_take, List.length_drop]; omega), List.take_take]
    congr 1
    omega

/-- Who stays. -/
def stays (x : Int) (t : Tm) : Bool := !(t.who == x)

def DelRel (c : Nat → Nat) (k : Nat) (w : World) (g off n cap : Nat) (l : List Tm) (x : Int) (iv jv : Value) (wr : World) : Prop :=
  ∃ (c' : Nat → Nat) (i j : Nat) (cur : List Tm), iv = .int .i64 i ∧ jv = .int .i64 j ∧ i < j ∧ j ≤ n ∧ cur.length = n ∧ cur.take i = (l.take j).filter (stays x) ∧ cur.drop j = l.drop j ∧
    Row c' k wr 196 2 (some ⟨g, off, none⟩) n cap (cur.flatMap Tm.cells) ∧ Stp (· = k) c c' w wr

theorem Row.setTm {c : Nat → Nat} {k : Nat} {w : World} {g off n cap : Nat} {l : List Tm} (h : Row c k w 196 2 (some ⟨g, off, none⟩) n cap (l.flatMap Tm.cells)) {i : Nat} (hi : i < l.length) (y : Tm) :
    Row c k ((w.setCell ⟨g, off + i * 2, none⟩ (.int .i64 y.at_)).setCell ⟨g, off + i * 2 + 1, none⟩ (.int .i64 y.who)) 196 2 (some ⟨g, off, none⟩) n cap ((l.set i y).flatMap Tm.cells) := by
  have hx : l[i]? = some (l[i]'hi) := List.getElem?_eq_getElem hi
  have h1 := h.setField (y := ⟨y.at_, (l[i]'hi).who⟩) Tm.len hx (f := 0) (v := .int .i64 y.at_) (by decide) rfl
  have h2 := h1.setField (j := i) (x := ⟨y.at_, (l[i]'hi).who⟩) (y := y) Tm.len (by simp [hi]) (f := 1) (v := .int .i64 y.who) (by decide) rfl
  rw [List.set_set] at h2
  rw [Nat.add_assoc]
  exact h2

set_option maxRecDepth 100000 in
set_option maxHeartbeats 2000000 in
theorem kdelete_some {c : Nat → Nat} {k : Nat} {w : World} {g off n cap : Nat} {l : List Tm} {b : Nat} {x : Int} (h : Row c k w 196 2 (some ⟨g, off, none⟩) n cap (l.flatMap Tm.cells)) (hln : l.length = n) (hk : k ≠ 0) (hb : Blk c 0 w b [.int .i64 x] 3) (hn : (n : Int) ≤ 1000) (hany : l.any (fun t => t.who == x) = true) :
    Calls Tryz.prog 109 #[.slice (some ⟨g, off, none⟩) n cap, .func (.func 110) #[] #[.pointer (some ⟨b, 0, none⟩)]] w fun e w' => ∃ m, e = .returned (.slice (some ⟨g, off, none⟩) m cap) ∧ m = (l.filter (stays x)).length ∧ ∃ c', Stp (· = k) c c' w w' ∧ Row c' k w' 196 2 (some ⟨g, off, none⟩) m cap ((l.filter (stays x)).flatMap Tm.cells) := by
  have hmax : cap ≤ 9223372036854775807 := by have := h.2.2.1; simp only [maxLen] at this; omega
  have hcap := h.2.1
  have H := Lib.hid h
  have Hb := Lib.hid hb
  have Hln := Lib.hid hln
  obtain ⟨ix, hix⟩ : ∃ ix, ix = l.findIdx (fun t => t.who == x) := ⟨_, rfl⟩
  have hv : ixOfP l (fun t => t.who == x) = (ix : Int) := by rw [ixOfP, if_pos hany, hix]
  have hixn : ix < n := by
    rw [hix, ← hln]
    obtain ⟨y, hy, hq⟩ := List.any_eq_true.1 hany
    exact List.findIdx_lt_length_of_exists ⟨y, hy, hq⟩
  have Hst : Hid (l.take ix = (l.take (ix + 1)).filter (stays x)) := Lib.hid (by
    have hlt : ix < l.length := by omega
    have hq : (fun t : Tm => t.who == x) (l[ix]'hlt) = true := by
      have := (List.findIdx_eq (p := fun t : Tm => t.who == x) hlt).1 hix.symm
      exact this.1
    have hno : ∀ t ∈ l.take ix, stays x t = true := by
      intro t ht
      have := (List.findIdx_eq (p := fun t : Tm => t.who == x) hlt).1 hix.symm
      obtain ⟨i, hi, rfl⟩ := List.mem_take_iff_getElem.1 ht
      have h2 := this.2 i (by omega)
      simp only [stays]
      rw [h2]; rfl
    rw [List.take_add_one, List.getElem?_eq_getElem hlt, List.filter_append, List.filter_eq_self.2 hno]
    have : stays x (l[ix]'hlt) = false := by simp only [stays]; simp only at hq; rw [hq]; rfl
    simp [this])
  have W0 : wrap64 ((ix : Int) + 1) = ix + 1 := IntWalk.wrap64_in _ ⟨by omega, by omega⟩
  have Hv := Lib.hid hv
  have hm1 : ((ix : Int) == -1) = false := by rw [beq_eq_false_iff_ne]; omega
  clear h hb hln hany hix hv
  go_enter Tryz.func109, Tryz.ntmps109
  go_wp2_with fail
  refine (kindex_drop (x := x) H.out.toIn Hln.out (by simpa using Hb.out.cell 0)).mono ?_
  rintro e w1 ⟨rfl, c1, s1⟩
  rw [Hv.out]
  have S1 := Lib.hid s1
  have H1 := Lib.hid (H.out.stp s1 id)
  clear s1
  go_wp2_with fail
  go_loopw [5, 6] (fun iv jv wr => DelRel c k w g off n cap l x iv jv wr) (fun _ jv _ => n - (intOf jv).toNat)
  case atStart => exact ⟨c1, ix, ix + 1, l, rfl, by go_num, by omega, by omega, Hln.out, Hst.out, rfl, H1.out, S1.out.mono (fun _ h => h.elim)⟩
  case round =>
    obtain ⟨c2, i, j, cur, rfl, rfl, hij, hjn, hcl, htk, hdr, hrow, st⟩ := hrel
    have R := Lib.hid hrow
    have St := Lib.hid st
    have Htk := Lib.hid htk
    have Hdr := Lib.hid hdr
    have Hcl := Lib.hid hcl
    clear hrow st htk hdr hcl S1 H1
    by_cases hlt : j < n
    · obtain ⟨y, hy⟩ : ∃ y, cur[j]? = some y := ⟨_, List.getElem?_eq_getElem (by rw [Hcl.out]; exact hlt)⟩
      obtain ⟨g2, off2, e2, y0, -, -⟩ := R.out.field Tm.len hy (f := 0) (v := .int .i64 y.at_) rfl
      cases e2
      obtain ⟨g3, off3, e3, y1, -, -⟩ := R.out.field Tm.len hy (f := 1) (v := .int .i64 y.who) rfl
      cases e3
      have y1' : wr.cell? ⟨g, off + j * 2 + 1, none⟩ = some (.int .i64 y.who) := by rw [Nat.add_assoc]; exact y1
      rw [Nat.add_zero] at y0
      have Hly : Hid (l[j]? = some y) := Lib.hid (by
        have h1 : (cur.drop j)[0]? = (l.drop j)[0]? := by rw [Hdr.out]
        rw [List.getElem?_drop, List.getElem?_drop] at h1
        simpa [hy] using h1.symm)
      have Hd1 : Hid (cur.drop (j + 1) = l.drop (j + 1)) := Lib.hid (by rw [← List.drop_drop, Hdr.out, List.drop_drop])
      obtain ⟨c3, hc3, A3⟩ := ((Stp.refl (fun _ => False) c2 wr).alloc (.cells #[.int .i64 y.at_, .int .i64 y.who] 196) 0).name
      have R3 := Lib.hid (R.out.stp A3.out id)
      have X3 := Lib.hid (show Blk c3 0 (wr.alloc (.cells #[.int .i64 y.at_, .int .i64 y.who] 196)) wr.heap.size [.int .i64 y.at_, .int .i64 y.who] 196 by rw [hc3.out]; exact Blk.new c2 0 wr _ _)
      have B3 := Lib.hid (((Hb.out.stp St.out (by simpa using Ne.symm hk)).stp A3.out id).cell 0)
      have S3 := Lib.hid (St.out.trans (A3.out.mono (fun _ h => h.elim)))
      clear hy y1 hc3 A3
      cases hq : (y.who == x)
      · have Hq := Lib.hid hq
        clear hq
        go_wp2_with fail
        refine (kdropf_any (c := c3) (by simpa using B3.out) y false Hq.out).mono ?_
        rintro e w4 ⟨rfl, c4, s4⟩
        have hi4 : i < cur.length := by rw [Hcl.out]; omega
        obtain ⟨z, hz⟩ : ∃ z, cur[i]? = some z := ⟨_, List.getElem?_eq_getElem hi4⟩
        have R4 := Lib.hid (R3.out.stp s4 id)
        obtain ⟨g4, off4, e4, q0, qf0, -⟩ := R4.out.field Tm.len hz (f := 0) (v := .int .i64 z.at_) rfl
        cases e4
        obtain ⟨g5, off5, e5, q1, qf1, -⟩ := R4.out.field Tm.len hz (f := 1) (v := .int .i64 z.who) rfl
        cases e5
        rw [Nat.add_zero] at q0 qf0
        rw [← Nat.add_assoc] at q1 qf1
        have X4 := X3.out.stp s4 id
        have x0 := X4.cell 0
        have x1 := X4.cell 1
        simp at x0 x1
        have S4 := Lib.hid (S3.out.trans (s4.mono (J' := (· = k)) (fun _ h => h.elim)))
        have Hi4 := Lib.hid hi4
        clear s4 y0 y1' X4 hz hi4
        go_wp2
        have S5 : Stp (· = k) c c4 w _ := (S4.out.setCell (p := ⟨g, off + i * 2, none⟩) (.int .i64 y.at_) R4.out.2.2.2.2.1).setCell (p := ⟨g, off + i * 2 + 1, none⟩) (.int .i64 y.who) R4.out.2.2.2.2.1
        go_roundw
        case rel => exact ⟨c4, i + 1, j + 1, cur.set i y, by go_num, by go_num, by omega, by omega, by rw [List.length_set]; exact Hcl.out, by
            have hsy : stays x y = true := by simp only [stays]; rw [Hq.out]; rfl
            have e1 : (l.take (j + 1)).filter (stays x) = cur.take i ++ [y] := by rw [List.take_add_one, Hly.out, List.filter_append, ← Htk.out]; simp [hsy]
            rw [e1, List.take_add_one, List.getElem?_set_self Hi4.out, List.take_set, List.set_eq_of_length_le (by rw [List.length_take]; omega)]
            rfl, by
            rw [List.drop_set, if_pos (by omega)]
            exact Hd1.out, R4.out.setTm Hi4.out y, S5⟩
        case measure => simp [intOf]; omega
      · have Hq := Lib.hid hq
        clear hq
        go_wp2_with fail
        refine (kdropf_any (c := c3) (by simpa using B3.out) y true Hq.out).mono ?_
        rintro e w4 ⟨rfl, c4, s4⟩
        have R4 := Lib.hid (R3.out.stp s4 id)
        have S4 := Lib.hid (S3.out.trans (s4.mono (J' := (· = k)) (fun _ h => h.elim)))
        clear s4 y0 y1'
        go_wp2
        go_roundw
        case rel => exact ⟨c4, i, j + 1, cur, rfl, by go_num, by omega, by omega, Hcl.out, by
            rw [List.take_add_one, Hly.out, List.filter_append, ← Htk.out]
            have : stays x y = false := by simp only [stays]; rw [Hq.out]; rfl
            simp [this], Hd1.out, R4.out, S4.out⟩
        case measure => simp [intOf]; omega
    · obtain rfl : j = n := by omega
      have hci : ¬ cap = i := by omega
      have hij2 : i ≤ j := by omega
      have hic : i ≤ cap := by omega
      obtain ⟨w3, hr3, r3, s3, -⟩ := run_clear_tm 0 R.out i (cap - i) hij
      have R3 := Lib.hid r3
      have S3 := Lib.hid (St.out.trans s3)
      clear r3 s3
      have e : (l.take j).filter (stays x) = l.filter (stays x) := by rw [List.take_of_length_le (by rw [Hln.out]; exact Nat.le_refl _)]
      have Hft : Hid (cur.take i = l.filter (stays x)) := Lib.hid (by rw [Htk.out, e])
      clear e
      go_wp2
      go_ret
      refine ⟨i, rfl, ?_, c2, S3.out, ?_⟩
      · rw [← Hft.out, List.length_take, Hcl.out]; omega
      · have r := R3.out
        rw [← flat_take, Hft.out] at r
        exact r

/-- slices.DeleteFunc of timers. -/
theorem kdelete_any {c : Nat → Nat} {k : Nat} {w : World} {ao : Option Addr} {n cap : Nat} {l : List Tm} {b : Nat} {x : Int} (h : Row c k w 196 2 ao n cap (l.flatMap Tm.cells)) (hln : l.length = n) (hk : k ≠ 0) (hb : Blk c 0 w b [.int .i64 x] 3) (hn : (n : Int) ≤ 1000) :
    Calls Tryz.prog 109 #[.slice ao n cap, .func (.func 110) #[] #[.pointer (some ⟨b, 0, none⟩)]] w fun e w' => ∃ m, e = .returned (.slice ao m cap) ∧ m = (l.filter (stays x)).length ∧ ∃ c', Stp (· = k) c c' w w' ∧ Row c' k w' 196 2 ao m cap ((l.filter (stays x)).flatMap Tm.cells) := by
  by_cases hany : l.any (fun t => t.who == x) = true
  · have hl0 : 0 < l.length := by
      obtain ⟨y, hy, _⟩ := List.any_eq_true.1 hany
      exact List.length_pos_of_mem hy
    obtain ⟨a, rfl, hs, -⟩ := h.cell (j := 0) (v := .int .i64 (l[0]'hl0).at_) (by
      have := flat_get Tm.cells 2 Tm.len 0 (by decide) l 0 (l[0]'hl0) (List.getElem?_eq_getElem hl0)
      simpa [Tm.cells] using this)
    obtain ⟨g, off, sp⟩ := a
    simp only at hs
    subst hs
    exact (kdelete_some h hln hk hb hn hany).mono fun e w' ⟨m, he, hr⟩ => ⟨m, he, hr⟩
  · have hall : ∀ t ∈ l, (t.who == x) = false := fun t ht => by
      have h1 : l.any (fun t => t.who == x) = false := by simpa using hany
      simpa using List.any_eq_false.1 h1 t ht
    have hf : l.filter (stays x) = l := List.filter_eq_self.2 fun t ht => by simp only [stays]; rw [hall t ht]; rfl
    rw [hf]
    have H := Lib.hid h
    have Hb := Lib.hid hb
    have Hln := Lib.hid hln
    have Hv := Lib.hid (ixOfP_none (q := fun t => t.who == x) hall)
    clear h hb hln hany hall hf
    go_enter Tryz.func109, Tryz.ntmps109
    go_wp2_with fail
    refine (kindex_drop (x := x) H.out.toIn Hln.out (by simpa using Hb.out.cell 0)).mono ?_
    rintro e w1 ⟨rfl, c1, s1⟩
    rw [Hv.out]
    have S1 := Lib.hid s1
    clear s1
    go_wp2
    go_ret
    exact ⟨n, rfl, Hln.out.symm, c1, S1.out.mono (fun _ h => h.elim), H.out.stp S1.out id⟩

theorem kdrop_any {c : Nat → Nat} {k : Nat} {w : World} {p : Nat} {now : Int} {l : List Tm} (h : ClockAt c k w p now l) (x : Int) (hl : (l.length : Int) ≤ 1000) :
    Calls Tryz.prog 62 #[.pointer (some ⟨p, 0, none⟩), .int .i64 x] w fun e w' => e = .returned (.int .i64 ((l.length : Int) - (l.filter (stays x)).length)) ∧ ∃ c', Stp (fun j => j = k ∨ j = k + 1) c c' w w' ∧ ClockAt c' k w' p now (l.filter (stays x)) := by
  obtain ⟨n, ao, cap, hc⟩ := h
  obtain ⟨c1, hc1, A1⟩ := ((Stp.refl (fun _ => False) c w).alloc (.cells #[.int .i64 x] 3) 0).name
  have C1 := Lib.hid (show ClockIs c1 k (w.alloc (.cells #[.int .i64 x] 3)) p now l n ao cap from ⟨hc.hb.stp A1.out id, hc.hr.stp A1.out id, hc.len⟩)
  have X1 := Lib.hid (show Blk c1 0 (w.alloc (.cells #[.int .i64 x] 3)) w.heap.size [.int .i64 x] 3 by rw [hc1.out]; exact Blk.new c 0 w _ _)
  have Hn := Lib.hid (show (n : Int) ≤ 1000 by have := hc.len; omega)
  obtain ⟨w1, hw1⟩ : ∃ w1 : World, w1 = w.alloc (.cells #[.int .i64 x] 3) := ⟨_, rfl⟩
  have hm : (l.filter (stays x)).length ≤ n := by rw [← hc.len]; exact List.length_filter_le _ _
  have W := Lib.hid (show wrap64 ((n : Int) - (l.filter (stays x)).length) = (n : Int) - (l.filter (stays x)).length from IntWalk.wrap64_in _ (by have := Hn.out; constructor <;> omega))
  have b1 : (w.alloc (.cells #[.int .i64 x] 3)).cell? ⟨p, 1, none⟩ = some (.slice ao n cap) := by simpa using C1.out.hb.cell 1
  have Hlen := Lib.hid hc.len
  clear hc hc1 hm hl
  rw [← hw1] at A1 C1 X1
  go_enter Tryz.func62, Tryz.ntmps62
  go_wp2_with fail
  rw [← hw1]
  refine (kdelete_any (k := k + 1) C1.out.hr C1.out.len (Nat.succ_ne_zero _) X1.out Hn.out).mono ?_
  rintro e w2 ⟨m, rfl, hm, c2, s2, r2⟩
  have hb2 := C1.out.hb.stp s2 (show k ≠ k + 1 by omega)
  have e0 := hb2.cell 0
  have e1 := hb2.cell 1
  have f1 := hb2.free 1
  simp at e0 e1
  have Hb2 := Lib.hid hb2
  have R2 := Lib.hid r2
  have S2 := Lib.hid ((A1.out.mono (J' := fun j => j = k ∨ j = k + 1) (fun _ h => h.elim)).trans (s2.mono (fun _ h => .inr h)))
  have Hm := Lib.hid hm
  clear hb2 s2 r2 hm b1 hw1
  go_wp2
  go_ret
  refine ⟨by rw [Hm.out, W.out, Hlen.out]; rfl, c2, S2.out.setCell _ (.inl Hb2.out.1), m, ao, cap, ?_, ?_, Hm.out.symm⟩
  · simpa using Hb2.out.set 1 (.slice ao m cap)
  · exact R2.out.other _ (R2.out.ne_blk Hb2.out (by decide)) rfl
end Go.Proofs.YtiphdedfbafhkaaGreatDoor
