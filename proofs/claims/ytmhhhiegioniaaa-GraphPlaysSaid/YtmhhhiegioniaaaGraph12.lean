/- Of the graph's laws: what is done, read; small; Begun. No condition beyond each contract's own. -/
import Derived.Test.YtmhhhiegioniaaaGraph11
import Derived.Deep.DeepCutAuto
namespace Go.Proofs.Ytmhhhiegioniaaa
open Go.RowKit Go.Deep

/-- Something that is done to a graph. -/
structure Op13 where
  kd : Int
  a : Int
  b : Int
  lo : Option Addr
  ln : Nat
  lc : Nat
  l : List Int
def Op13.cells (x : Op13) : List Value := [.int .i64 x.kd, .int .i64 x.a, .int .i64 x.b, .slice x.lo x.ln x.lc]
theorem Op13.len (x : Op13) : x.cells.length = 4 := rfl
noncomputable def opS (S : GS) (x : Op13) : GS := if x.kd = 0 then addS S x.l else if x.kd = 1 then linkS S x.a x.b else if x.kd = 2 then dropS S x.a else S
theorem GoodS.op {S : GS} (h : GoodS S) (x : Op13) : GoodS (opS S x) := by
  unfold opS
  split
  · exact h.add _
  · split
    · exact h.link _ _
    · split
      · exact h.drop _
      · exact h
theorem GoodS.ops {S : GS} (h : GoodS S) (l : List Op13) : GoodS (l.foldl opS S) := by
  induction l generalizing S with
  | nil => exact h
  | cons x l ih => exact ih (h.op x)
def smallB (ops : List Op13) : Bool := ops.all (fun o => decide (o.ln ≤ 20)) && decide (ops.length ≤ 80)

/-- The four cells of something that is done. -/
theorem op13_cells {c : Nat → Nat} {w : World} {ao : Option Addr} {n cap : Nat} {ops : List Op13} (h : In c 0 w 4 ao n cap (ops.flatMap Op13.cells)) {j : Nat} {x : Op13} (hx : ops[j]? = some x) :
    ∃ a, ao = some a ∧ w.cell? (a.add (j * 4)) = some (.int .i64 x.kd) ∧ w.cell? ⟨(a.add (j * 4)).block, (a.add (j * 4)).off + 1, none⟩ = some (.int .i64 x.a) ∧ w.cell? ⟨(a.add (j * 4)).block, (a.add (j * 4)).off + 2, none⟩ = some (.int .i64 x.b) ∧ w.cell? ⟨(a.add (j * 4)).block, (a.add (j * 4)).off + 3, none⟩ = some (.slice x.lo x.ln x.lc) := by
  obtain ⟨a, ha, y0⟩ := h.field Op13.len hx (f := 0) (v := .int .i64 x.kd) rfl
  obtain ⟨a1, ha1, y1⟩ := h.field Op13.len hx (f := 1) (v := .int .i64 x.a) rfl
  obtain ⟨a2, ha2, y2⟩ := h.field Op13.len hx (f := 2) (v := .int .i64 x.b) rfl
  obtain ⟨a3, ha3, y3⟩ := h.field Op13.len hx (f := 3) (v := .slice x.lo x.ln x.lc) rfl
  subst ha
  cases ha1
  cases ha2
  cases ha3
  refine ⟨a, rfl, by simpa using y0, ?_, ?_, ?_⟩
  · rw [← add_add'] at y1; exact y1
  · rw [← add_add'] at y2; exact y2
  · rw [← add_add'] at y3; exact y3

set_option maxRecDepth 100000 in
theorem small13_any {c : Nat → Nat} {w : World} {ao : Option Addr} {n cap : Nat} {ops : List Op13} (h : In c 0 w 4 ao n cap (ops.flatMap Op13.cells)) (hlen : ops.length = n) (b : Bool) (hb : smallB ops = b) :
    Calls Try.prog 76 #[.slice ao n cap] w fun e w' => e = .returned (.bool b) ∧ ∃ c', Stp (fun _ => False) c c' w w' := by
  have hm : n ≤ 9223372036854775807 := by have h1 := h.2.1; have h2 := h.2.2.1; simp only [maxLen] at h2; omega
  have H := Lib.hid h
  have Hlen := Lib.hid hlen
  have Hb := Lib.hid hb
  clear h hlen hb
  go_enter Try.func76, Try.ntmps76
  go_wp2
  go_loopw [7] (fun i wr => ∃ (c' : Nat → Nat) (j : Nat), i = .int .i64 j ∧ j ≤ n ∧ Stp (fun _ => False) c c' w wr ∧ Hid (∀ o ∈ ops.take j, o.ln ≤ 20)) (fun i _ => n - (intOf i).toNat)
  case atStart => exact ⟨c, 0, rfl, Nat.zero_le _, Stp.refl _ _ _, Lib.hid (by simp)⟩
  case round =>
    obtain ⟨c1, j, rfl, hj, st, HS⟩ := hrel
    have St := Lib.hid st
    clear st
    by_cases hlt : j < n
    · have hil : j < ops.length := by rw [Hlen.out]; exact hlt
      obtain ⟨x, hx⟩ : ∃ x, ops[j]? = some x := ⟨_, List.getElem?_eq_getElem hil⟩
      obtain ⟨a, ha, y0, y1, y2, y3⟩ := op13_cells (H.out.stp St.out id) hx
      subst ha
      have Hxm := Lib.hid (List.mem_of_getElem? hx)
      have Htk := Lib.hid (show ops.take (j + 1) = ops.take j ++ [x] by
        rw [List.take_succ_eq_append_getElem hil, (List.getElem?_eq_some_iff.1 hx).2])
      have St2 := Lib.hid (St.out.alloc (.cells #[.int .i64 x.kd, .int .i64 x.a, .int .i64 x.b, .slice x.lo x.ln x.lc] 136) 0)
      obtain ⟨kd, xa, xb, lo, ln, lc, l⟩ := x
      simp only at y0 y1 y2 y3 St2 ⊢
      clear hx hil St
      by_cases hs : ln ≤ 20
      · have t : decide ((20 : Int) < (ln : Int)) = false := by simp; omega
        have HS2 := Lib.hid (show ∀ o ∈ ops.take (j + 1), o.ln ≤ 20 from fun o ho => by
          rw [Htk.out] at ho
          rcases List.mem_append.1 ho with ho | ho
          · exact HS.out o ho
          · simp at ho; subst ho; exact hs)
        clear hs
        go_wp2
        go_roundw
        case rel => exact ⟨_, j + 1, by go_num, by omega, St2.out, HS2⟩
        case measure => simp [intOf]; omega
      · have t : decide ((20 : Int) < (ln : Int)) = true := by simp; omega
        have Hf := Lib.hid (show b = false by
          rw [← Hb.out, smallB, Bool.and_eq_false_iff]
          left
          rw [List.all_eq_false]
          exact ⟨_, Hxm.out, by simpa using hs⟩)
        clear hs
        go_wp2
        go_ret
        rw [Hf.out]
        exact ⟨rfl, _, St2.out⟩
    · have Hn := Lib.hid (show decide ((n : Int) ≤ 80) = b by
        rw [← Hb.out, smallB, Hlen.out, show ops.all (fun o => decide (o.ln ≤ 20)) = true from by
          rw [List.all_eq_true]
          intro o ho
          have := HS.out o (by rw [List.take_of_length_le (by rw [Hlen.out]; omega)]; exact ho)
          simpa using this]
        rw [Bool.true_and, decide_eq_decide]
        omega)
      go_wp2
      go_ret
      rw [← Hn.out]
      exact ⟨by simp, _, St.out⟩

/-- A graph behind what was done. -/
def BRel (c : Nat → Nat) (k : Nat) (w : World) (p n : Nat) (ops : List Op13) (i : Value) (wr : World) : Prop :=
  ∃ (c' : Nat → Nat) (j : Nat) (S : GS), i = .int .i64 j ∧ j ≤ n ∧ (ops.take j).foldl opS ([], []) = S ∧ GoodS S ∧ Stp (GJ k) c c' w wr ∧ GrAt c' k wr p S

set_option maxRecDepth 100000 in
set_option maxHeartbeats 1000000 in
theorem begun13_any {c : Nat → Nat} {k : Nat} {w : World} {ao : Option Addr} {n cap : Nat} {ops : List Op13} (h : In c 0 w 4 ao n cap (ops.flatMap Op13.cells)) (hlen : ops.length = n) (hs : smallB ops = true) (hin : ∀ x ∈ ops, In c 0 w 1 x.lo x.ln x.lc (x.l.map (Value.int .i64))) (hk : 0 < k) :
    Calls Try.prog 78 #[.slice ao n cap] w fun e w' => ∃ p, e = .returned (.pointer (some ⟨p, 0, none⟩)) ∧ ∃ c', Stp (GJ k) c c' w w' ∧ GrAt c' k w' p (ops.foldl opS ([], [])) := by
  have hn80 : n ≤ 80 := by
    rw [smallB, Bool.and_eq_true, decide_eq_true_eq] at hs
    omega
  have Hsm := Lib.hid (show ∀ x ∈ ops, x.ln ≤ 20 from fun x hx => by
    rw [smallB, Bool.and_eq_true, List.all_eq_true] at hs
    simpa using hs.1 x hx)
  have H := Lib.hid h
  have Hlen := Lib.hid hlen
  have Hin := Lib.hid hin
  have Hk := Lib.hid (show ¬ GJ k 0 from fun hh => by have := hh.1; omega)
  clear h hlen hs hin hk
  go_enter Try.func78, Try.ntmps78
  go_wp2_with fail
  refine (graph_new c k w).mono ?_
  rintro e w1 ⟨rfl, c1, s1, g1⟩
  obtain ⟨p, hp⟩ : ∃ p, p = w.heap.size := ⟨_, rfl⟩
  rw [← hp] at g1 ⊢
  have G1 := Lib.hid (show GrAt c1 k w1 p ([], []) from g1)
  have S1 := Lib.hid (show Stp (GJ k) c c1 w w1 from stpF s1)
  clear g1 s1 hp
  go_wp2
  go_loopw [9] (fun i wr => BRel c k w p n ops i wr) (fun i _ => n - (intOf i).toNat)
  case atStart => exact ⟨c1, 0, _, rfl, Nat.zero_le _, rfl, Good.empty, S1.out, G1.out⟩
  case round =>
    obtain ⟨c2, j, S, rfl, hj, hf, hg, st, hgr⟩ := hrel
    have Hf := Lib.hid hf
    have Hg := Lib.hid hg
    have St := Lib.hid st
    have Gr := Lib.hid hgr
    clear hf hg st hgr G1 S1
    by_cases hlt : j < n
    · have hil : j < ops.length := by rw [Hlen.out]; exact hlt
      obtain ⟨x, hx⟩ : ∃ x, ops[j]? = some x := ⟨_, List.getElem?_eq_getElem hil⟩
      obtain ⟨a, ha, y0, y1, y2, y3⟩ := op13_cells (H.out.stp St.out Hk.out) hx
      subst ha
      have Hxm := Lib.hid (List.mem_of_getElem? hx)
      have hln := Hsm.out x (List.mem_of_getElem? hx)
      have Hf2 := Lib.hid (show (ops.take (j + 1)).foldl opS ([], []) = opS S x by
        rw [List.take_succ_eq_append_getElem hil, (List.getElem?_eq_some_iff.1 hx).2, List.foldl_append, Hf.out]; rfl)
      have Hg2 := Lib.hid (Hg.out.op x)
      obtain ⟨c3, hc3, A3⟩ := ((Stp.refl (fun _ => False) c2 wr).alloc (.cells #[.int .i64 x.kd, .int .i64 x.a, .int .i64 x.b, .slice x.lo x.ln x.lc] 136) 0).name
      have St2 := Lib.hid (St.out.trans (stpF A3.out))
      have Gr2 := Lib.hid (Gr.out.stp A3.out (fun _ h => h.elim))
      have In2 := Lib.hid ((Hin.out x Hxm.out).stp St2.out Hk.out)
      obtain ⟨kd, xa, xb, lo, ln, lc, l⟩ := x
      simp only at y0 y1 y2 y3 St2 hln Gr2 In2 ⊢
      clear hx hil St A3 hc3 Gr
      rcases (show kd = 0 ∨ kd = 1 ∨ kd = 2 ∨ (kd ≠ 0 ∧ kd ≠ 1 ∧ kd ≠ 2) by omega) with rfl | rfl | rfl | ⟨h0, h1, h2⟩
      · go_wp2_with fail
        refine (gradd_all Gr2.out In2.out Hk.out (by omega)).mono ?_
        rintro e w5 ⟨v, ev, rfl, c5, s5, g5, -, -, -⟩
        have S5 := Lib.hid (St2.out.trans s5)
        have G5 := Lib.hid g5
        clear s5 g5
        go_wp2
        go_roundw
        case rel => exact ⟨c5, j + 1, _, by go_num, by omega, Hf2.out, Hg2.out, S5.out, G5.out⟩
        case measure => simp [intOf]; omega
      · go_wp2_with fail
        refine (grlink_all Gr2.out Hg.out xa xb).mono ?_
        rintro e w5 ⟨ev, rfl, c5, s5, g5, -⟩
        have S5 := Lib.hid (St2.out.trans s5)
        have G5 := Lib.hid g5
        clear s5 g5
        go_wp2
        go_roundw
        case rel => exact ⟨c5, j + 1, _, by go_num, by omega, Hf2.out, Hg2.out, S5.out, G5.out⟩
        case measure => simp [intOf]; omega
      · go_wp2_with fail
        refine (grdrop_all Gr2.out xa).mono ?_
        rintro e w5 ⟨ev, rfl, c5, s5, g5, -⟩
        have S5 := Lib.hid (St2.out.trans s5)
        have G5 := Lib.hid g5
        clear s5 g5
        go_wp2
        go_roundw
        case rel => exact ⟨c5, j + 1, _, by go_num, by omega, Hf2.out, Hg2.out, S5.out, G5.out⟩
        case measure => simp [intOf]; omega
      · have t0 : (kd == 0) = false := by simpa using h0
        have t1 : (kd == 1) = false := by simpa using h1
        have t2 : (kd == 2) = false := by simpa using h2
        have Ho := Lib.hid (show opS S ⟨kd, xa, xb, lo, ln, lc, l⟩ = S by rw [opS, if_neg h0, if_neg h1, if_neg h2])
        clear h0 h1 h2
        go_wp2
        go_roundw
        case rel => exact ⟨c3, j + 1, _, by go_num, by omega, Hf2.out, Hg2.out, St2.out, by rw [Ho.out]; exact Gr2.out⟩
        case measure => simp [intOf]; omega
    · have Hall := Lib.hid (show ops.foldl opS ([], []) = S by
        rw [← Hf.out, List.take_of_length_le (by rw [Hlen.out]; omega)])
      go_wp2
      go_ret
      rw [Hall.out]
      exact ⟨p, rfl, c2, St.out, Gr.out⟩

theorem flat_one (l : List Int) : l.flatMap (fun x => [Value.int .i64 x]) = l.map (Value.int .i64) := by
  induction l with
  | nil => rfl
  | cons x l ih => rw [List.flatMap_cons, ih]; rfl

theorem dec_op13 {H : Type} {enc : TypeId × Value → H} {w : World} {base : Nat} {spare : Nat → Bool} {held : Bool} (n : Nat) (cs : List Value) (y : DataW H × List MemPlace) (h : DataW.trod enc Try.prog w base spare held n 136 cs = some y) : ∃ x : Op13, cs = x.cells ∧ In (fun _ => 0) 0 w 1 x.lo x.ln x.lc (x.l.map (Value.int .i64)) := by
  obtain ⟨hl, n', hf⟩ := dec_fields Try.underlying136 (by kernel_rfl) (by kernel_rfl) h
  obtain ⟨v0, z0, c0, t0⟩ := hf 0 _ rfl
  obtain ⟨v1, z1, c1, t1⟩ := hf 1 _ rfl
  obtain ⟨v2, z2, c2, t2⟩ := hf 2 _ rfl
  obtain ⟨v3, z3, c3, t3⟩ := hf 3 _ rfl
  obtain ⟨x0, e0, _, _⟩ := DataW.trod_int Try.underlying3 t0
  obtain ⟨x1, e1, _, _⟩ := DataW.trod_int Try.underlying3 t1
  obtain ⟨x2, e2, _, _⟩ := DataW.trod_int Try.underlying3 t2
  obtain ⟨lo, ln, lc, l, e3, hin, _, _⟩ := open_in (en := fun x => [Value.int .i64 x]) (good := fun _ => True) Try.underlying40 (by kernel_rfl) (fun _ => rfl) (by decide)
    (fun n cs' y hy => by obtain ⟨x, rfl, _, _⟩ := DataW.trod_int Try.underlying3 hy; exact ⟨x, rfl, trivial⟩) t3
  rw [flat_one] at hin
  match cs, hl with
  | [a, b, c, d], _ =>
    simp at c0 c1 c2 c3 e0 e1 e2 e3
    subst c0 c1 c2 c3 e0 e1 e2 e3
    exact ⟨⟨x0, x1, x2, lo, ln, lc, l⟩, rfl, hin⟩
end Go.Proofs.Ytmhhhiegioniaaa
