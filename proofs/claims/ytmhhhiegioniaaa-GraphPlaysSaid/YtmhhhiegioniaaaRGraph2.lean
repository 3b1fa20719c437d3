/- The document's Drop, Link of a graph. No condition beyond each contract's own. -/
import Derived.Test.YtmhhhiegioniaaaRGraph
namespace Go.Proofs.Ytmhhhiegioniaaa
open Go.RowKit Go.Deep

/-- What the document's changes hand back: a graph, and what was wrong. -/
def RefPost (c : Nat → Nat) (k : Nat) (w : World) (S : GS) (er : Int) (e : Ending) (w' : World) : Prop :=
  ∃ vs n ao cap bo bcap, e = .returned (.tuple #[.agg #[.slice ao n cap, .slice bo n bcap], .int .i64 er]) ∧ ∃ c', Stp (GJ k) c c' w w' ∧ RefIs c' k w' S.1 S.2 vs n ao cap bo bcap

/-- Part of the way: the graph, its box, and the result's. -/
structure RTwo (c : Nat → Nat) (k : Nat) (w : World) (pb qb : Nat) (n0 : Nat) (ao0 : Option Addr) (cap0 : Nat) (bo0 : Option Addr) (bcap0 : Nat) (S : GS) (vs : List Value) (n : Nat) (ao : Option Addr) (cap : Nat) (bo : Option Addr) (bcap : Nat) (c' : Nat → Nat) (wr : World) : Prop where
  rf : RefIs c' k wr S.1 S.2 vs n ao cap bo bcap
  box : Blk c' (k + 70) wr pb [.slice ao0 n0 cap0, .slice bo0 n0 bcap0] 134
  res : Blk c' (k + 70) wr qb [.slice none 0 0, .slice none 0 0] 134
  st : Stp (GJ k) c c' w wr
  new : w.heap.size ≤ qb
  ne : pb < qb

section
variable {c : Nat → Nat} {k : Nat} {w : World} {pb qb : Nat} {n0 : Nat} {ao0 : Option Addr} {cap0 : Nat} {bo0 : Option Addr} {bcap0 : Nat} {S : GS} {vs : List Value} {n : Nat} {ao : Option Addr} {cap : Nat} {bo : Option Addr} {bcap : Nat} {c' c2 : Nat → Nat} {wr w2 : World}

theorem RTwo.start (h : RefIs c k w S.1 S.2 vs n ao cap bo bcap) :
    RTwo c k w w.heap.size (w.heap.size + 1) n ao cap bo bcap S vs n ao cap bo bcap (paint (paint c w.heap.size (k + 70)) (w.heap.size + 1) (k + 70)) ((w.alloc (.cells #[.slice ao n cap, .slice bo n bcap] 134)).alloc (.cells #[.slice none 0 0, .slice none 0 0] 134)) := by
  have s := ((Stp.refl (fun _ => False) c w).alloc (.cells #[.slice ao n cap, .slice bo n bcap] 134) (k + 70)).alloc (.cells #[.slice none 0 0, .slice none 0 0] 134) (k + 70)
  have e : (w.alloc (.cells #[.slice ao n cap, .slice bo n bcap] 134)).heap.size = w.heap.size + 1 := by simp
  rw [e] at s
  refine ⟨h.stp s (fun _ h => h.elim), ?_, ?_, s.mono (fun _ h => h.elim), by omega, by omega⟩
  · have := (Blk.new c (k + 70) w [.slice ao n cap, .slice bo n bcap] 134).alloc (.cells #[.slice none 0 0, .slice none 0 0] 134) (k + 70)
    rw [e] at this
    exact this
  · have := Blk.new (paint c w.heap.size (k + 70)) (k + 70) (w.alloc (.cells #[.slice ao n cap, .slice bo n bcap] 134)) [.slice none 0 0, .slice none 0 0] 134
    rw [e] at this
    exact this

theorem RTwo.stpF (h : RTwo c k w pb qb n0 ao0 cap0 bo0 bcap0 S vs n ao cap bo bcap c' wr) (s : Stp (fun _ => False) c' c2 wr w2) : RTwo c k w pb qb n0 ao0 cap0 bo0 bcap0 S vs n ao cap bo bcap c2 w2 :=
  ⟨h.rf.stp s (fun _ h => h.elim), h.box.stp s id, h.res.stp s id, h.st.trans (s.mono fun _ h => h.elim), h.new, h.ne⟩

theorem RTwo.facts (h : RTwo c k w pb qb n0 ao0 cap0 bo0 bcap0 S vs n ao cap bo bcap c' wr) : wr.cell? ⟨pb, 0, none⟩ = some (.slice ao0 n0 cap0) ∧ wr.cell? ⟨pb, 1, none⟩ = some (.slice bo0 n0 bcap0) ∧ wr.cell? ⟨qb, 0, none⟩ = some (.slice none 0 0) ∧ wr.cell? ⟨qb, 1, none⟩ = some (.slice none 0 0) ∧ wr.frozen? ⟨qb, 0, none⟩ = false ∧ wr.frozen? ⟨qb, 1, none⟩ = false ∧ pb < wr.heap.size ∧ qb < wr.heap.size ∧ pb ≠ qb :=
  ⟨by simpa using h.box.cell 0, by simpa using h.box.cell 1, by simpa using h.res.cell 0, by simpa using h.res.cell 1, h.res.free 0, h.res.free 1, h.box.lt, h.res.lt, by have := h.ne; omega⟩

theorem RTwo.fin (h : RTwo c k w pb qb n0 ao0 cap0 bo0 bcap0 S vs n ao cap bo bcap c' wr) (er : Int) :
    RefPost c k w S er (.returned (.tuple #[.agg #[.slice ao n cap, .slice bo n bcap], .int .i64 er])) ((wr.setCell ⟨qb, 0, none⟩ (.slice ao n cap)).setCell ⟨qb, 1, none⟩ (.slice bo n bcap)) := by
  have s := ((Stp.refl (· = k + 70) c' wr).setCell (p := ⟨qb, 0, none⟩) (.slice ao n cap) h.res.1).setCell (p := ⟨qb, 1, none⟩) (.slice bo n bcap) h.res.1
  exact ⟨_, _, _, _, _, _, rfl, c', (h.st.setNew (p := ⟨qb, 0, none⟩) _ h.new).setNew (p := ⟨qb, 1, none⟩) _ h.new, h.rf.stp s (fun j hj => by unfold GJ; omega)⟩
end

set_option maxRecDepth 100000 in
theorem r13drop_none {c : Nat → Nat} {k : Nat} {w : World} {S : GS} {vs : List Value} {n : Nat} {ao : Option Addr} {cap : Nat} {bo : Option Addr} {bcap : Nat} (h : RefIs c k w S.1 S.2 vs n ao cap bo bcap) (x : Int) (hx : hasB S.2 x = false) :
    Calls Try.prog 93 #[.agg #[.slice ao n cap, .slice bo n bcap], .int .i64 x] w (RefPost c k w S 3) := by
  have T1 := Lib.hid (RTwo.start h)
  have Hx := Lib.hid hx
  obtain ⟨pb, hpb⟩ : ∃ pb, pb = w.heap.size := ⟨_, rfl⟩
  obtain ⟨qb, hqb⟩ : ∃ qb, qb = w.heap.size + 1 := ⟨_, rfl⟩
  clear h hx
  go_enter Try.func93, Try.ntmps93
  go_wp2_with fail
  rw [← hqb, ← hpb] at T1
  rw [← hqb, ← hpb]
  clear hqb hpb
  refine (r13has_any T1.out.rf x false Hx.out).mono ?_
  rintro e w2 ⟨rfl, c2, s2⟩
  have T2 := Lib.hid (T1.out.stpF s2)
  obtain ⟨p0, p1, q0, q1, f0, f1, lp, lq, nq⟩ := T2.out.facts
  clear s2 T1
  go_wp2
  exact bodyPost_ret (v := .tuple #[.agg #[.slice ao n cap, .slice bo n bcap], .int .i64 3]) (by simp [results, Try.results93, go_sem, q0, q1]) rfl (T2.out.fin 3)

set_option maxRecDepth 100000 in
theorem r13drop_busy {c : Nat → Nat} {k : Nat} {w : World} {S : GS} {vs : List Value} {n : Nat} {ao : Option Addr} {cap : Nat} {bo : Option Addr} {bcap : Nat} (h : RefIs c k w S.1 S.2 vs n ao cap bo bcap) (x : Nat) (hx : hasB S.2 (x : Nat) = true) (hb : behindL S.1 x ≠ []) :
    Calls Try.prog 93 #[.agg #[.slice ao n cap, .slice bo n bcap], .int .i64 x] w (RefPost c k w S 18) := by
  have T1 := Lib.hid (RTwo.start h)
  have Hx := Lib.hid hx
  obtain ⟨B, hB⟩ : ∃ B, B = (behindL S.1 x).length := ⟨_, rfl⟩
  have hB0 : 0 < B := by rw [hB]; exact List.length_pos_iff.2 hb
  have hB1 : (0 : Int) < (B : Int) := by omega
  have HB := Lib.hid hB
  obtain ⟨pb, hpb⟩ : ∃ pb, pb = w.heap.size := ⟨_, rfl⟩
  obtain ⟨qb, hqb⟩ : ∃ qb, qb = w.heap.size + 1 := ⟨_, rfl⟩
  clear h hx hb hB hB0
  go_enter Try.func93, Try.ntmps93
  go_wp2_with fail
  rw [← hqb, ← hpb] at T1
  rw [← hqb, ← hpb]
  clear hqb hpb
  refine (r13has_any T1.out.rf (x : Nat) true Hx.out).mono ?_
  rintro e w2 ⟨rfl, c2, s2⟩
  have T2 := Lib.hid (T1.out.stpF s2)
  obtain ⟨p0, p1, q0, q1, f0, f1, lp, lq, nq⟩ := T2.out.facts
  clear s2 T1
  go_wp2_with fail
  refine (r13behind_p T2.out.rf x 0).mono ?_
  rintro e w3 ⟨ao3, cap3, rfl, c3, s3, -⟩
  rw [← HB.out]
  have T3 := Lib.hid (T2.out.stpF s3)
  clear p0 p1 q0 q1 f0 f1 lp lq nq T2 s3
  obtain ⟨p0, p1, q0, q1, f0, f1, lp, lq, nq⟩ := T3.out.facts
  go_wp2
  exact bodyPost_ret (v := .tuple #[.agg #[.slice ao n cap, .slice bo n bcap], .int .i64 18]) (by simp [results, Try.results93, go_sem, q0, q1]) rfl (T3.out.fin 18)

theorem RTwo.dropped {c : Nat → Nat} {k : Nat} {w : World} {pb qb n0 : Nat} {ao0 : Option Addr} {cap0 : Nat} {bo0 : Option Addr} {bcap0 : Nat} {S : GS} {vs : List Value} {n : Nat} {g off : Nat} {cap : Nat} {g2 off2 : Nat} {bcap : Nat} {c' : Nat → Nat} {wr : World}
    (h : RTwo c k w pb qb n0 ao0 cap0 bo0 bcap0 S vs n (some ⟨g, off, none⟩) cap (some ⟨g2, off2, none⟩) bcap c' wr) {x : Nat} (hx : x < n) :
    RTwo c k w pb qb n0 ao0 cap0 bo0 bcap0 (S.1.set x [], S.2.set x true) (vs.set x (.slice none 0 0)) n (some ⟨g, off, none⟩) cap (some ⟨g2, off2, none⟩) bcap c' ((wr.setCell ⟨g2, off2 + x, none⟩ (.bool true)).setCell ⟨g, off + x, none⟩ (.slice none 0 0)) := by
  have c2 : c' g2 = k + 2 := h.rf.hg.2.2.2.2.1
  have c1 : c' g = k + 1 := h.rf.ha.2.2.2.2.1
  have s := ((Stp.refl (GJ k) c' wr).setCell (p := ⟨g2, off2 + x, none⟩) (.bool true) (by simp only; rw [c2]; exact ⟨by omega, by omega⟩)).setCell (p := ⟨g, off + x, none⟩) (.slice none 0 0) (by simp only; rw [c1]; exact ⟨by omega, by omega⟩)
  exact ⟨(h.rf.setGone hx true).turn hx (Stp.refl _ _ _) (l := []) (Row.nil _ _ _ _ _), h.box.stp s (by unfold GJ; omega), h.res.stp s (by unfold GJ; omega), h.st.trans s, h.new, h.ne⟩

set_option maxRecDepth 100000 in
theorem r13drop_ok {c : Nat → Nat} {k : Nat} {w : World} {S : GS} {vs : List Value} {n : Nat} {ao : Option Addr} {cap : Nat} {bo : Option Addr} {bcap : Nat} (h : RefIs c k w S.1 S.2 vs n ao cap bo bcap) (x : Nat) (hx : hasB S.2 (x : Nat) = true) (hb : behindL S.1 x = []) :
    Calls Try.prog 93 #[.agg #[.slice ao n cap, .slice bo n bcap], .int .i64 x] w (RefPost c k w (S.1.set x [], S.2.set x true) 0) := by
  have T1 := Lib.hid (RTwo.start h)
  have Hx := Lib.hid hx
  have HB := Lib.hid (show (behindL S.1 x).length = 0 by rw [hb]; rfl)
  have hxn : x < n := by have := hasB_nat_lt hx; rw [h.lg] at this; exact this
  have Hxn := Lib.hid hxn
  have hl : (x : Int) < n := by omega
  have hle := h.le
  obtain ⟨pb, hpb⟩ : ∃ pb, pb = w.heap.size := ⟨_, rfl⟩
  obtain ⟨qb, hqb⟩ : ∃ qb, qb = w.heap.size + 1 := ⟨_, rfl⟩
  clear h hx hb hxn
  go_enter Try.func93, Try.ntmps93
  go_wp2_with fail
  rw [← hqb, ← hpb] at T1
  rw [← hqb, ← hpb]
  clear hqb hpb
  refine (r13has_any T1.out.rf (x : Nat) true Hx.out).mono ?_
  rintro e w2 ⟨rfl, c2, s2⟩
  have T2 := Lib.hid (T1.out.stpF s2)
  obtain ⟨p0, p1, q0, q1, f0, f1, lp, lq, nq⟩ := T2.out.facts
  clear s2 T1
  go_wp2_with fail
  refine (r13behind_p T2.out.rf x 0).mono ?_
  rintro e w3 ⟨ao3, cap3, rfl, c3, s3, -⟩
  rw [HB.out]
  have T3 := Lib.hid (T2.out.stpF s3)
  clear p0 p1 q0 q1 f0 f1 lp lq nq T2 s3
  obtain ⟨p0, p1, q0, q1, f0, f1, lp, lq, nq⟩ := T3.out.facts
  obtain ⟨g, off, oi, ci, rfl, hcg, hg, y0, yf, -⟩ := T3.out.rf.node Hxn.out
  obtain ⟨g2, off2, rfl, hcg2, hg2, z0, zf⟩ := T3.out.rf.bit Hxn.out
  have n1 : g ≠ g2 := by rintro rfl; omega
  have n2 : g ≠ pb := by rintro rfl; have := T3.out.box.1; omega
  have n3 : g2 ≠ pb := by rintro rfl; have := T3.out.box.1; omega
  have n4 : g ≠ qb := by rintro rfl; have := T3.out.res.1; omega
  have n5 : g2 ≠ qb := by rintro rfl; have := T3.out.res.1; omega
  have T4 := Lib.hid (T3.out.dropped Hxn.out)
  clear hcg hcg2 T3
  go_wp2
  exact bodyPost_ret (v := .tuple #[.agg #[.slice (some ⟨g, off, none⟩) n cap, .slice (some ⟨g2, off2, none⟩) n bcap], .int .i64 0]) (by simp [results, Try.results93, go_sem, q0, q1]) rfl (T4.out.fin 0)
end Go.Proofs.Ytmhhhiegioniaaa
