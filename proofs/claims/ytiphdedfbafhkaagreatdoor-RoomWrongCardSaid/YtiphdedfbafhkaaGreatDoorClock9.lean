/- Contracts of slices.DeleteFunc of timers and of the clock's Drop. No condition beyond each contract's own. -/
import Derived.Test.YtiphdedfbafhkaaGreatDoorClock6
namespace Go.Proofs.YtiphdedfbafhkaaGreatDoor
open Go.RowKit

theorem run_clear_tm {w : World} {c : Nat → Nat} {k : Nat} (ty : TypeId) {g off n cap : Nat} {xs : List Value} (hrow : Row c k w 196 2 (some ⟨g, off, none⟩) n cap xs) (i dc : Nat) (hi : i < n) :
    ∃ w', (Builtin.clear_ #[131] ty #[.slice (some ⟨g, off + i * 2, none⟩) (n - i) dc]).run Tryz.prog w = .ok (.tuple #[]) w' ∧
      Row c k w' 196 2 (some ⟨g, off, none⟩) i cap (xs.take (i * 2)) ∧ Stp (· = k) c c w w' ∧ Others w w' (some ⟨g, off, none⟩) := by
  obtain ⟨hx1, hx2, hx3, hs, hc, cur, hb, hlc, hx⟩ := hrow
  simp only at hb hlc hx hc
  obtain ⟨Z, hZ⟩ : ∃ Z, Z = (Builtin.zeroCells (Value.agg #[.int .i64 0, .int .i64 0]).cells (n - i)).toList := ⟨_, rfl⟩
  have hZl : Z.length = (n - i) * 2 := by rw [hZ]; simp [size_zeroCells, Value.cells]
  have hZ1 : ∀ v ∈ Z, v.oneCell' = true := by
    intro v hv
    rw [hZ] at hv
    simp [Builtin.zeroCells, Value.cells] at hv
    obtain ⟨j, _, rfl⟩ := hv
    rcases Nat.mod_two_eq_zero_or_one j with h | h <;> simp [h, Value.oneCell']
  have hst := run_storeCells_at Tryz.prog g (off + i * 2) 196 Z 0 cur.toArray w hb (by simp; omega) hZ1
  simp only [Nat.add_zero] at hst
  obtain ⟨m, hm⟩ : ∃ m, n - i = m + 1 := ⟨n - i - 1, by omega⟩
  refine ⟨w.setRow g (cur.take (off + i * 2) ++ Z ++ cur.drop (off + i * 2 + Z.length)).toArray, ?_, ⟨by rw [List.length_take, hx1]; omega, by omega, hx3, hs, hc, _, setRow_heap w g cur.toArray _ _ _ hb, ?_, ?_⟩, (Stp.refl _ c w).setRow _ hc, fun j _ hn => setRow_other w g j _ (fun e => hn _ rfl e.symm)⟩
  · rw [hZ] at hst ⊢
    rw [hm] at hst ⊢
    simp [Builtin.clear_, run_underlying Tryz.underlying131, hst]
  · simp only [List.length_append, List.length_take, List.length_drop]; omega
  · simp only
    rw [← hx, List.take_take, Nat.min_eq_left (by omega), List.append_assoc, List.drop_append_of_le_length (by rw [List.length_take]; omega), List.drop_take, List.take_append_of_le_length (by rw [List.length_take, List.length_drop]; omega), List.take_take]
    congr 1
    omega

/-- Who stays. -/
def stays (x : Int) (t : Tm) : Bool := !(t.who == x)

def DelRel (c : Nat → Nat) (k : Nat) (w : World) (g off n cap : Nat) (l : List Tm) (x : Int) (iv jv : Value) (wr : World) : Prop :=
  ∃ (c' : Nat → Nat) (i j : Nat) (cur : List Tm), iv = .int .i64 i ∧ jv = .int .i64 j ∧ i < j ∧ j ≤ n ∧ cur.length = n ∧ cur.take i = (l.take j).filter (stays x) ∧ cur.drop j = l.drop j ∧
    Row c' k wr 196 2 (some ⟨g, off, none⟩) n cap (cur.flatMap Tm.cells) ∧ Stp (· = k) c c' w wr

theorem Row.setTm {c : Nat → Nat} {k : Nat} {w : World} {g off n cap : Nat} {l : List Tm} (h : Row c k w 196 2 (some ⟨g, off, none⟩) n cap (l.flatMap Tm.cells)) {i : Nat} (hi : i < l.length) (y : Tm) :
    Row c k ((w.setCell ⟨g, off + i * 2, none⟩ (.int .i64 y.at_)).setCell ⟨g, off + i * 2 + 1, none⟩ (.int .i64 y.who)) 196 2 (some ⟨g, off, none⟩) n cap ((l.set i y).flatMap Tm.cells) := by
  have hx : l[i]? = some (l[i]'hi) := List.getElem?_eq_getElem hi
  have h1 := h.setField (y := ⟨y.at_, (l[i]'hi).who⟩) Tm.len hx (f := 0) (v := .int .i64 y.at_) (by decide) rfl
  have h2 := h1.setField (j := i) (x := ⟨y.at_, (l[i]'hi).who⟩) (y := y) Tm.len (by simp [hi]) (f := 1) (v := .int .i64 y.who) (by decide) rfl
  rw [List.set_set] at h2
  rw [Nat.add_assoc]
  exact h2

set_option maxRecDepth 100000 in
set_option maxHeartbeats 2000000 in
theorem kdelete_some {c : Nat → Nat} {k : Nat} {w : World} {g off n cap : Nat} {l : List Tm} {b : Nat} {x : Int} (h : Row c k w 196 2 (some ⟨g, off, none⟩) n cap (l.flatMap Tm.cells)) (hln : l.length = n) (hk : k ≠ 0) (hb : Blk c 0 w b [.int .i64 x] 3) (hn : (n : Int) ≤ 1000) (hany : l.any (fun t => t.who == x) = true) :
    Calls Tryz.prog 109 #[.slice (some ⟨g, off, none⟩) n cap, .func (.func 110) #[] #[.pointer (some ⟨b, 0, none⟩)]] w fun e w' => ∃ m, e = .returned (.slice (some ⟨g, off, none⟩) m cap) ∧ m = (l.filter (stays x)).length ∧ ∃ c', Stp (· = k) c c' w w' ∧ Row c' k w' 196 2 (some ⟨g, off, none⟩) m cap ((l.filter (stays x)).flatMap Tm.cells) := by
  have hmax : cap ≤ 9223372036854775807 := by have := h.2.2.1; simp only [maxLen] at this; omega
  have hcap := h.2.1
  have H := Lib.hid h
  have Hb := Lib.hid hb
  have Hln := Lib.hid hln
  obtain ⟨ix, hix⟩ : ∃ ix, ix = l.findIdx (fun t => t.who == x) := ⟨_, rfl⟩
  have hv : ixOfP l (fun t => t.who == x) = (ix : Int) := by rw [ixOfP, if_pos hany, hix]
  have hixn : ix < n := by
    rw [hix, ← hln]
    obtain ⟨y, hy, hq⟩ := List.any_eq_true.1 hany
    exact List.findIdx_lt_length_of_exists ⟨y, hy, hq⟩
  have Hst : Hid (l.take ix = (l.take (ix + 1)).filter (stays x)) := Lib.hid (by
    have hlt : ix < l.length := by omega
    have hq : (fun t : Tm => t.who == x) (l[ix]'hlt) = true := by
      have := (List.findIdx_eq (p := fun t : Tm => t.who == x) hlt).1 hix.symm
      exact this.1
    have hno : ∀ t ∈ l.take ix, stays x t = true := by
      intro t ht
      have := (List.findIdx_eq (p := fun t : Tm => t.who == x) hlt).1 hix.symm
      obtain ⟨i, hi, rfl⟩ := List.mem_take_iff_getElem.1 ht
      have h2 := this.2 i (by omega)
      simp only [stays]
      rw [h2]; rfl
    rw [List.take_add_one, List.getElem?_eq_getElem hlt, List.filter_append, List.filter_eq_self.2 hno]
    have : stays x (l[ix]'hlt) = false := by simp only [stays]; simp only at hq; rw [hq]; rfl
    simp [this])
  have W0 : wrap64 ((ix : Int) + 1) = ix + 1 := IntWalk.wrap64_in _ ⟨by omega, by omega⟩
  have Hv := Lib.hid hv
  have hm1 : ((ix : Int) == -1) = false := by rw [beq_eq_false_iff_ne]; omega
  clear h hb hln hany hix hv
  go_enter Tryz.func109, Tryz.ntmps109
  go_wp2_with fail
  refine (kindex_drop (x := x) H.out.toIn Hln.out (by simpa using Hb.out.cell 0)).mono ?_
  rintro e w1 ⟨rfl, c1, s1⟩
  rw [Hv.out]
  have S1 := Lib.hid s1
  have H1 := Lib.hid (H.out.stp s1 id)
  clear s1
  go_wp2_with fail
  go_loopw [5, 6] (fun iv jv wr => DelRel c k w g off n cap l x iv jv wr) (fun _ jv _ => n - (intOf jv).toNat)
  case atStart => exact ⟨c1, ix, ix + 1, l, rfl, by go_num, by omega, by omega, Hln.out, Hst.out, rfl, H1.out, S1.out.mono (fun _ h => h.elim)⟩
  case round =>
    obtain ⟨c2, i, j, cur, rfl, rfl, hij, hjn, hcl, htk, hdr, hrow, st⟩ := hrel
    have R := Lib.hid hrow
    have St := Lib.hid st
    have Htk := Lib.hid htk
    have Hdr := Lib.hid hdr
    have Hcl := Lib.hid hcl
    clear hrow st htk hdr hcl S1 H1
    by_cases hlt : j < n
    · obtain ⟨y, hy⟩ : ∃ y, cur[j]? = some y := ⟨_, List.getElem?_eq_getElem (by rw [Hcl.out]; exact hlt)⟩
      obtain ⟨g2, off2, e2, y0, -, -⟩ := R.out.field Tm.len hy (f := 0) (v := .int .i64 y.at_) rfl
      cases e2
      obtain ⟨g3, off3, e3, y1, -, -⟩ := R.out.field Tm.len hy (f := 1) (v := .int .i64 y.who) rfl
      cases e3
      have y1' : wr.cell? ⟨g, off + j * 2 + 1, none⟩ = some (.int .i64 y.who) := by rw [Nat.add_assoc]; exact y1
      rw [Nat.add_zero] at y0
      have Hly : Hid (l[j]? = some y) := Lib.hid (by
        have h1 : (cur.drop j)[0]? = (l.drop j)[0]? := by rw [Hdr.out]
        rw [List.getElem?_drop, List.getElem?_drop] at h1
        simpa [hy] using h1.symm)
      have Hd1 : Hid (cur.drop (j + 1) = l.drop (j + 1)) := Lib.hid (by rw [← List.drop_drop, Hdr.out, List.drop_drop])
      obtain ⟨c3, hc3, A3⟩ := ((Stp.refl (fun _ => False) c2 wr).alloc (.cells #[.int .i64 y.at_, .int .i64 y.who] 196) 0).name
      have R3 := Lib.hid (R.out.stp A3.out id)
      have X3 := Lib.hid (show Blk c3 0 (wr.alloc (.cells #[.int .i64 y.at_, .int .i64 y.who] 196)) wr.heap.size [.int .i64 y.at_, .int .i64 y.who] 196 by rw [hc3.out]; exact Blk.new c2 0 wr _ _)
      have B3 := Lib.hid (((Hb.out.stp St.out (by simpa using Ne.symm hk)).stp A3.out id).cell 0)
      have S3 := Lib.hid (St.out.trans (A3.out.mono (fun _ h => h.elim)))
      clear hy y1 hc3 A3
      cases hq : (y.who == x)
      · have Hq := Lib.hid hq
        clear hq
        go_wp2_with fail
        refine (kdropf_any (c := c3) (by simpa using B3.out) y false Hq.out).mono ?_
        rintro e w4 ⟨rfl, c4, s4⟩
        have hi4 : i < cur.length := by rw [Hcl.out]; omega
        obtain ⟨z, hz⟩ : ∃ z, cur[i]? = some z := ⟨_, List.getElem?_eq_getElem hi4⟩
        have R4 := Lib.hid (R3.out.stp s4 id)
        obtain ⟨g4, off4, e4, q0, qf0, -⟩ := R4.out.field Tm.len hz (f := 0) (v := .int .i64 z.at_) rfl
        cases e4
        obtain ⟨g5, off5, e5, q1, qf1, -⟩ := R4.out.field Tm.len hz (f := 1) (v := .int .i64 z.who) rfl
        cases e5
        rw [Nat.add_zero] at q0 qf0
        rw [← Nat.add_assoc] at q1 qf1
        have X4 := X3.out.stp s4 id
        have x0 := X4.cell 0
        have x1 := X4.cell 1
        simp at x0 x1
        have S4 := Lib.hid (S3.out.trans (s4.mono (J' := (· = k)) (fun _ h => h.elim)))
        have Hi4 := Lib.hid hi4
        clear s4 y0 y1' X4 hz hi4
        go_wp2
        have S5 : Stp (· = k) c c4 w _ := (S4.out.setCell (p := ⟨g, off + i * 2, none⟩) (.int .i64 y.at_) R4.out.2.2.2.2.1).setCell (p := ⟨g, off + i * 2 + 1, none⟩) (.int .i64 y.who) R4.out.2.2.2.2.1
        go_roundw
        case rel => exact ⟨c4, i + 1, j + 1, cur.set i y, by go_num, by go_num, by omega, by omega, by rw [List.length_set]; exact Hcl.out, by
            have hsy : stays x y = true := by simp only [stays]; rw [Hq.out]; rfl
            have e1 : (l.take (j + 1)).filter (stays x) = cur.take i ++ [y] := by rw [List.take_add_one, Hly.out, List.filter_append, ← Htk.out]; simp [hsy]
            rw [e1, List.take_add_one, List.getElem?_set_self Hi4.out, List.take_set, List.set_eq_of_length_le (by rw [List.length_take]; omega)]
            rfl, by
            rw [List.drop_set, if_pos (by omega)]
            exact Hd1.out, R4.out.setTm Hi4.out y, S5⟩
        case measure => simp [intOf]; omega
      · have Hq := Lib.hid hq
        clear hq
        go_wp2_with fail
        refine (kdropf_any (c := c3) (by simpa using B3.out) y true Hq.out).mono ?_
        rintro e w4 ⟨rfl, c4, s4⟩
        have R4 := Lib.hid (R3.out.stp s4 id)
        have S4 := Lib.hid (S3.out.trans (s4.mono (J' := (· = k)) (fun _ h => h.elim)))
        clear s4 y0 y1'
        go_wp2
        go_roundw
        case rel => exact ⟨c4, i, j + 1, cur, rfl, by go_num, by omega, by omega, Hcl.out, by
            rw [List.take_add_one, Hly.out, List.filter_append, ← Htk.out]
            have : stays x y = false := by simp only [stays]; rw [Hq.out]; rfl
            simp [this], Hd1.out, R4.out, S4.out⟩
        case measure => simp [intOf]; omega
    · obtain rfl : j = n := by omega
      have hci : ¬ cap = i := by omega
      have hij2 : i ≤ j := by omega
      have hic : i ≤ cap := by omega
      obtain ⟨w3, hr3, r3, s3, -⟩ := run_clear_tm 0 R.out i (cap - i) hij
      have R3 := Lib.hid r3
      have S3 := Lib.hid (St.out.trans s3)
      clear r3 s3
      have e : (l.take j).filter (stays x) = l.filter (stays x) := by rw [List.take_of_length_le (by rw [Hln.out]; exact Nat.le_refl _)]
      have Hft : Hid (cur.take i = l.filter (stays x)) := Lib.hid (by rw [Htk.out, e])
      clear e
      go_wp2
      go_ret
      refine ⟨i, rfl, ?_, c2, S3.out, ?_⟩
      · rw [← Hft.out, List.length_take, Hcl.out]; omega
      · have r := R3.out
        rw [← flat_take, Hft.out] at r
        exact r

/-- slices.DeleteFunc of timers. -/
theorem kdelete_any {c : Nat → Nat} {k : Nat} {w : World} {ao : Option Addr} {n cap : Nat} {l : List Tm} {b : Nat} {x : Int} (h : Row c k w 196 2 ao n cap (l.flatMap Tm.cells)) (hln : l.length = n) (hk : k ≠ 0) (hb : Blk c 0 w b [.int .i64 x] 3) (hn : (n : Int) ≤ 1000) :
    Calls Tryz.prog 109 #[.slice ao n cap, .func (.func 110) #[] #[.pointer (some ⟨b, 0, none⟩)]] w fun e w' => ∃ m, e = .returned (.slice ao m cap) ∧ m = (l.filter (stays x)).length ∧ ∃ c', Stp (· = k) c c' w w' ∧ Row c' k w' 196 2 ao m cap ((l.filter (stays x)).flatMap Tm.cells) := by
  by_cases hany : l.any (fun t => t.who == x) = true
  · have hl0 : 0 < l.length := by
      obtain ⟨y, hy, _⟩ := List.any_eq_true.1 hany
      exact List.length_pos_of_mem hy
    obtain ⟨a, rfl, hs, -⟩ := h.cell (j := 0) (v := .int .i64 (l[0]'hl0).at_) (by
      have := flat_get Tm.cells 2 Tm.len 0 (by decide) l 0 (l[0]'hl0) (List.getElem?_eq_getElem hl0)
      simpa [Tm.cells] using this)
    obtain ⟨g, off, sp⟩ := a
    simp only at hs
    subst hs
    exact (kdelete_some h hln hk hb hn hany).mono fun e w' ⟨m, he, hr⟩ => ⟨m, he, hr⟩
  · have hall : ∀ t ∈ l, (t.who == x) = false := fun t ht => by
      have h1 : l.any (fun t => t.who == x) = false := by simpa using hany
      simpa using List.any_eq_false.1 h1 t ht
    have hf : l.filter (stays x) = l := List.filter_eq_self.2 fun t ht => by simp only [stays]; rw [hall t ht]; rfl
    rw [hf]
    have H := Lib.hid h
    have Hb := Lib.hid hb
    have Hln := Lib.hid hln
    have Hv := Lib.hid (ixOfP_none (q := fun t => t.who == x) hall)
    clear h hb hln hany hall hf
    go_enter Tryz.func109, Tryz.ntmps109
    go_wp2_with fail
    refine (kindex_drop (x := x) H.out.toIn Hln.out (by simpa using Hb.out.cell 0)).mono ?_
    rintro e w1 ⟨rfl, c1, s1⟩
    rw [Hv.out]
    have S1 := Lib.hid s1
    clear s1
    go_wp2
    go_ret
    exact ⟨n, rfl, Hln.out.symm, c1, S1.out.mono (fun _ h => h.elim), H.out.stp S1.out id⟩

theorem kdrop_any {c : Nat → Nat} {k : Nat} {w : World} {p : Nat} {now : Int} {l : List Tm} (h : ClockAt c k w p now l) (x : Int) (hl : (l.length : Int) ≤ 1000) :
    Calls Tryz.prog 62 #[.pointer (some ⟨p, 0, none⟩), .int .i64 x] w fun e w' => e = .returned (.int .i64 ((l.length : Int) - (l.filter (stays x)).length)) ∧ ∃ c', Stp (fun j => j = k ∨ j = k + 1) c c' w w' ∧ ClockAt c' k w' p now (l.filter (stays x)) := by
  obtain ⟨n, ao, cap, hc⟩ := h
  obtain ⟨c1, hc1, A1⟩ := ((Stp.refl (fun _ => False) c w).alloc (.cells #[.int .i64 x] 3) 0).name
  have C1 := Lib.hid (show ClockIs c1 k (w.alloc (.cells #[.int .i64 x] 3)) p now l n ao cap from ⟨hc.hb.stp A1.out id, hc.hr.stp A1.out id, hc.len⟩)
  have X1 := Lib.hid (show Blk c1 0 (w.alloc (.cells #[.int .i64 x] 3)) w.heap.size [.int .i64 x] 3 by rw [hc1.out]; exact Blk.new c 0 w _ _)
  have Hn := Lib.hid (show (n : Int) ≤ 1000 by have := hc.len; omega)
  obtain ⟨w1, hw1⟩ : ∃ w1 : World, w1 = w.alloc (.cells #[.int .i64 x] 3) := ⟨_, rfl⟩
  have hm : (l.filter (stays x)).length ≤ n := by rw [← hc.len]; exact List.length_filter_le _ _
  have W := Lib.hid (show wrap64 ((n : Int) - (l.filter (stays x)).length) = (n : Int) - (l.filter (stays x)).length from IntWalk.wrap64_in _ (by have := Hn.out; constructor <;> omega))
  have b1 : (w.alloc (.cells #[.int .i64 x] 3)).cell? ⟨p, 1, none⟩ = some (.slice ao n cap) := by simpa using C1.out.hb.cell 1
  have Hlen := Lib.hid hc.len
  clear hc hc1 hm hl
  rw [← hw1] at A1 C1 X1
  go_enter Tryz.func62, Tryz.ntmps62
  go_wp2_with fail
  rw [← hw1]
  refine (kdelete_any (k := k + 1) C1.out.hr C1.out.len (Nat.succ_ne_zero _) X1.out Hn.out).mono ?_
  rintro e w2 ⟨m, rfl, hm, c2, s2, r2⟩
  have hb2 := C1.out.hb.stp s2 (show k ≠ k + 1 by omega)
  have e0 := hb2.cell 0
  have e1 := hb2.cell 1
  have f1 := hb2.free 1
  simp at e0 e1
  have Hb2 := Lib.hid hb2
  have R2 := Lib.hid r2
  have S2 := Lib.hid ((A1.out.mono (J' := fun j => j = k ∨ j = k + 1) (fun _ h => h.elim)).trans (s2.mono (fun _ h => .inr h)))
  have Hm := Lib.hid hm
  clear hb2 s2 r2 hm b1 hw1
  go_wp2
  go_ret
  refine ⟨by rw [Hm.out, W.out, Hlen.out]; rfl, c2, S2.out.setCell _ (.inl Hb2.out.1), m, ao, cap, ?_, ?_, Hm.out.symm⟩
  · simpa using Hb2.out.set 1 (.slice ao m cap)
  · exact R2.out.other _ (R2.out.ne_blk Hb2.out (by decide)) rfl
end Go.Proofs.YtiphdedfbafhkaaGreatDoor
