/- Contracts of Put and Get of package slots where they are refused, of Size, Clone, and of the document's Get. No condition beyond each contract's own. -/
import Derived.Test.YteicmmgpkhmlbaaDoorSlotsWrong
import Derived.Test.YteicmmgpkhmlbaaDoorMem4
import Derived.Deep.QuietTactic
import Derived.BigQuiet
namespace Go.Proofs.YteicmmgpkhmlbaaDoor
open Go.RowKit

theorem slput_bad {w : World} (c : Nat → Nat) (p : Nat) (seq a b : Int) (h : seq < 0 ∨ 4611686018427387904 < seq) :
    Calls Tryd.prog 31 #[.pointer (some ⟨p, 0, none⟩), .int .i64 seq, .agg #[.int .i64 a, .int .i64 b]] w fun e w' => ∃ ev, e = .returned ev ∧ ∃ c', Stp (fun _ => False) c c' w w' ∧ ErrAt c' w' ev 5 := by
  have H := Lib.hid h
  obtain ⟨c0, -, S0⟩ := ((Stp.refl (fun _ => False) c w).alloc (.cells #[.int .i64 a, .int .i64 b] 52) 0).name
  clear h
  go_enter Tryd.func31, Tryd.ntmps31
  go_wp2_with fail
  refine (slat_bad c0 p _ _ H.out _).mono ?_
  rintro e w' ⟨t, v, rfl, c1, s1, e1⟩
  have S1 := Lib.hid (S0.out.trans s1)
  have E1 := Lib.hid e1
  clear s1 e1
  go_wp2
  go_ret
  exact ⟨_, rfl, c1, S1.out, E1.out⟩

theorem slget_bad {w : World} (c : Nat → Nat) (p : Nat) (seq : Int) (h : seq < 0 ∨ 4611686018427387904 < seq) :
    Calls Tryd.prog 33 #[.pointer (some ⟨p, 0, none⟩), .int .i64 seq] w fun e w' => ∃ ev, e = .returned (.tuple #[.agg #[.int .i64 0, .int .i64 0], ev]) ∧ ∃ c', Stp (fun _ => False) c c' w w' ∧ ErrAt c' w' ev 5 := by
  have H := Lib.hid h
  obtain ⟨c0, hc0, S0⟩ := ((Stp.refl (fun _ => False) c w).alloc (.cells #[.int .i64 0, .int .i64 0] 52) 0).name
  have B0 := Lib.hid (show Blk c0 0 _ w.heap.size [.int .i64 0, .int .i64 0] 52 by rw [hc0.out]; exact Blk.new c 0 w _ _)
  clear h hc0
  go_enter Tryd.func33, Tryd.ntmps33
  go_wp2_with fail
  refine (slat_bad c0 p _ _ H.out _).mono ?_
  rintro e w' ⟨t, v, rfl, c1, s1, e1⟩
  have S1 := Lib.hid (S0.out.trans s1)
  have E1 := Lib.hid e1
  have b1 := B0.out.stp s1 id
  have d0 := b1.cell 0
  have d1 := b1.cell 1
  have f0 := b1.free 0
  have f1 := b1.free 1
  simp at d0 d1
  have hlt := b1.lt
  have X1 := Lib.hid b1
  clear s1 e1 b1
  go_wp2
  have T : Stp (· = 0) c1 c1 w' _ := ((Stp.refl (· = 0) c1 w').setCell (p := ⟨w.heap.size, 0, none⟩) (.int .i64 0) X1.out.1).setCell (p := ⟨w.heap.size, 1, none⟩) (.int .i64 0) X1.out.1
  exact bodyPost_ret (v := .tuple #[.agg #[.int .i64 0, .int .i64 0], .iface t v]) (by simp [results, Tryd.results33, go_sem, d0, d1]) rfl ⟨_, rfl, c1, (S1.out.setNew _ (Nat.le_refl _)).setNew _ (Nat.le_refl _), E1.out.stp T (by decide)⟩

theorem slsize_any {c : Nat → Nat} {k : Nat} {w : World} {p sh : Nat} {l : List Ev} (h : RingAt c k w p sh l) :
    Calls Tryd.prog 30 #[.pointer (some ⟨p, 0, none⟩)] w fun e w' => e = .returned (.agg #[.int .i64 sh]) ∧ Below w.heap.size w w' := by
  obtain ⟨_, _, g, cap, hb, _⟩ := h
  have c0 := hb.cell 0
  simp at c0
  have hlt := hb.lt
  clear hb
  go_enter Tryd.func30, Tryd.ntmps30
  go_wp2
  exact bodyPost_ret (v := .agg #[.int .i64 sh]) (by simp [results, Tryd.results30, go_sem]) rfl ⟨rfl, by first | exact (Below.refl _ _).alloc (Nat.le_refl _) _ | exact ((Below.refl _ _).alloc (Nat.le_refl _) _).setCell (by simp) _⟩

theorem slclone_ok {c : Nat → Nat} {k : Nat} {w : World} {p sh : Nat} {l : List Ev} (h : RingAt c k w p sh l) (k2 : Nat) :
    Calls Tryd.prog 32 #[.pointer (some ⟨p, 0, none⟩)] w fun e w' => ∃ p', e = .returned (.pointer (some ⟨p', 0, none⟩)) ∧ ∃ c', Stp (fun _ => False) c c' w w' ∧ RingAt c' k2 w' p' sh l := by
  obtain ⟨hsh, hl, g, cap, hb, hr⟩ := h
  have c0 := hb.cell 0
  have c1 := hb.cell 1
  simp at c0 c1
  have hlt := hb.lt
  have Hr := Lib.hid hr
  have Hl := Lib.hid hl
  have hb2 := pow_le20 sh hsh
  have hl0 : l.length ≠ 0 := by rw [hl]; omega
  have hlm : (l.length : Int) ≤ 1048576 := by rw [hl]; exact hb2.2
  have Hl0 := Lib.hid hl0
  have Hlm := Lib.hid hlm
  have h63 : Hid (l.length ≤ maxLen) := Lib.hid (by unfold maxLen; omega)
  have h47 : Hid (l.length * 16 ≤ 140737488355328) := Lib.hid (by omega)
  clear hb hr hl hb2 hl0 hlm
  go_enter Tryd.func32, Tryd.ntmps32
  go_wp2
  go_region_law (refine step_append_fresh rfl (.const (.slice none 0 0)) (.tmp 12) 64 rfl c k2 52 (.agg #[.int .i64 0, .int .i64 0]) 2 16 Tryd.underlying64 Tryd.infoEv rfl rfl (.slice (some ⟨g, 0, none⟩) l.length cap) l.length (l.flatMap Ev.cells) rfl (Row.src Hr.out) Hl0.out h63.out h47.out ?_; intro cap1 w1 hr1 st1; have k0 := (World.cell?_of_block (st1.block p hlt id)).trans c0; have k1 := (World.cell?_of_block (st1.block p hlt id)).trans c1)
  all_goals
    have R1 := Lib.hid hr1
    have S1 := Lib.hid st1
    clear hr1 st1
    go_wp2
    go_ret
    have S2 := ((Stp.refl (fun _ => False) c w).drew.trans S1.out).alloc (.cells #[.int .i64 sh, .slice (some ⟨w.heap.size, 0, none⟩) l.length cap1] 121) k2
    refine ⟨_, rfl, _, S2, hsh, Hl.out, w.heap.size, cap1, Blk.new _ k2 _ _ _, ?_⟩
    exact R1.out.alloc _ k2

structure PutE where
  seq : Int
  x : Ev
def PutE.cells (p : PutE) : List Value := [.int .i64 p.seq, .int .i64 p.x.key, .int .i64 p.x.val]
theorem PutE.len (p : PutE) : p.cells.length = 3 := rfl

/-- The last event that was put at an index's slot. -/
def getOf (l : List PutE) (m seq : Int) : Ev := match l.reverse.find? (fun p => p.seq % m == seq % m) with
  | some p => p.x
  | none => ⟨0, 0⟩

theorem getOf_snoc (l : List PutE) (k : PutE) (m seq : Int) : getOf (l ++ [k]) m seq = if k.seq % m = seq % m then k.x else getOf l m seq := by
  unfold getOf
  rw [List.reverse_append]
  simp only [List.reverse_cons, List.reverse_nil, List.nil_append, List.cons_append, List.find?_cons]
  by_cases h : k.seq % m = seq % m
  · simp [h]
  · have h' : (k.seq % m == seq % m) = false := by simpa using h
    rw [if_neg h, h']

theorem r06get_any {c : Nat → Nat} {k : Nat} {w : World} {ao : Option Addr} {n cap : Nat} {l : List PutE} (h : In c k w 3 ao n cap (l.flatMap PutE.cells)) (m seq : Int) (hpos : ∀ x ∈ l, 0 ≤ x.seq) (h0 : 0 ≤ seq) (m1 : 1 ≤ m) :
    Calls Tryd.prog 34 #[.slice ao n cap, .int .i64 m, .int .i64 seq] w fun e w' => e = .returned (.agg #[.int .i64 (getOf l m seq).key, .int .i64 (getOf l m seq).val]) ∧ Below w.heap.size w w' := by
  have hl : l.length = n := (h.len PutE.len (by decide)).symm
  have hm : n ≤ 9223372036854775807 := by have h1 := h.2.1; have h2 := h.2.2.1; simp only [maxLen] at h2; omega
  have H := Lib.hid h
  have Hl := Lib.hid hl
  have Hp := Lib.hid hpos
  have z1 : (m == 0) = false := by simp; omega
  have z2 : (m == -1) = false := by simp; omega
  clear h hl hpos
  go_enter Tryd.func34, Tryd.ntmps34
  go_wp2
  obtain ⟨c0, hc0, S0⟩ := ((Stp.refl (fun _ => False) c w).alloc (.cells #[.int .i64 0, .int .i64 0] 52) 0).name
  have B0 := Lib.hid (show Blk c0 0 _ w.heap.size [.int .i64 0, .int .i64 0] 52 by rw [hc0.out]; exact Blk.new c 0 w _ _)
  have H0 := Lib.hid (H.out.stp S0.out id)
  clear hc0 H
  obtain ⟨wA, hwA⟩ : ∃ wA : World, wA = w.alloc (.cells #[.int .i64 0, .int .i64 0] 52) := ⟨_, rfl⟩
  have BA : Below w.heap.size w wA := by rw [hwA]; exact (Below.refl _ _).alloc (Nat.le_refl _) _
  have HBA := Lib.hid BA
  rw [← hwA] at S0 B0 H0 ⊢
  clear hwA BA
  go_loopw [7] (fun i wr => ∃ j : Nat, i = .int .i64 ((j : Int) - 1) ∧ j ≤ n ∧ Hid (getOf l m seq = getOf (l.take j) m seq) ∧ Stp (fun _ => False) c0 c0 wA wr) (fun i _ => (intOf i + 1).toNat)
  case atStart => exact ⟨n, rfl, Nat.le_refl _, Lib.hid (by rw [← Hl.out, List.take_length]), Stp.refl _ _ _⟩
  case round =>
    obtain ⟨j, rfl, hj, hr, st⟩ := hrel
    have St := Lib.hid st
    have bx := B0.out.stp st id
    have d0 := bx.cell 0
    have d1 := bx.cell 1
    have f0 := bx.free 0
    have f1 := bx.free 1
    simp at d0 d1
    match j, hj, hr with
    | 0, hj, hr =>
      clear st bx
      have Hr := Lib.hid (show getOf l m seq = ⟨0, 0⟩ from hr.out)
      go_wp2
      exact bodyPost_ret (v := .agg #[.int .i64 0, .int .i64 0]) (by simp [results, Tryd.results34, go_sem, d0, d1]) rfl ⟨by rw [Hr.out], by
        have hb : Below w.heap.size w wr := HBA.out.trans (St.out.below HBA.out.size (fun _ _ h => h))
        first | exact hb | exact (hb.setCell (Nat.le_refl _) _).setCell (Nat.le_refl _) _⟩
    | j + 1, hj, hr =>
      have hjl : j < l.length := by rw [Hl.out]; omega
      obtain ⟨x, hx⟩ : ∃ x, l[j]? = some x := ⟨_, List.getElem?_eq_getElem hjl⟩
      obtain ⟨a, ha, y0⟩ := (H0.out.stp st id).field PutE.len hx (f := 0) (v := .int .i64 x.seq) rfl
      obtain ⟨a1, ha1, y1⟩ := (H0.out.stp st id).field PutE.len hx (f := 1) (v := .int .i64 x.x.key) rfl
      obtain ⟨a2, ha2, y2⟩ := (H0.out.stp st id).field PutE.len hx (f := 2) (v := .int .i64 x.x.val) rfl
      subst ha
      cases ha1
      cases ha2
      have y1' : wr.cell? ⟨(a.add (j * 3)).block, (a.add (j * 3)).off + 1, none⟩ = some (.int .i64 x.x.key) := by rw [← add_add'] at y1; exact y1
      have y2' : wr.cell? ⟨(a.add (j * 3)).block, (a.add (j * 3)).off + 1 + 1, none⟩ = some (.int .i64 x.x.val) := by rw [← add_add'] at y2; exact y2
      rw [Nat.add_zero] at y0
      have hx0 := Hp.out x (List.mem_of_getElem? hx)
      have Hs := Lib.hid (show getOf l m seq = (if x.seq % m = seq % m then x.x else getOf (l.take j) m seq) by
        rw [hr.out, List.take_succ_eq_append_getElem hjl, getOf_snoc]
        rw [List.getElem?_eq_getElem hjl] at hx
        rw [Option.some.inj hx])
      have i0 : decide ((j : Int) < 0) = false := by simp
      have i1 : (0 : Int) ≤ (j : Int) := by omega
      have i2 : (j : Int) < (n : Int) := by omega
      have ej : ((j + 1 : Nat) : Int) - 1 = (j : Int) := by omega
      rw [ej]
      clear st hr ej bx y1 y2 hx
      by_cases he : x.seq % m = seq % m
      · have He := Lib.hid he
        have t : (x.seq % m == seq % m) = true := by simpa using he
        clear he
        go_wp2
        go_quiet (fail)
        have z1 : (wr.drewN nq).cell? ⟨(a.add (j * 3)).block, (a.add (j * 3)).off + 1, none⟩ = some (.int .i64 x.x.key) := y1'
        have z2 : (wr.drewN nq).cell? ⟨(a.add (j * 3)).block, (a.add (j * 3)).off + 1 + 1, none⟩ = some (.int .i64 x.x.val) := y2'
        have z3 : (wr.drewN nq).cell? ⟨w.heap.size, 0, none⟩ = some (.int .i64 0) := d0
        have z4 : (wr.drewN nq).cell? ⟨w.heap.size, 1, none⟩ = some (.int .i64 0) := d1
        have z5 : (wr.drewN nq).frozen? ⟨w.heap.size, 0, none⟩ = false := f0
        have z6 : (wr.drewN nq).frozen? ⟨w.heap.size, 1, none⟩ = false := f1
        go_wp2
        exact bodyPost_ret (v := .agg #[.int .i64 x.x.key, .int .i64 x.x.val]) (by simp [results, Tryd.results34, go_sem, z3, z4]) rfl ⟨by rw [Hs.out, if_pos He.out], ((HBA.out.trans ((St.out.drewN nq).below HBA.out.size (fun _ _ h => h))).setCell (Nat.le_refl _) _).setCell (Nat.le_refl _) _⟩
      · have He := Lib.hid he
        have t : (x.seq % m == seq % m) = false := by simpa using he
        clear he
        go_wp2
        go_quiet (fail)
        go_wp2
        go_roundw
        case rel => exact ⟨j, by go_num, by omega, Lib.hid (by rw [Hs.out, if_neg He.out]), St.out.drewN _⟩
        case measure => simp [intOf]
end Go.Proofs.YteicmmgpkhmlbaaDoor
