/- Contracts of Put, Get of package slots. No condition beyond each contract's own. -/
import Derived.Test.YtiphdedfbafhkaaGreatDoorSlots
import Derived.Deep.RegionHeld3
namespace Go.Proofs.YtiphdedfbafhkaaGreatDoor
open Go.RowKit

/-- The slot of an index. -/
def slotOf (k : Nat) (seq : Int) : Nat := (seq % 2 ^ k).toNat

theorem slotOf_lt (k : Nat) (seq : Int) (hk : k < 21) : slotOf k seq < 2 ^ k ∧ ((slotOf k seq : Nat) : Int) = seq % 2 ^ k := by
  have hb := two_pow_bd k hk
  have h1 : 0 ≤ seq % 2 ^ k := Int.emod_nonneg _ (by omega)
  have h2 : seq % 2 ^ k < 2 ^ k := Int.emod_lt_of_pos _ (by omega)
  have h3 : ((2 ^ k : Nat) : Int) = 2 ^ k := two_pow_cast k
  unfold slotOf
  omega

theorem index_j (k : Nat) (hk : k < 21) (seq : Int) (j : Nat) (hj : (j : Int) = seq % 2 ^ k) (w : World) : Calls Tryz.prog 88 #[.agg #[.int .i64 k], .int .i64 seq] w (fun e w' => e = .returned (.int .i64 j) ∧ Below w.heap.size w w') :=
  (index_k k hk seq w).mono fun _ _ ⟨he, hw⟩ => ⟨by rw [he, hj], by subst hw; exact (((Below.refl _ _).alloc (Nat.le_refl _) _).alloc (by simp) _).alloc (by simp; omega) _⟩

/-- A callee that turns nothing old, met in a region: what S says of old memory alone stays. -/
theorem withB {P : Program} {f : FuncId} {args : Array Value} {w wb : World} {v : Value} (h : Calls P f args w fun e w' => e = .returned v ∧ Below w.heap.size w w') (hb : Below wb.heap.size wb w) :
    Calls P f args w fun e w' => e = .returned v ∧ Below wb.heap.size wb w' :=
  h.mono fun _ _ ⟨he, hl⟩ => ⟨he, hb.trans (hl.mono hb.size)⟩

theorem ring_put {c : Nat → Nat} {k : Nat} {w : World} {p sh : Nat} {l : List Ev} {g cap : Nat} (hsh : sh < 21) (hl : l.length = 2 ^ sh) (hb : Blk c k w p [.int .i64 sh, .slice (some ⟨g, 0, none⟩) l.length cap] 140) (hr : Row c k w 80 2 (some ⟨g, 0, none⟩) l.length cap (l.flatMap Ev.cells))
    {w2 : World} (hB : Below w.heap.size w w2) {j : Nat} (hj : j < l.length) (x : Ev) :
    ∃ c', Stp (· = k) c c' w ((w2.setCell ⟨g, j * 2, none⟩ (.int .i64 x.key)).setCell ⟨g, j * 2 + 1, none⟩ (.int .i64 x.val)) ∧ RingAt c' k ((w2.setCell ⟨g, j * 2, none⟩ (.int .i64 x.key)).setCell ⟨g, j * 2 + 1, none⟩ (.int .i64 x.val)) p sh (l.set j x) := by
  have st := Stp.ofBelow (c := c) hB 0
  have hb2 := hb.stp st id
  have hr2 := hr.stp st id
  obtain ⟨y, hy⟩ : ∃ y, l[j]? = some y := ⟨_, List.getElem?_eq_getElem hj⟩
  have hne : g ≠ p := hr2.ne_blk hb2 (by decide) ⟨g, 0, none⟩ rfl
  have hg : paint c w.heap.size 0 g = k := hr2.2.2.2.2.1
  have r1 := hr2.setField Ev.len (y := ⟨x.key, y.val⟩) hy (f := 0) (v := .int .i64 x.key) (by decide) rfl
  have r2 := r1.setField Ev.len (j := j) (x := ⟨x.key, y.val⟩) (y := x) (by simp [hj]) (f := 1) (v := .int .i64 x.val) (by decide) rfl
  simp only [Nat.zero_add, Nat.add_zero, List.set_set] at r2
  refine ⟨_, ((st.mono (fun _ h => h.elim)).setCell (p := ⟨g, j * 2, none⟩) _ hg).setCell (p := ⟨g, j * 2 + 1, none⟩) _ hg, hsh, by rw [List.length_set]; exact hl, g, cap, ?_, ?_⟩
  · rw [List.length_set]
    exact (hb2.other (p := ⟨g, j * 2, none⟩) _ hne).other (p := ⟨g, j * 2 + 1, none⟩) _ hne
  · rw [List.length_set]
    exact r2

set_option maxHeartbeats 2000000 in
theorem slput_ok {c : Nat → Nat} {k : Nat} {w : World} {p sh : Nat} {l : List Ev} (h : RingAt c k w p sh l) (seq : Int) (x : Ev) (h0 : 0 ≤ seq) (h1 : seq ≤ 4611686018427387904) :
    Calls Tryz.prog 42 #[.pointer (some ⟨p, 0, none⟩), .int .i64 seq, .agg #[.int .i64 x.key, .int .i64 x.val]] w fun e w' => e = .returned .nilIface ∧ ∃ c', Stp (· = k) c c' w w' ∧ RingAt c' k w' p sh (l.set (slotOf sh seq) x) := by
  obtain ⟨hsh, hl, g, cap, hb, hr⟩ := h
  obtain ⟨hs1, hs2⟩ := slotOf_lt sh seq hsh
  have hj : slotOf sh seq < l.length := by rw [hl]; exact hs1
  generalize slotOf sh seq = j at *
  have Hj := Lib.hid hs2
  have Hlen := Lib.hid hl
  clear hs1 hs2 hl
  have Hb := Lib.hid hb
  have Hr := Lib.hid hr
  obtain ⟨wb, hwb⟩ : ∃ wb : World, wb = w.alloc (.cells #[.int .i64 x.key, .int .i64 x.val] 80) := ⟨_, rfl⟩
  have hb' := hb.alloc (.cells #[.int .i64 x.key, .int .i64 x.val] 80) 0
  have hr' := hr.alloc (.cells #[.int .i64 x.key, .int .i64 x.val] 80) 0
  rw [← hwb] at hb' hr'
  have c0 := hb'.cell 0
  have c1 := hb'.cell 1
  simp at c0 c1
  have x0 : wb.cell? ⟨w.heap.size, 0, none⟩ = some (.int .i64 x.key) := by subst hwb; simp
  have x1 : wb.cell? ⟨w.heap.size, 1, none⟩ = some (.int .i64 x.val) := by subst hwb; simp
  obtain ⟨y, hy⟩ : ∃ y, l[j]? = some y := ⟨_, List.getElem?_eq_getElem hj⟩
  obtain ⟨g', off', e', y0, f0, _⟩ := hr'.field Ev.len hy (f := 0) (v := .int .i64 y.key) rfl
  cases e'
  obtain ⟨g', off', e', y1, f1, _⟩ := hr'.field Ev.len hy (f := 1) (v := .int .i64 y.val) rfl
  cases e'
  simp at y0 y1 f0 f1
  have hB := Below.refl wb.heap.size wb
  have Hwb := Lib.hid hwb
  have Hb' := Lib.hid hb'
  have Hr' := Lib.hid hr'
  clear hb hr hb' hr' hy
  go_enter Tryz.func42, Tryz.ntmps42
  go_wp2_with (go_at_call 87; refine (slat_ok _ _ _ h0 h1 _).mono ?_; rintro e w' ⟨rfl, rfl⟩)
  rw [← hwb]
  clear hwb
  go_region_with ((go_at_call 88; refine (withB (wb := wb) (index_j sh hsh seq j Hj.out _) ?_).mono ?_; (exact (Below.refl _ _).drew); rintro e w2 ⟨rfl, hB2⟩; have k0 := (hB2.cell (World.block_lt_of_cell? _ _ c0)).trans c0; have k1 := (hB2.cell (World.block_lt_of_cell? _ _ c1)).trans c1; have k2 := (hB2.cell (World.block_lt_of_cell? _ _ x0)).trans x0; have k3 := (hB2.cell (World.block_lt_of_cell? _ _ x1)).trans x1; have k4 := (hB2.cell (World.block_lt_of_cell? _ _ y0)).trans y0; have k5 := (hB2.cell (World.block_lt_of_cell? _ _ y1)).trans y1; have k6 := (hB2.frozen (World.block_lt_of_cell? _ _ y0)).trans f0; have k7 := (hB2.frozen (World.block_lt_of_cell? _ _ y1)).trans f1))
  all_goals
    go_wp2
    go_ret
    exact ⟨rfl, ring_put hsh Hlen.out Hb.out Hr.out (((Below.refl _ _).alloc (Nat.le_refl _) (.cells #[.int .i64 x.key, .int .i64 x.val] 80)).trans (by rw [← Hwb.out]; exact hB2.mono (by rw [Hwb.out]; simp))) hj x⟩

set_option maxHeartbeats 2000000 in
theorem slget_ok {c : Nat → Nat} {k : Nat} {w : World} {p sh : Nat} {l : List Ev} (h : RingAt c k w p sh l) (seq : Int) (h0 : 0 ≤ seq) (h1 : seq ≤ 4611686018427387904) :
    Calls Tryz.prog 43 #[.pointer (some ⟨p, 0, none⟩), .int .i64 seq] w fun e w' => ∃ x, l[slotOf sh seq]? = some x ∧ e = .returned (.tuple #[.agg #[.int .i64 x.key, .int .i64 x.val], .nilIface]) ∧ Below w.heap.size w w' := by
  obtain ⟨hsh, hl, g, cap, hb, hr⟩ := h
  obtain ⟨hs1, hs2⟩ := slotOf_lt sh seq hsh
  have hj : slotOf sh seq < l.length := by rw [hl]; exact hs1
  generalize slotOf sh seq = j at *
  have Hj := Lib.hid hs2
  clear hs1 hs2 hl
  obtain ⟨wb, hwb⟩ : ∃ wb : World, wb = w.alloc (.cells #[.int .i64 0, .int .i64 0] 80) := ⟨_, rfl⟩
  have hb' := hb.alloc (.cells #[.int .i64 0, .int .i64 0] 80) 0
  have hr' := hr.alloc (.cells #[.int .i64 0, .int .i64 0] 80) 0
  rw [← hwb] at hb' hr'
  have c0 := hb'.cell 0
  have c1 := hb'.cell 1
  simp at c0 c1
  have x0 : wb.cell? ⟨w.heap.size, 0, none⟩ = some (.int .i64 0) := by subst hwb; simp
  have x1 : wb.cell? ⟨w.heap.size, 1, none⟩ = some (.int .i64 0) := by subst hwb; simp
  have z0 : wb.frozen? ⟨w.heap.size, 0, none⟩ = false := by subst hwb; simp
  have z1 : wb.frozen? ⟨w.heap.size, 1, none⟩ = false := by subst hwb; simp
  obtain ⟨y, hy⟩ : ∃ y, l[j]? = some y := ⟨_, List.getElem?_eq_getElem hj⟩
  obtain ⟨g', off', e', y0, f0, _⟩ := hr'.field Ev.len hy (f := 0) (v := .int .i64 y.key) rfl
  cases e'
  obtain ⟨g', off', e', y1, f1, _⟩ := hr'.field Ev.len hy (f := 1) (v := .int .i64 y.val) rfl
  cases e'
  simp at y0 y1 f0 f1
  have hgl : g < w.heap.size := by
    obtain ⟨_, _, _, _, _, cur, hh, _⟩ := hr
    exact lt_of_block hh
  have Hy := Lib.hid hy
  have Hwb := Lib.hid hwb
  clear hb hr hb' hr' hy
  go_enter Tryz.func43, Tryz.ntmps43
  go_wp2_with (go_at_call 87; refine (slat_ok _ _ _ h0 h1 _).mono ?_; rintro e w' ⟨rfl, rfl⟩)
  rw [← hwb]
  clear hwb
  go_region_with ((go_at_call 88; refine (withB (wb := wb) (index_j sh hsh seq j Hj.out _) ?_).mono ?_; (exact (Below.refl _ _).drew); rintro e w2 ⟨rfl, hB2⟩; have k0 := (hB2.cell (World.block_lt_of_cell? _ _ c0)).trans c0; have k1 := (hB2.cell (World.block_lt_of_cell? _ _ c1)).trans c1; have k2 := (hB2.cell (World.block_lt_of_cell? _ _ x0)).trans x0; have k3 := (hB2.cell (World.block_lt_of_cell? _ _ x1)).trans x1; have k4 := (hB2.cell (World.block_lt_of_cell? _ _ y0)).trans y0; have k5 := (hB2.cell (World.block_lt_of_cell? _ _ y1)).trans y1; have k6 := (hB2.frozen (World.block_lt_of_cell? _ _ x0)).trans z0; have k7 := (hB2.frozen (World.block_lt_of_cell? _ _ x1)).trans z1))
  all_goals
    go_wp2
    exact bodyPost_ret (v := .tuple #[.agg #[.int .i64 y.key, .int .i64 y.val], .nilIface]) (by simp [results, Tryz.results43, go_sem, k2, k3]) rfl ⟨y, Hy.out, rfl, ((((Below.refl _ _).alloc (Nat.le_refl _) (.cells #[.int .i64 0, .int .i64 0] 80)).trans (by rw [← Hwb.out]; exact hB2.mono (by rw [Hwb.out]; simp))).setCell (by simp) _).setCell (by simp) _⟩
end Go.Proofs.YtiphdedfbafhkaaGreatDoor
