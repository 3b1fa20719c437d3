/- The contract of slices.Insert of one timer where there is no room, and of Insert anywhere. No condition beyond the contract's own. -/
import Derived.Test.YtiphdedfbafhkaaGreatDoorClock6
namespace Go.Proofs.YtiphdedfbafhkaaGreatDoor
open Go.RowKit

theorem grow_eq {l : List Tm} {n i : Nat} {Z : List Value} {y : Tm} (hl : l.length = n) (hi : i < n) (hZ : Z.length = (n + 1 - i) * 2) :
    ((((l.take i).flatMap Tm.cells ++ Z).take (i * 2) ++ y.cells ++ ((l.take i).flatMap Tm.cells ++ Z).drop ((i + 1) * 2)).take ((i + 1) * 2) ++ (l.drop i).flatMap Tm.cells ++
      (((l.take i).flatMap Tm.cells ++ Z).take (i * 2) ++ y.cells ++ ((l.take i).flatMap Tm.cells ++ Z).drop ((i + 1) * 2)).drop ((i + 1 + (n - i)) * 2)) = (l.take i ++ y :: l.drop i).flatMap Tm.cells := by
  have hT : ((l.take i).flatMap Tm.cells).length = i * 2 := by rw [flat_len Tm.cells 2 Tm.len, List.length_take, hl]; omega
  have e0 : ((l.take i).flatMap Tm.cells ++ Z).take (i * 2) = (l.take i).flatMap Tm.cells := by rw [← hT]; exact List.take_left
  have hy : y.cells.length = 2 := rfl
  have hA : ((l.take i).flatMap Tm.cells ++ y.cells).length = (i + 1) * 2 := by rw [List.length_append, hT, hy]; omega
  have hD : (((l.take i).flatMap Tm.cells ++ Z).drop ((i + 1) * 2)).length = (n - i) * 2 := by rw [List.length_drop, List.length_append, hT, hZ]; omega
  rw [e0]
  have e1 : ((l.take i).flatMap Tm.cells ++ y.cells ++ ((l.take i).flatMap Tm.cells ++ Z).drop ((i + 1) * 2)).take ((i + 1) * 2) = (l.take i).flatMap Tm.cells ++ y.cells := by
    rw [← hA]; exact List.take_left
  have e2 : ((l.take i).flatMap Tm.cells ++ y.cells ++ ((l.take i).flatMap Tm.cells ++ Z).drop ((i + 1) * 2)).drop ((i + 1 + (n - i)) * 2) = [] :=
    List.drop_of_length_le (by rw [List.length_append, hA, hD]; omega)
  rw [e1, e2, List.append_nil]
  simp [List.flatMap_append, List.flatMap_cons]

set_option maxRecDepth 100000 in
set_option maxHeartbeats 2000000 in
theorem kinsert_grow {c : Nat → Nat} {k : Nat} {w : World} {g off n cap i : Nat} {l : List Tm} {vb : Nat} {y : Tm} (h : Row c k w 196 2 (some ⟨g, off, none⟩) n cap (l.flatMap Tm.cells)) (hl : l.length = n) (hv : Blk c 0 w vb y.cells 196) (hi : i < n) (hroom : cap < n + 1) (hn : (n : Int) ≤ 1000) :
    Calls Tryz.prog 113 #[.slice (some ⟨g, off, none⟩) n cap, .int .i64 i, .slice (some ⟨vb, 0, none⟩) 1 1] w fun e w' => ∃ ao' cap', e = .returned (.slice ao' (n + 1) cap') ∧ ∃ c', Stp (· = k) c c' w w' ∧ Row c' k w' 196 2 ao' (n + 1) cap' ((l.take i ++ y :: l.drop i).flatMap Tm.cells) := by
  have hncap := h.2.1
  have H := Lib.hid h
  have V := Lib.hid hv
  have W1 : wrap64 ((n : Int) + 1) = n + 1 := IntWalk.wrap64_in _ ⟨by omega, by omega⟩
  have W2 : wrap64 ((i : Int) + 1) = i + 1 := IntWalk.wrap64_in _ ⟨by omega, by omega⟩
  have W3 : IntKind.i64.wrap ((i : Int) + 1) = i + 1 := by rw [IntKind.wrap_i64]; omega
  have W4 : wrap64 ((n : Int) + 1 - i) = (n : Int) + 1 - i := IntWalk.wrap64_in _ ⟨by omega, by omega⟩
  have hkk : ((n + 1 - i : Nat) : Int) = (n : Int) + 1 - i := by omega
  obtain ⟨i0, hi0, hz0, hzs, hzb⟩ := info_parts Tryz.infoTimer
  have hlt := h.2.2.2
  obtain ⟨-, hcg, cur, hbk, -⟩ := hlt
  have hgl : g < w.heap.size := lt_of_block hbk
  have hold : (Builtin.firstCells i0.size i (.slice (some ⟨g, off, none⟩) i cap)).run Tryz.prog w.drew = .ok ((l.take i).flatMap Tm.cells).toArray w.drew := by
    rw [hzs]
    exact run_firstCells_some w.drew 2 i ⟨g, off, none⟩ i cap ((l.take i).flatMap Tm.cells) (by rw [flat_len Tm.cells 2 Tm.len, List.length_take, hl]; omega) (fun j v hj => by
      have ht := h.take i (by omega)
      rw [← flat_take] at ht
      obtain ⟨a, ha, _, hcc, _⟩ := ht.cell hj
      cases ha
      exact hcc)
  have hrz : ∀ ty, (Builtin.append_ #[131, 3] ty #[.slice (some ⟨g, off, none⟩) i cap, .int .i64 ((n : Int) + 1 - (i : Int))]).run Tryz.prog w =
      .ok (.slice (some ⟨w.heap.size, 0, none⟩) (n + 1) (grownCap w (n + 1) cap 196)) (w.drew.alloc (.cells (((l.take i).flatMap Tm.cells).toArray ++ Builtin.zeroCells (Value.agg #[.int .i64 0, .int .i64 0]).cells (n + 1 - i) ++ Builtin.zeroCells (Value.agg #[.int .i64 0, .int .i64 0]).cells (grownCap w (n + 1) cap 196 - (n + 1))) 196)) := fun ty => by
    have hh := Lib.run_append_grow_zeros w 131 3 ty 196 i0 _ .i64 .i64 Tryz.underlying131 Tryz.underlying3 hi0 hz0 (some ⟨g, off, none⟩) i cap _ hold (n + 1 - i) (by omega) (by omega) (by omega) (by omega) (by rw [hzb]; omega) (by rw [hzb, show i + (n + 1 - i) = n + 1 by omega]; exact growslice_fits hroom (by omega))
    rw [show i + (n + 1 - i) = n + 1 by omega, hkk] at hh
    exact hh
  obtain ⟨G, hG⟩ : ∃ G, G = grownCap w (n + 1) cap 196 := ⟨_, rfl⟩
  have hGn : n + 1 ≤ G := by rw [hG]; exact grownCap_ge w _ _ _
  have hGm : G ≤ maxLen := by rw [hG]; exact grownCap_le_maxLen w (n + 1) cap 196 (by unfold maxLen; omega)
  rw [← hG] at hrz
  obtain ⟨Z, hZ⟩ : ∃ Z, Z = (Builtin.zeroCells (Value.agg #[.int .i64 0, .int .i64 0]).cells (n + 1 - i)).toList := ⟨_, rfl⟩
  obtain ⟨Z2, hZ2⟩ : ∃ Z, Z = (Builtin.zeroCells (Value.agg #[.int .i64 0, .int .i64 0]).cells (G - (n + 1))).toList := ⟨_, rfl⟩
  have hZl : Z.length = (n + 1 - i) * 2 := by rw [hZ]; simp [size_zeroCells, Value.cells]
  have hZl2 : Z2.length = (G - (n + 1)) * 2 := by rw [hZ2]; simp [size_zeroCells, Value.cells]
  have hTl : ((l.take i).flatMap Tm.cells).length = i * 2 := by rw [flat_len Tm.cells 2 Tm.len, List.length_take, hl]; omega
  obtain ⟨v, hv1⟩ : ∃ v : World, v = w.drew.alloc (.cells (((l.take i).flatMap Tm.cells).toArray ++ Builtin.zeroCells (Value.agg #[.int .i64 0, .int .i64 0]).cells (n + 1 - i) ++ Builtin.zeroCells (Value.agg #[.int .i64 0, .int .i64 0]).cells (G - (n + 1))) 196) := ⟨_, rfl⟩
  rw [← hv1] at hrz
  have hv2 : v = w.drew.alloc (.cells ((l.take i).flatMap Tm.cells ++ Z ++ Z2).toArray 196) := by
    rw [hv1, hZ, hZ2]
    congr 2
    apply Array.toList_inj.1
    simp
  have hrow : Row (paint c w.heap.size k) k v 196 2 (some ⟨w.heap.size, 0, none⟩) (n + 1) G ((l.take i).flatMap Tm.cells ++ Z) := by
    rw [hv2]
    refine ⟨by rw [List.length_append, hTl, hZl]; omega, hGn, hGm, rfl, paint_ge (Nat.le_refl _), _, heap_alloc_new w.drew _, by simp only [List.length_append, hTl, hZl, hZl2]; omega, ?_⟩
    rw [List.drop_zero, show (n + 1) * 2 = ((l.take i).flatMap Tm.cells ++ Z).length by rw [List.length_append, hTl, hZl]; omega]
    exact List.take_left
  obtain ⟨c1, hc1, A1⟩ := (show Stp (fun _ => False) c (paint c w.heap.size k) w v by rw [hv2]; exact (Stp.refl _ c w).drew.alloc _ k).name
  rw [← hc1.out] at hrow
  have V1 := hv.stp A1.out id
  have hmin : 1 = Nat.min 1 (n + 1 - i) := by simp only [Nat.min_def]; split <;> omega
  obtain ⟨v2, hrA, r2, s2, o2⟩ := run_copy_tm 3 hrow i (n + 1 - i) (G - i) ⟨vb, 0, none⟩ 1 1 1 y.cells hmin rfl (by omega) (fun j u hu => by rw [Addr.add_lit, Nat.zero_add, V1.cell]; exact hu) (by simp [Tm.cells, Value.oneCell'])
  rw [Nat.zero_add] at hrA
  have R2 := Lib.hid r2
  have S2 := Lib.hid ((A1.out.mono (J' := (· = k)) (fun _ h => h.elim)).trans s2)
  have hgne : g ≠ w.heap.size := by omega
  have hgv : v2.heap[g]? = w.heap[g]? := (o2 g (Nat.lt_of_lt_of_le hgl A1.out.size) (fun a ha => by cases ha; exact Ne.symm hgne)).trans (A1.out.block g hgl id)
  have hD := h.drop i (by omega)
  rw [← flat_drop] at hD
  have hnews : Hid (∀ j u, ((l.drop i).flatMap Tm.cells)[j]? = some u → v2.drew.cell? ((⟨g, off + i * 2, none⟩ : Addr).add j) = some u) := Lib.hid (fun j u hu => by
    obtain ⟨a, hae, _, hcc, _⟩ := hD.cell hu
    cases hae
    exact (World.cell?_of_block (w := w) (by rw [add_block]; exact hgv)).trans hcc)
  have hnl : Hid (((l.drop i).flatMap Tm.cells).length = (n - i) * 2) := Lib.hid (by rw [flat_len Tm.cells 2 Tm.len, List.length_drop, hl])
  have hmin2 : Hid (n - i = Nat.min (n - i) (n + 1 - (i + 1))) := Lib.hid (by simp only [Nat.min_def]; split <;> omega)
  have z1 : ¬ cap = i := by omega
  have z2 : ¬ G = i := by omega
  have z3 : ((i : Int) == (n : Int)) = false := by simp; omega
  have z4 : decide ((cap : Int) < (n : Int) + 1) = true := by simp; omega
  have z5 : i ≤ n := by omega
  have z6 : ¬ G = i + 1 := by omega
  have z7 : (i : Int) + 1 ≤ (n : Int) + 1 := by omega
  have z8 : (i : Int) ≤ (n : Int) + 1 := by omega
  have z9 : ¬ ((i : Int) = (n : Int)) := by omega
  have z10 : (i : Int) ≤ cap := by omega
  have ha : ((n : Int) + 1).toNat = n + 1 := by omega
  have hb : ((i : Int) + 1).toNat = i + 1 := by omega
  have hc0 : (0 : Int) ≤ (n : Int) + 1 := by omega
  have hc2 : (0 : Int) ≤ (i : Int) + 1 := by omega
  have hGx : G ≤ 9223372036854775807 := by simp only [maxLen] at hGm; omega
  have Hfin := Lib.hid (grow_eq (y := y) hl hi hZl)
  have Hi := Lib.hid hi
  clear hkk h hv hl hn hncap hi0 hz0 hzs hzb hcg hbk hgl hold hG hGm hZ hZ2 hZl hZl2 hTl hv1 hv2 hrow hc1 A1 V1 hmin r2 s2 o2 hgne hgv hD
  go_enter Tryz.func113, Tryz.ntmps113
  go_wp2_with (at_builtin; refine Lib.wpList_append_run _ rfl _ _ _ _ rfl _ _ rfl rfl _ _ (hrz _) ?_)
  go_region_law (refine step_copy rfl (.tmp 50) (.tmp 53) 131 rfl c1 k 196 2 Tryz.underlying131 (by kernel_rfl) w.heap.size 0 (n + 1) G _ R2.out.drew (i + 1) (n + 1 - (i + 1)) (G - (i + 1)) (by simp [Act.eval, Act.put]) ⟨g, off + i * 2, none⟩ (n - i) (cap - i) (n - i) ((l.drop i).flatMap Tm.cells) (by simp [Act.eval, Act.put]) hmin2.out hnl.out (by omega) hnews.out (tm_one _) ?_; intro w3 r3 s3 o3)
  all_goals
    have R3 := Lib.hid r3
    have S3 := Lib.hid ((S2.out.drew).trans s3)
    clear r3 s3 o3
    go_wp2
    go_ret
    refine ⟨_, _, rfl, c1, S3.out, ?_⟩
    have r := R3.out
    rw [Hfin.out] at r
    exact r

/-- slices.Insert of one timer. -/
theorem kinsert_any {c : Nat → Nat} {k : Nat} {w : World} {ao : Option Addr} {n cap i : Nat} {l : List Tm} {vb : Nat} {y : Tm} (h : Row c k w 196 2 ao n cap (l.flatMap Tm.cells)) (hl : l.length = n) (hv : Blk c 0 w vb y.cells 196) (hk : k ≠ 0) (hi : i ≤ n) (hn : (n : Int) ≤ 1000) :
    Calls Tryz.prog 113 #[.slice ao n cap, .int .i64 i, .slice (some ⟨vb, 0, none⟩) 1 1] w fun e w' => ∃ ao' cap', e = .returned (.slice ao' (n + 1) cap') ∧ ∃ c', Stp (· = k) c c' w w' ∧ Row c' k w' 196 2 ao' (n + 1) cap' ((l.take i ++ y :: l.drop i).flatMap Tm.cells) := by
  rcases Nat.lt_or_ge i n with hlt | hge
  · have hlx : i < l.length := by omega
    obtain ⟨a, rfl, hs, -⟩ := h.cell (j := i * 2) (v := .int .i64 (l[i]'hlx).at_) (by
      have := flat_get Tm.cells 2 Tm.len 0 (by decide) l i (l[i]'hlx) (List.getElem?_eq_getElem hlx)
      simpa [Tm.cells] using this)
    obtain ⟨g, off, sp⟩ := a
    simp only at hs
    subst hs
    by_cases hr : n + 1 ≤ cap
    · exact kinsert_shift h hl hv hk hlt hr hn
    · exact kinsert_grow h hl hv hlt (by omega) hn
  · obtain rfl : i = n := by omega
    rw [List.take_of_length_le (by omega), List.drop_of_length_le (by omega)]
    exact kinsert_end h hv hn
end Go.Proofs.YtiphdedfbafhkaaGreatDoor
