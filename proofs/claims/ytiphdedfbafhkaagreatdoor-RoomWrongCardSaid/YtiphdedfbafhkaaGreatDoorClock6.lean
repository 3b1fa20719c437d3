/- The contract of slices.Insert of one timer anywhere. No condition beyond the contract's own. -/
import Derived.Test.YtiphdedfbafhkaaGreatDoorClock5
namespace Go.Proofs.YtiphdedfbafhkaaGreatDoor
open Go.RowKit

theorem timer_size : ∀ w, (sizeOf 196).run Tryz.prog w = .ok 2 w := by
  intro w
  obtain ⟨i, hi, _, hs, _⟩ := info_parts Tryz.infoTimer
  simp [sizeOf, typeInfo, hi, hs]

theorem overlaps_no {c : Nat → Nat} {k : Nat} {w : World} {g off N cap vb : Nat} {xs : List Value} {y : Tm} (h : Row c k w 196 2 (some ⟨g, off, none⟩) N cap xs) (hv : Blk c 0 w vb y.cells 196) (hk : k ≠ 0) (hN : 0 < N) (o lb cb : Nat) :
    (callFunc 141 #[.slice (some ⟨vb, 0, none⟩) 1 1, .slice (some ⟨g, o, none⟩) lb cb]).run Tryz.prog w = .ok (.value (.bool false)) w := by
  obtain ⟨hx1, hx2, hx3, hs, hc, cur, hb, hlc, hx⟩ := h
  simp only at hb hlc hc
  have hne : vb ≠ g := by rintro rfl; have := hv.1; omega
  rw [run_callFunc_extern Tryz.func141 (by kernel_rfl) (by kernel_rfl) (by kernel_rfl) (e := Extern.SlicesOverlaps.overlaps #[131, 131] #[4]) (by kernel_rfl),
    Lib.run_overlaps_apart w 131 4 196 Tryz.underlying131 2 timer_size ⟨vb, 0, none⟩ ⟨g, o, none⟩ 1 1 lb cb hne 196 196 2 cur.length (by simp [World.shape?, hv.2, Tm.cells]) (by simp [World.shape?, hb]) (by omega) (by simp [World.frozen?, hv.2]) (by simp [World.frozen?, hv.2])]
  rfl

theorem run_copy_tm {w : World} {c : Nat → Nat} {k : Nat} (ty : TypeId) {g off N cap : Nat} {xs : List Value} (hrow : Row c k w 196 2 (some ⟨g, off, none⟩) N cap xs) (at_ dl dc : Nat) (b : Addr) (sl sc m : Nat) (news : List Value) (hm : m = Nat.min sl dl) (hl : news.length = m * 2) (hfit : at_ + m ≤ N)
    (hnews : ∀ j u, news[j]? = some u → w.cell? (b.add j) = some u) (h1 : ∀ u ∈ news, u.oneCell' = true) :
    ∃ w', (Builtin.copy_ #[131, 131] ty #[.slice (some ⟨g, off + at_ * 2, none⟩) dl dc, .slice (some b) sl sc]).run Tryz.prog w = .ok (goInt m) w' ∧
      Row c k w' 196 2 (some ⟨g, off, none⟩) N cap (xs.take (at_ * 2) ++ news ++ xs.drop ((at_ + m) * 2)) ∧ Stp (· = k) c c w w' ∧ Others w w' (some ⟨g, off, none⟩) := by
  obtain ⟨i, hi, _, hs, _⟩ := info_parts Tryz.infoTimer
  rw [← hs] at hrow hl ⊢
  exact run_copy_row w c k 131 ty 196 i Tryz.underlying131 hi g off N cap xs hrow at_ dl dc b sl sc m news hm hl hfit hnews h1

theorem flat_drop (l : List Tm) (i : Nat) : (l.drop i).flatMap Tm.cells = (l.flatMap Tm.cells).drop (i * 2) := by
  induction i generalizing l with
  | zero => simp
  | succ i ih =>
    cases l with
    | nil => simp
    | cons x l =>
      rw [List.drop_succ_cons, ih, List.flatMap_cons, Nat.add_mul, Nat.one_mul, Nat.add_comm, ← List.drop_drop]
      rfl

theorem flat_take (l : List Tm) (i : Nat) : (l.take i).flatMap Tm.cells = (l.flatMap Tm.cells).take (i * 2) := by
  induction i generalizing l with
  | zero => simp
  | succ i ih =>
    cases l with
    | nil => simp
    | cons x l =>
      rw [List.take_succ_cons, List.flatMap_cons, List.flatMap_cons, ih, show (i + 1) * 2 = i * 2 + 1 + 1 by omega]
      simp [Tm.cells]

theorem ins_eq {l : List Tm} {n i : Nat} {sp : List Value} {y : Tm} (hl : l.length = n) (hi : i < n) (hsp : sp.length = 1 * 2) :
    (((l.flatMap Tm.cells ++ sp).take ((i + 1) * 2) ++ (l.drop i).flatMap Tm.cells ++ (l.flatMap Tm.cells ++ sp).drop ((i + 1 + (n - i)) * 2)).take (i * 2) ++ y.cells ++
      ((l.flatMap Tm.cells ++ sp).take ((i + 1) * 2) ++ (l.drop i).flatMap Tm.cells ++ (l.flatMap Tm.cells ++ sp).drop ((i + 1 + (n - i)) * 2)).drop ((i + 1) * 2)) = (l.take i ++ y :: l.drop i).flatMap Tm.cells := by
  have hf : (l.flatMap Tm.cells).length = n * 2 := by rw [flat_len Tm.cells 2 Tm.len, hl]
  have e0 : (l.flatMap Tm.cells ++ sp).drop ((i + 1 + (n - i)) * 2) = [] := List.drop_of_length_le (by rw [List.length_append, hf, hsp]; omega)
  have e1 : ((l.flatMap Tm.cells ++ sp).take ((i + 1) * 2)).length = (i + 1) * 2 := by rw [List.length_take, List.length_append, hf, hsp]; omega
  rw [e0, List.append_nil, List.take_append_of_le_length (by rw [e1]; omega), List.take_take, Nat.min_eq_left (by omega), List.take_append_of_le_length (by rw [hf]; omega), ← flat_take,
    List.drop_append, e1, Nat.sub_self, List.drop_of_length_le (by rw [e1]; exact Nat.le_refl _), List.nil_append, List.drop_zero]
  simp [List.flatMap_append, List.flatMap_cons]

set_option maxRecDepth 100000 in
set_option maxHeartbeats 2000000 in
theorem kinsert_shift {c : Nat → Nat} {k : Nat} {w : World} {g off n cap i : Nat} {l : List Tm} {vb : Nat} {y : Tm} (h : Row c k w 196 2 (some ⟨g, off, none⟩) n cap (l.flatMap Tm.cells)) (hl : l.length = n) (hv : Blk c 0 w vb y.cells 196) (hk : k ≠ 0) (hi : i < n) (hroom : n + 1 ≤ cap) (hn : (n : Int) ≤ 1000) :
    Calls Tryz.prog 113 #[.slice (some ⟨g, off, none⟩) n cap, .int .i64 i, .slice (some ⟨vb, 0, none⟩) 1 1] w fun e w' => ∃ ao' cap', e = .returned (.slice ao' (n + 1) cap') ∧ ∃ c', Stp (· = k) c c' w w' ∧ Row c' k w' 196 2 ao' (n + 1) cap' ((l.take i ++ y :: l.drop i).flatMap Tm.cells) := by
  have hmax : cap ≤ 9223372036854775807 := by have := h.2.2.1; simp only [maxLen] at this; omega
  have H := Lib.hid h
  have V := Lib.hid hv
  have hov := overlaps_no h hv hk (by omega)
  have W1 : wrap64 ((n : Int) + 1) = n + 1 := IntWalk.wrap64_in _ ⟨by omega, by omega⟩
  have W2 : wrap64 ((i : Int) + 1) = i + 1 := IntWalk.wrap64_in _ ⟨by omega, by omega⟩
  have W3 : IntKind.i64.wrap ((i : Int) + 1) = i + 1 := by rw [IntKind.wrap_i64]; omega
  have z1 : ¬ cap = i := by omega
  have z2 : ¬ cap = i + 1 := by omega
  have z3 : ((i : Int) == (n : Int)) = false := by simp; omega
  have z4 : decide ((cap : Int) < (n : Int) + 1) = false := by simp; omega
  have z5 : i ≤ n := by omega
  have z6 : (n : Int) + 1 ≤ cap := by omega
  have z7 : (i : Int) + 1 ≤ (n : Int) + 1 := by omega
  have z8 : (i : Int) ≤ (n : Int) + 1 := by omega
  have z9 : ¬ ((i : Int) = (n : Int)) := by omega
  have ha : ((n : Int) + 1).toNat = n + 1 := by omega
  have hb : ((i : Int) + 1).toNat = i + 1 := by omega
  have hc0 : (0 : Int) ≤ (n : Int) + 1 := by omega
  have hc1 : (0 : Int) ≤ (i : Int) + 1 := by omega
  obtain ⟨sp, hsp, hr2⟩ := h.extend 1 hroom
  have R2 := Lib.hid hr2
  have Hsp := Lib.hid hsp
  have Hl := Lib.hid hl
  clear h hv hr2 hsp hl hn
  go_enter Tryz.func113, Tryz.ntmps113
  go_wp2_with (simp only [hov])
  clear hov
  have hD := (H.out.drew.drop i z5)
  rw [← flat_drop] at hD
  have hnews : Hid (∀ j u, ((l.drop i).flatMap Tm.cells)[j]? = some u → w.drew.cell? ((⟨g, off + i * 2, none⟩ : Addr).add j) = some u) := Lib.hid (fun j u hu => by
    obtain ⟨a, hae, _, hcc, _⟩ := hD.cell hu
    cases hae
    exact hcc)
  have hnl : Hid (((l.drop i).flatMap Tm.cells).length = (n - i) * 2) := Lib.hid (by rw [flat_len Tm.cells 2 Tm.len, List.length_drop, Hl.out])
  have hmin : Hid (n - i = Nat.min (n + 1 - i) (n + 1 - (i + 1))) := Lib.hid (by simp only [Nat.min_def]; split <;> omega)
  have hmin2 : Hid (1 = Nat.min 1 (n + 1 - i)) := Lib.hid (by simp only [Nat.min_def]; split <;> omega)
  clear hD
  go_region_law (refine step_copy rfl (.tmp 73) (.tmp 76) 131 rfl c k 196 2 Tryz.underlying131 (by kernel_rfl) g off (n + 1) cap (l.flatMap Tm.cells ++ sp) R2.out.drew (i + 1) (n + 1 - (i + 1)) (cap - (i + 1)) (by simp [Act.eval, Act.put]) ⟨g, off + i * 2, none⟩ (n + 1 - i) (cap - i) (n - i) ((l.drop i).flatMap Tm.cells) (by simp [Act.eval, Act.put]) hmin.out hnl.out (by omega) hnews.out (tm_one _) ?_; intro w1 r1 s1 o1)
  all_goals
    have R1 := Lib.hid r1
    have S1 := Lib.hid ((Stp.refl (· = k) c w).drew.trans s1)
    have V1 := Lib.hid (V.out.drew.stp s1 (by simpa using Ne.symm hk))
    have hnv : Hid (∀ j u, y.cells[j]? = some u → w1.cell? ((⟨vb, 0, none⟩ : Addr).add j) = some u) := Lib.hid (fun j u hu => by
      rw [Addr.add_lit, Nat.zero_add, V1.out.cell]; exact hu)
    clear r1 s1 o1
    obtain ⟨w2, hr2, r2, s2, -⟩ := run_copy_tm 3 R1.out i (n + 1 - i) (cap - i) ⟨vb, 0, none⟩ 1 1 1 y.cells hmin2.out rfl (by omega) hnv.out (by simp [Tm.cells, Value.oneCell'])
    have R3 := Lib.hid r2
    have S3 := Lib.hid (S1.out.trans s2)
    clear r2 s2
    go_wp2
    go_ret
    refine ⟨_, _, rfl, c, S3.out, ?_⟩
    have r := R3.out
    rw [ins_eq Hl.out hi Hsp.out] at r
    exact r
end Go.Proofs.YtiphdedfbafhkaaGreatDoor
