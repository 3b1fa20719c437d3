/- Contracts of the arena's Swap, of Least of a group and of a scan's Step, where the arena's count of steps is of no account. No condition beyond each contract's own. -/
import Derived.Test.YtiphdedfbafhkaaGreatDoorAvail
import Derived.Test.YtiphdedfbafhkaaGreatDoorGate3
namespace Go.Proofs.YtiphdedfbafhkaaGreatDoor
open Go.RowKit

theorem ArenaAt.toS {c : Nat → Nat} {k : Nat} {w : World} {p : Nat} {l : List Int} {s : Int} (h : ArenaAt c k w p l s) : ArenaS c k w p l := ⟨s, h⟩

theorem swap_sno {c : Nat → Nat} {k : Nat} {w : World} {p : Nat} {l : List Int} (h : ArenaS c k w p l) (j : Nat) (old v : Int) (hj : j < l.length) (ho : l.getD j 0 ≠ old) :
    Calls Tryz.prog 123 #[.pointer (some ⟨p, 0, none⟩), .int .i64 j, .int .i64 old, .int .i64 v] w fun e w' => e = .returned (.tuple #[.bool false, .nilIface]) ∧ ∃ c', Stp (· = k) c c' w w' ∧ ArenaS c' k w' p l := by
  obtain ⟨s, h⟩ := h
  have Hat := Lib.hid h
  obtain ⟨g, off, cap, hb, hr, hc, hf, hne⟩ := (h.step (wrap64 (s + 1))).open_cell hj
  have Hb := Lib.hid hb
  have c0 := hb.cell 0
  simp at c0
  generalize l.getD j 0 = x at *
  have ho' : (x != old) = true := by simpa using ho
  clear hb hr h ho
  go_enter Tryz.func123, Tryz.ntmps123
  go_wp2_with (go_at_call 80; refine (at_s Hat.out _ _ (by omega) (by omega)).mono ?_; rintro e w' ⟨rfl, rfl⟩)
  go_ret2
  exact ⟨rfl, _, (Stp.refl _ c w).setCell _ Hb.out.1, _, Hat.out.step _⟩

theorem swap_syes {c : Nat → Nat} {k : Nat} {w : World} {p : Nat} {l : List Int} (h : ArenaS c k w p l) (j : Nat) (old v : Int) (hj : j < l.length) (ho : l.getD j 0 = old) :
    Calls Tryz.prog 123 #[.pointer (some ⟨p, 0, none⟩), .int .i64 j, .int .i64 old, .int .i64 v] w fun e w' => e = .returned (.tuple #[.bool true, .nilIface]) ∧ ∃ c', Stp (· = k) c c' w w' ∧ ArenaS c' k w' p (l.set j v) := by
  obtain ⟨s, h⟩ := h
  have Hat := Lib.hid h
  obtain ⟨g, off, cap, hb, hr, hc, hf, hne⟩ := (h.step (wrap64 (s + 1))).open_cell hj
  have Hb := Lib.hid hb
  have Hr := Lib.hid hr
  have c0 := hb.cell 0
  simp at c0
  rw [ho] at hc
  have ho' : (old != old) = false := by simp
  clear hb hr h ho
  go_enter Tryz.func123, Tryz.ntmps123
  go_wp2_with (go_at_call 80; refine (at_s Hat.out _ _ (by omega) (by omega)).mono ?_; rintro e w' ⟨rfl, rfl⟩)
  go_ret2
  exact ⟨rfl, _, ((Stp.refl _ c w).setCell _ Hb.out.1).setCell _ Hr.out.2.2.2.2.1, _, ArenaAt.put Hb.out Hr.out j hj v⟩

def LeastRelS (c : Nat → Nat) (ka : Nat) (w : World) (q : Nat) (la : List Int) (l : List Int) (most : Int) (m i : Value) (wr : World) : Prop :=
  ∃ (c' : Nat → Nat) (j : Nat) (x : Int), i = .int .i64 j ∧ j ≤ l.length ∧ m = .int .i64 x ∧ x = ((l.take j).map (valAt la)).foldl min most ∧ Stp (· = ka) c c' w wr ∧ ArenaS c' ka wr q la

theorem scstep_s {c : Nat → Nat} {k ka : Nat} {w : World} {q : Nat} {ao : Option Addr} {n cap : Nat} {x : Int} {r la : List Int} (h : In c k w 1 ao n cap ((x :: r).map (Value.int .i64))) (ha : ArenaS c ka w q la) (hne : k ≠ ka) (hx : 0 ≤ x ∧ x < la.length) (m : Int) :
    Calls Tryz.prog 121 #[.agg #[.slice ao n cap, .int .i64 m], .pointer (some ⟨q, 0, none⟩)] w fun e w' => ∃ ao' cap', e = .returned (.tuple #[.agg #[.slice ao' (n - 1) cap', .int .i64 (min m (valAt la x))], .nilIface]) ∧ ∃ c', Stp (· = ka) c c' w w' ∧ ArenaS c' ka w' q la ∧ In c' k w' 1 ao' (n - 1) cap' (r.map (Value.int .i64)) := by
  have hn : 0 < n := by have := h.1; simp at this; omega
  have hn0 : ((n : Int) == 0) = false := by simp; omega
  obtain ⟨a, hao, hc⟩ := h.ints hn
  obtain ⟨_, ha', hck, hal, _⟩ := h.2.2.2.2 hn
  subst hao
  cases ha'
  simp [Addr.add] at hc
  obtain ⟨t, ht⟩ := Int.eq_ofNat_of_zero_le hx.1
  have htl : t < la.length := by omega
  have hA : ∀ o1 o2 o3 : Obj, (((w.alloc o1).alloc o2).alloc o3).cell? a = some (.int .i64 (t : Int)) := fun o1 o2 o3 => by
    rw [World.cell?_alloc_lt _ _ _ (by simp; omega), World.cell?_alloc_lt _ _ _ (by simp; omega), World.cell?_alloc_lt _ _ _ hal, hc, ht]
  obtain ⟨c3, st3, B0, B1⟩ := three_boxes c (ka + 1) w [.slice (some a) n cap, .int .i64 m] [.slice none 0 0, .int .i64 0] [.slice (some a) n cap, .int .i64 m] 31
  have S3 := Lib.hid st3
  have Ha := Lib.hid (ha.stp st3 id)
  have HB0 := Lib.hid B0
  have HB1 := Lib.hid B1
  have hv : valAt la x = la.getD t 0 := by rw [ht]; rfl
  have Hv := Lib.hid hv
  have Hin := Lib.hid (h.drop (q := 1) (by omega))
  have Hcap := Lib.hid h.2.1
  clear h ha hx hc st3 B0 B1 hv ht
  go_enter Tryz.func121, Tryz.ntmps121
  go_wp2_with (go_at_call 119; refine (scdone _ _ _ _ _).mono ?_; rintro e w' ⟨rfl, rfl⟩)
  refine (load_s Ha.out t htl).mono ?_
  rintro e w2 ⟨rfl, c2, s2, h2⟩
  have B0 := HB0.out.stp s2 (by omega)
  have B1 := HB1.out.stp s2 (by omega)
  have d0 := B0.cell 0
  have d1 := B0.cell 1
  have e0 := B1.cell 0
  have e1 := B1.cell 1
  have f0 := B1.free 0
  have f1 := B1.free 1
  simp at d0 d1 e0 e1
  have hlt := B1.lt
  have S := Lib.hid ((S3.out.mono (fun _ h => h.elim)).trans s2)
  have H2 := Lib.hid h2
  have X1 := Lib.hid B1
  generalize la.getD t 0 = v at *
  clear B0 B1 HB0 HB1 s2 h2
  go_wp2
  have hcap := Hcap.out
  have i1 : (1 : Int) ≤ (n : Int) := by omega
  have i2 : (n : Int) ≤ (cap : Int) := by omega
  obtain ⟨mm, hmm⟩ : ∃ mm : Int, (if v < m then v else m) = mm := ⟨_, rfl⟩
  have Hmm : Hid (min m (valAt la x) = mm) := Lib.hid (by rw [Hv.out, ← hmm]; split <;> omega)
  by_cases hc1 : cap = 1
  · subst hc1
    obtain rfl : n = 1 := by omega
    go_region
    go_wp2
    have T : Stp (· = ka + 1) c2 c2 w2 _ := (((Stp.refl (· = ka + 1) c2 w2).setCell (p := ⟨w.heap.size + 1, 0, none⟩) (.slice (some a) 0 0) X1.out.1).setCell (p := ⟨w.heap.size + 1, 1, none⟩) (.int .i64 mm) X1.out.1).drew
    refine bodyPost_ret (v := .tuple #[.agg #[.slice (some a) 0 0, .int .i64 mm], .nilIface]) (by simp [results, Tryz.results121, go_sem, e0, e1]) rfl ⟨some a, 0, by rw [Hmm.out], c2, ((S.out.setNew _ (by simp)).setNew _ (by simp)).drew, H2.out.stp T (by omega), ?_⟩
    have := Hin.out.stp (((S.out.setNew (p := ⟨w.heap.size + 1, 0, none⟩) (.slice (some a) 0 0) (by simp)).setNew (p := ⟨w.heap.size + 1, 1, none⟩) (.int .i64 mm) (by simp)).drew) hne
    simpa using this
  · have hc2 : (1 : Int) < (cap : Int) := by omega
    go_region
    go_wp2
    have T : Stp (· = ka + 1) c2 c2 w2 _ := (((Stp.refl (· = ka + 1) c2 w2).setCell (p := ⟨w.heap.size + 1, 0, none⟩) (.slice (some (a.add 1)) (n - 1) (cap - 1)) X1.out.1).setCell (p := ⟨w.heap.size + 1, 1, none⟩) (.int .i64 mm) X1.out.1).drew
    refine bodyPost_ret (v := .tuple #[.agg #[.slice (some (a.add 1)) (n - 1) (cap - 1), .int .i64 mm], .nilIface]) (by simp [results, Tryz.results121, go_sem, e0, e1]) rfl ⟨some (a.add 1), cap - 1, by rw [Hmm.out], c2, ((S.out.setNew _ (by simp)).setNew _ (by simp)).drew, H2.out.stp T (by omega), ?_⟩
    have := Hin.out.stp (((S.out.setNew (p := ⟨w.heap.size + 1, 0, none⟩) (.slice (some (a.add 1)) (n - 1) (cap - 1)) (by simp)).setNew (p := ⟨w.heap.size + 1, 1, none⟩) (.int .i64 mm) (by simp)).drew) hne
    simpa [hc1, Addr.add] using this
end Go.Proofs.YtiphdedfbafhkaaGreatDoor
