/- Contracts of the gate's Scan and of Least where a cell is none. No condition beyond each contract's own. -/
import Derived.Test.YtiphdedfbafhkaaGreatDoorGate
namespace Go.Proofs.YtiphdedfbafhkaaGreatDoor
open Go.RowKit

theorem three_boxes (c : Nat → Nat) (k : Nat) (w : World) (xs ys zs : List Value) (t : TypeId) :
    ∃ c', Stp (fun _ => False) c c' w (((w.alloc (.cells xs.toArray t)).alloc (.cells ys.toArray t)).alloc (.cells zs.toArray t)) ∧
      Blk c' k (((w.alloc (.cells xs.toArray t)).alloc (.cells ys.toArray t)).alloc (.cells zs.toArray t)) w.heap.size xs t ∧
      Blk c' k (((w.alloc (.cells xs.toArray t)).alloc (.cells ys.toArray t)).alloc (.cells zs.toArray t)) (w.heap.size + 1) ys t := by
  refine ⟨_, (((Stp.refl _ c w).alloc _ k).alloc _ k).alloc _ k, ((Blk.new c k w xs t).alloc _ k).alloc _ k, ?_⟩
  have := (Blk.new (paint c w.heap.size k) k (w.alloc (.cells xs.toArray t)) ys t).alloc (.cells zs.toArray t) k
  simpa using this

theorem scdone (ao : Option Addr) (n cap : Nat) (m : Int) (w : World) :
    Calls Tryz.prog 119 #[.agg #[.slice ao n cap, .int .i64 m]] w fun e w' => e = .returned (.bool ((n : Int) == 0)) ∧ w.alloc (.cells #[.slice ao n cap, .int .i64 m] 31) = w' := by
  go_enter Tryz.func119, Tryz.ntmps119
  go_wp2
  go_ret
  exact ⟨rfl, rfl⟩

theorem scleast (ao : Option Addr) (n cap : Nat) (m : Int) (w : World) :
    Calls Tryz.prog 122 #[.agg #[.slice ao n cap, .int .i64 m]] w fun e w' => e = .returned (.int .i64 m) ∧ w.alloc (.cells #[.slice ao n cap, .int .i64 m] 31) = w' := by
  go_enter Tryz.func122, Tryz.ntmps122
  go_wp2
  go_ret
  exact ⟨rfl, rfl⟩

theorem gscan_any {c : Nat → Nat} {k : Nat} {w : World} {p : Nat} {l : List Int} (h : GroupAt c k w p l) (k2 : Nat) (hl : (l.length : Int) ≤ 1048576) (most : Int) :
    Calls Tryz.prog 118 #[.pointer (some ⟨p, 0, none⟩), .int .i64 most] w fun e w' => ∃ ao' cap', e = .returned (.agg #[.slice ao' l.length cap', .int .i64 most]) ∧ ∃ c', Stp (fun _ => False) c c' w w' ∧ Row c' k2 w' 3 1 ao' l.length cap' (l.map (Value.int .i64)) := by
  have H := Lib.hid (h.stp ((Stp.refl (fun _ => False) c w).alloc (.cells #[.slice none 0 0, .int .i64 0] 31) 2) id)
  have Hl := Lib.hid hl
  clear h hl
  go_enter Tryz.func118, Tryz.ntmps118
  go_wp2_with fail
  refine (gcells_any H.out k2 Hl.out).mono ?_
  rintro e w' ⟨ao', cap', rfl, c', s', hr'⟩
  have B := (Blk.new c 2 w [.slice none 0 0, .int .i64 0] 31).stp s' id
  have d0 := B.cell 0
  have d1 := B.cell 1
  have f0 := B.free 0
  have f1 := B.free 1
  simp at d0 d1
  have hlt := B.lt
  have Hb := Lib.hid B
  have S := Lib.hid (((Stp.refl (fun _ => False) c w).alloc (.cells #[.slice none 0 0, .int .i64 0] 31) 2).trans s')
  have R := Lib.hid hr'
  clear B s' hr'
  go_wp2
  refine bodyPost_ret (v := .agg #[.slice ao' l.length cap', .int .i64 most]) (by simp [results, Tryz.results118, go_sem, d0, d1]) rfl ⟨ao', cap', rfl, c', (S.out.setNew _ (Nat.le_refl _)).setNew _ (Nat.le_refl _), ?_⟩
  exact (R.out.other (p := ⟨w.heap.size, 0, none⟩) _ (R.out.ne_blk Hb.out (by decide)) rfl).other (p := ⟨w.heap.size, 1, none⟩) _ (R.out.ne_blk Hb.out (by decide)) rfl

theorem gscan_nil (most : Int) (w : World) :
    Calls Tryz.prog 118 #[.pointer none, .int .i64 most] w fun e w' => e = .returned (.agg #[.slice none 0 0, .int .i64 most]) ∧ w.alloc (.cells #[.slice none 0 0, .int .i64 most] 31) = w' := by
  go_enter Tryz.func118, Tryz.ntmps118
  go_wp2_with (go_at_call 144; refine (gcells_nil _).mono ?_; rintro e w' ⟨rfl, rfl⟩)
  refine bodyPost_ret (v := .agg #[.slice none 0 0, .int .i64 most]) (by simp [results, Tryz.results118, go_sem]) rfl ⟨rfl, rfl⟩

theorem scstep_done (c : Nat → Nat) (ao : Option Addr) (cap : Nat) (m : Int) (a : Value) (w : World) :
    Calls Tryz.prog 121 #[.agg #[.slice ao 0 cap, .int .i64 m], a] w fun e w' => e = .returned (.tuple #[.agg #[.slice ao 0 cap, .int .i64 m], .nilIface]) ∧ ∃ c', Stp (fun _ => False) c c' w w' := by
  go_enter Tryz.func121, Tryz.ntmps121
  go_wp2_with (go_at_call 119; refine (scdone _ _ _ _ _).mono ?_; rintro e w' ⟨rfl, rfl⟩)
  refine bodyPost_ret (v := .tuple #[.agg #[.slice ao 0 cap, .int .i64 m], .nilIface]) (by simp [results, Tryz.results121, go_sem]) rfl ⟨rfl, _, (((Stp.refl _ c w).alloc _ 2).alloc _ 2).alloc _ 2⟩

theorem scstep_bad {c : Nat → Nat} {k ka : Nat} {w : World} {q : Nat} {ao : Option Addr} {n cap : Nat} {x : Int} {r la : List Int} {s : Int} (h : In c k w 1 ao n cap ((x :: r).map (Value.int .i64))) (ha : ArenaAt c ka w q la s) (hx : x < 0 ∨ (la.length : Int) ≤ x) (hka : 2 ≤ ka) (m : Int) :
    Calls Tryz.prog 121 #[.agg #[.slice ao n cap, .int .i64 m], .pointer (some ⟨q, 0, none⟩)] w fun e w' => ∃ ev, e = .returned (.tuple #[.agg #[.slice ao n cap, .int .i64 m], ev]) ∧ ∃ c', Stp (· = ka) c c' w w' ∧ ArenaAt c' ka w' q la s ∧ ErrAt c' w' ev 3 := by
  have hn : 0 < n := by have := h.1; simp at this; omega
  have hn0 : ((n : Int) == 0) = false := by simp; omega
  obtain ⟨a, hao, hc⟩ := h.ints hn
  obtain ⟨_, ha', _, hal, _⟩ := h.2.2.2.2 hn
  subst hao
  cases ha'
  simp [Addr.add] at hc
  have hA : ∀ o1 o2 o3 : Obj, (((w.alloc o1).alloc o2).alloc o3).cell? a = some (.int .i64 x) := fun o1 o2 o3 => by
    rw [World.cell?_alloc_lt _ _ _ (by simp; omega), World.cell?_alloc_lt _ _ _ (by simp; omega), World.cell?_alloc_lt _ _ _ hal]; exact hc
  have Hx := Lib.hid hx
  obtain ⟨c3, st3, B0, B1⟩ := three_boxes c (ka + 1) w [.slice (some a) n cap, .int .i64 m] [.slice none 0 0, .int .i64 0] [.slice (some a) n cap, .int .i64 m] 31
  have S3 := Lib.hid st3
  have Ha := Lib.hid (ha.stp st3 id)
  have HB0 := Lib.hid B0
  have HB1 := Lib.hid B1
  clear h ha hx hc st3 B0 B1
  go_enter Tryz.func121, Tryz.ntmps121
  go_wp2_with (go_at_call 119; refine (scdone _ _ _ _ _).mono ?_; rintro e w' ⟨rfl, rfl⟩)
  refine (load_bad Ha.out _ Hx.out).mono ?_
  rintro e w2 ⟨ev, rfl, c2, s2, h2, he2⟩
  obtain ⟨t, v, rfl⟩ : ∃ t v, ev = .iface t v := by
    rcases he2 with h | ⟨_, _, _, h, _⟩ <;> exact ⟨_, _, h⟩
  have B0 := HB0.out.stp s2 (by omega)
  have B1 := HB1.out.stp s2 (by omega)
  have d0 := B0.cell 0
  have d1 := B0.cell 1
  have e0 := B1.cell 0
  have e1 := B1.cell 1
  have f0 := B1.free 0
  have f1 := B1.free 1
  simp at d0 d1 e0 e1
  have hlt := B1.lt
  have S := Lib.hid ((S3.out.mono (fun _ h => h.elim)).trans s2)
  have H2 := Lib.hid h2
  have E2 := Lib.hid he2
  have X1 := Lib.hid B1
  clear B0 B1 HB0 HB1 s2 h2 he2
  go_wp2
  have T : Stp (· = ka + 1) c2 c2 w2 _ := ((Stp.refl (· = ka + 1) c2 w2).setCell (p := ⟨w.heap.size + 1, 0, none⟩) (.slice (some a) n cap) X1.out.1).setCell (p := ⟨w.heap.size + 1, 1, none⟩) (.int .i64 m) X1.out.1
  refine bodyPost_ret (v := .tuple #[.agg #[.slice (some a) n cap, .int .i64 m], .iface t v]) (by simp [results, Tryz.results121, go_sem, e0, e1]) rfl ⟨_, rfl, c2, (S.out.setNew _ (by simp)).setNew _ (by simp), H2.out.stp T (by omega), E2.out.stp T (by omega)⟩
end Go.Proofs.YtiphdedfbafhkaaGreatDoor
