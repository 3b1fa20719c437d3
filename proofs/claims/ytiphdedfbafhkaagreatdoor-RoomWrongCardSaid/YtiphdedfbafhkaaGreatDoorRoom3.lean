/- Contracts of a room's at, Enlist, Signal, as the example wants them. No condition beyond each contract's own. -/
import Derived.Test.YtiphdedfbafhkaaGreatDoorRoom2
import Derived.Deep.LoopGhost
namespace Go.Proofs.YtiphdedfbafhkaaGreatDoor
open Go.RowKit

theorem sindex_no {c : Nat → Nat} {k : Nat} {w : World} {ao : Option Addr} {n cap : Nat} {l : List Int} (h : In c k w 1 ao n cap (l.map (Value.int .i64))) (v : Int) (hno : ∀ x ∈ l, (v == x) = false) :
    Calls Tryz.prog 116 #[.slice ao n cap, .int .i64 v] w fun e w' => e = .returned (.int .i64 (-1)) ∧ w' = w := by
  have H := Lib.hid h
  have Hno := Lib.hid hno
  have Hl := Lib.hid (show l.length = n by simpa using h.1)
  have hcap : n ≤ 9223372036854775807 := by have h1 := h.2.1; have h2 := h.2.2.1; simp only [maxLen] at h2; omega
  clear h hno
  go_enter Tryz.func116, Tryz.ntmps116
  go_wp2
  go_loopg [8] n (fun gh i wr => wr = w ∧ ∃ j : Nat, i = .int .i64 j ∧ j + gh = n)
  case atStart => exact ⟨rfl, 0, rfl, by omega⟩
  case round =>
    obtain ⟨hw, j, rfl, hj⟩ := hrel
    subst hw
    by_cases hlt : j < n
    · obtain ⟨a, ha, y0⟩ := H.out.ints (j := j) hlt
      subst ha
      have hx := Hno.out (l.getD j 0) (by have := Hl.out; simp [List.getD, show j < l.length by omega])
      generalize l.getD j 0 = y at *
      go_wp2
      go_roundg (gk - 1)
      case rel => exact ⟨rfl, j + 1, by go_num, by omega⟩
      case measure => omega
    · go_wp2
      go_ret
      exact ⟨rfl, rfl⟩

theorem scontains_no {c : Nat → Nat} {k : Nat} {w : World} {ao : Option Addr} {n cap : Nat} {l : List Int} (h : In c k w 1 ao n cap (l.map (Value.int .i64))) (v : Int) (hno : ∀ x ∈ l, (v == x) = false) :
    Calls Tryz.prog 68 #[.slice ao n cap, .int .i64 v] w fun e w' => e = .returned (.bool false) ∧ w' = w := by
  have H := Lib.hid h
  have Hno := Lib.hid hno
  clear h hno
  go_enter Tryz.func68, Tryz.ntmps68
  go_wp2_with fail
  refine (sindex_no H.out v Hno.out).mono ?_
  rintro e w1 ⟨rfl, rfl⟩
  go_wp2
  go_ret
  exact ⟨rfl, rfl⟩

section
variable {c c' : Nat → Nat} {K : Nat} {w w' : World} {r ar ck tb g : Nat} {a : Addr} {rc : Nat} {la : List Int} {now now' : Int} {tl tl' : List Tm} {l l' : List One} {v1 v2 v3 : Value} {wl : List Int} {ao : Option Addr} {cap : Nat}

theorem R1.go (h : R1 c K w r ar ck tb g a rc la now tl l v1 v2 v3 wl ao cap) (s : Stp (JR K) c c' w w') (m : RM c' K w' r ar ck tb (.slice (some a) 1 rc) la now' tl' l') : R1 c' K w' r ar ck tb g a rc la now' tl' l' v1 v2 v3 wl ao cap :=
  ⟨m, h.rr.stp s (by unfold JR; omega), h.rg.gb.stp s (by unfold JR; omega), h.rg.wr.stp s (by unfold JR; omega)⟩

theorem rmat_c (h : R1 c K w r ar ck tb g a rc la now tl l v1 v2 v3 wl ao cap) :
    Calls Tryz.prog 55 #[.pointer (some ⟨r, 0, none⟩), .int .i64 0] w fun e w' => e = .returned (.tuple #[.pointer (some ⟨g, 0, none⟩), .nilIface]) ∧ w = w' := by
  have c3 := h.rm.rb.cell 3
  simp at c3
  obtain ⟨a', ha, hs, hc, -, -, -⟩ := h.rr.cell (j := 0) (v := .pointer (some ⟨g, 0, none⟩)) rfl
  cases ha
  have e0 : a.add 0 = a := by simp [Addr.add]
  rw [e0] at hc
  clear h
  go_enter Tryz.func55, Tryz.ntmps55
  go_wp2
  go_ret2
  exact ⟨rfl, rfl⟩

set_option maxRecDepth 100000 in
set_option maxHeartbeats 1000000 in
theorem rmenlist_c (h : R1 c K w r ar ck tb g a rc la now tl l v1 v2 v3 wl ao cap) {j : Nat} {x : One} (hj : l[j]? = some x) (hx : x.state ≠ 2) (hno : ∀ z ∈ wl, (((j : Nat) : Int) == z) = false) (hlen : wl.length ≤ 100) :
    Calls Tryz.prog 16 #[.pointer (some ⟨r, 0, none⟩), .int .i64 0, .int .i64 j] w fun e w' => e = .returned .nilIface ∧ ∃ ao' cap' c', Stp (K ≤ ·) c c' w w' ∧ R1 c' K w' r ar ck tb g a rc la now tl l v1 v2 v3 (wl ++ [(j : Int)]) ao' cap' := by
  have H := Lib.hid h
  have Hj := Lib.hid hj
  have Hx := Lib.hid hx
  have Hno := Lib.hid hno
  have d2 := Lib.hid (show wl.length + 1 ≤ maxLen by simp only [maxLen]; omega)
  have d3 := Lib.hid (show (wl.length + 1) * 8 ≤ 140737488355328 by omega)
  clear h hj hx hno hlen
  go_enter Tryz.func16, Tryz.ntmps16
  go_wp2_with fail
  refine (rmat_c H.out).mono ?_
  rintro e w1 ⟨rfl, rfl⟩
  go_wp2_with fail
  refine (rmright_c H.out.rm Hj.out Hx.out).mono ?_
  rintro e w1 ⟨rfl, rfl⟩
  have g4 := H.out.rg.gb.cell 4
  have f4 := H.out.rg.gb.free 4
  simp at g4
  go_wp2_with fail
  refine (scontains_no H.out.rg.wr.toIn (j : Int) Hno.out).mono ?_
  rintro e w1 ⟨rfl, rfl⟩
  go_wp2_with (at_builtin; refine wpList_append_row _ rfl (.tmp 36) (.tmp 38) 29 rfl (paint c w1.heap.size (K + 7)) (K + 7) 3 (.int .i64 0) 1 8 Tryz.underlying29 Tryz.infoIntK rfl ao wl.length cap (wl.map (Value.int .i64)) rfl (H.out.rg.wr.alloc _ (K + 7)) _ 1 [.int .i64 (j : Int)] rfl (Src.one _ _ _) (by simp [Value.oneCell']) d2.out d3.out ?_)
  rintro so2 sc2 w6 r6 s6 -
  have T7 := Lib.hid (((Stp.refl (· = K + 7) c w1).alloc (.cells #[.int .i64 (j : Int)] 3) (K + 7)).trans s6)
  obtain ⟨c7, hc7⟩ : ∃ c7, c7 = paint (paint c w1.heap.size (K + 7)) (w1.heap.size + 1) (K + 7) := ⟨_, rfl⟩
  rw [← hc7] at T7 r6
  have R7 := Lib.hid r6
  have G7 := Lib.hid (H.out.rg.gb.stp T7.out (by omega))
  have g4' := G7.out.cell 4
  have f4' := G7.out.free 4
  simp at g4'
  clear r6 s6 hc7 g4 f4
  go_wp2
  go_ret
  have T8 := (Stp.refl (· = K + 5) c7 w6).setCell (p := ⟨g, 4, none⟩) (.slice so2 (wl.length + 1) sc2) G7.out.1
  have T := T7.out.mono (J' := fun j => j = K + 5 ∨ j = K + 7) (fun j hj => .inr hj) |>.trans (T8.mono (fun j hj => .inl hj))
  refine ⟨rfl, so2, sc2, c7, T.mono (fun j hj => by omega), H.out.rm.stp T (by omega) (by omega) (by omega) (by omega) (by omega), H.out.rr.stp T (by omega), ?_, ?_⟩
  · simpa using G7.out.set 4 (.slice so2 (wl.length + 1) sc2)
  · simpa using R7.out.stp T8 (by omega)

set_option maxRecDepth 100000 in
set_option maxHeartbeats 1000000 in
/-- Signal where the first of two is parked, the second ready. -/
theorem rmsignal_c (h : R1 c K w r ar ck tb g a rc la now [] [⟨1, false, 0⟩, ⟨0, false, 0⟩] v1 v2 v3 [0, 1] ao cap) :
    Calls Tryz.prog 10 #[.pointer (some ⟨r, 0, none⟩), .int .i64 0] w fun e w' => e = .returned (.tuple #[.int .i64 1, .nilIface]) ∧ ∃ c', Stp (K ≤ ·) c c' w w' ∧ RM c' K w' r ar ck tb (.slice (some a) 1 rc) la now [] [⟨0, false, 1⟩, ⟨0, true, 1⟩] := by
  have H := Lib.hid h
  obtain ⟨a0, ha, hs, hc0, -, -, -⟩ := h.rg.wr.cell (j := 0) (v := .int .i64 0) rfl
  cases ha
  obtain ⟨a1, ha, hs1, hc1, -, -, -⟩ := h.rg.wr.cell (j := 1) (v := .int .i64 1) rfl
  cases ha
  have e0 : a0.add 0 = a0 := by simp [Addr.add]
  rw [e0] at hc0
  have HC1 := Lib.hid h.rg.wr
  have hg4 := h.rg.gb.cell 4
  simp at hg4
  clear h e0 hs hs1
  go_enter Tryz.func10, Tryz.ntmps10
  go_wp2_with fail
  refine (rmat_c H.out).mono ?_
  rintro e w1 ⟨rfl, rfl⟩
  go_wp2
  refine wp_loop_rounds 3 ?_
  rw [rounds_succ]
  go_wp2_with fail
  refine (rmwake_parked (j := 0) H.out.rm rfl rfl (by decide) (by decide) (by decide)).mono ?_
  rintro e w2 ⟨rfl, c2, s2, m2⟩
  have H2 := Lib.hid (H.out.go s2 m2)
  have S2 := Lib.hid s2
  obtain ⟨a2, ha, -, hc2, -, hadd, -⟩ := H2.out.rg.wr.cell (j := 1) (v := .int .i64 1) rfl
  cases ha
  have hc2' := hc2
  rw [hadd] at hc2'
  clear s2 m2 hc0 hc1 hg4 hadd
  go_wp2
  rw [rounds_succ]
  go_wp2_with fail
  refine (rmwake_ready (j := 1) H2.out.rm rfl (by decide) (by decide) (by decide) (by decide) (by decide)).mono ?_
  rintro e w3 ⟨rfl, c3, s3, m3⟩
  have H3 := Lib.hid (H2.out.go s3 m3)
  have S3 := Lib.hid (S2.out.trans s3)
  have g4 := H3.out.rg.gb.cell 4
  have f4 := H3.out.rg.gb.free 4
  simp at g4
  clear s3 m3 hc2 hc2'
  go_wp2
  rw [rounds_succ]
  go_wp2
  go_ret2
  have T8 := (Stp.refl (· = K + 5) c3 w3).setCell (p := ⟨g, 4, none⟩) (.slice none 0 0) H3.out.rg.gb.1
  exact ⟨rfl, c3, (S3.out.mono (fun j hj => by unfold JR at hj; omega)).trans (T8.mono (fun j hj => by omega)), H3.out.rm.stp T8 (by omega) (by omega) (by omega) (by omega) (by omega)⟩
end
end Go.Proofs.YtiphdedfbafhkaaGreatDoor
