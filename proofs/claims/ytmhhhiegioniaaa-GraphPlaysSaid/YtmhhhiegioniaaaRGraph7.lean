/- The document's Order and Depths of a graph. No condition beyond each contract's own. -/
import Derived.Test.YtmhhhiegioniaaaRGraph4
import Derived.Test.YtmhhhiegioniaaaDepLaw
import Derived.BigQuiet
namespace Go.Proofs.Ytmhhhiegioniaaa
open Go.RowKit Go.Deep

/-- The order, part of the way: behind so many rounds. -/
def OrdR (A : List (List Nat)) (G : List Bool) (j : Nat) (L : List Nat) : Prop := Ordd A G L ∧ ordF A G (A.length - j) L = ordL A G

theorem OrdR.start (A : List (List Nat)) (G : List Bool) : OrdR A G 0 [] := ⟨Ordd.nil A G, rfl⟩

theorem OrdR.next {A : List (List Nat)} {G : List Bool} {j : Nat} {L : List Nat} (h : OrdR A G j L) (hj : j < A.length) {x : Nat} (hx : nextN A G L = some x) : OrdR A G (j + 1) (L ++ [x]) :=
  ⟨h.1.next hx, by rw [← h.2, show A.length - j = (A.length - (j + 1)) + 1 by omega, ordF, hx]⟩

theorem OrdR.stay {A : List (List Nat)} {G : List Bool} {j : Nat} {L : List Nat} (h : OrdR A G j L) (hx : nextN A G L = none) : OrdR A G (j + 1) L :=
  ⟨h.1, by rw [← h.2, ordF_none hx, ordF_none hx]⟩

theorem OrdR.done {A : List (List Nat)} {G : List Bool} {L : List Nat} (h : OrdR A G A.length L) : L = ordL A G := by
  have := h.2
  rw [Nat.sub_self] at this
  exact this

set_option maxRecDepth 100000 in
set_option maxHeartbeats 2000000 in
theorem r13order_any {c : Nat → Nat} {k : Nat} {w : World} {A : List (List Nat)} {G : List Bool} {vs : List Value} {n : Nat} {ao : Option Addr} {cap : Nat} {bo : Option Addr} {bcap : Nat} (h : RefIs c k w A G vs n ao cap bo bcap) (gd : Good A G) (kr kb : Nat) (hk : ¬ GJ k kr) (hkb : kb ≠ kr) :
    Calls Try.prog 101 #[.agg #[.slice ao n cap, .slice bo n bcap]] w fun e w' => ∃ ao cap, e = .returned (.slice ao (ordL A G).length cap) ∧ ∃ c', Stp (· = kr) c c' w w' ∧ Row c' kr w' 3 1 ao (ordL A G).length cap ((ints (ordL A G)).map (Value.int .i64)) := by
  have hle := h.le
  have Gd := Lib.hid gd
  have Hk := Lib.hid hk
  have Hkb := Lib.hid hkb
  have Hla := Lib.hid h.la
  have R0 := Lib.hid (RFRel.start kr kb h)
  clear h gd hk hkb
  go_enter Try.func101, Try.ntmps101
  go_wp2
  obtain ⟨b, hb⟩ : ∃ b, b = w.heap.size := ⟨_, rfl⟩
  rw [← hb] at R0 ⊢
  clear hb
  go_loopg [3, 4] n (fun gh v i wr => ∃ (c' : Nat → Nat) (j : Nat) (L : List Nat) (oo : Option Addr) (N oc : Nat), v = .slice oo N oc ∧ i = .int .i64 j ∧ gh + j = n ∧ OrdR A G j L ∧ RFRel c k kr kb w b A G vs n ao cap bo bcap L oo N oc c' wr)
  case atStart => exact ⟨_, 0, [], none, 0, 0, rfl, rfl, by omega, OrdR.start A G, R0.out⟩
  case round =>
    obtain ⟨c1, j, L, oo, N, oc, rfl, rfl, hg, ho, hr⟩ := hrel
    have R := Lib.hid hr
    have Ho := Lib.hid ho
    have b0 := hr.box.cell 0
    simp at b0
    clear hr ho R0
    obtain ⟨go, rfl⟩ : ∃ go : Nat, go = gk := ⟨_, rfl⟩
    by_cases hlt : j < n
    · have Hg := Lib.hid (show go - 1 + (j + 1) = n ∧ go - 1 < go by omega)
      have Hj := Lib.hid (show j < A.length by rw [Hla.out]; exact hlt)
      clear hg
      go_wp2
      clear b0
      go_loopg [3, 5] n (fun gh v i wr => ∃ (c' : Nat → Nat) (x : Nat), v = .slice oo N oc ∧ i = .int .i64 x ∧ gh + x = n ∧ Hid (∀ q, q < x → nextP A G L q = false) ∧ RFRel c k kr kb w b A G vs n ao cap bo bcap L oo N oc c' wr)
      case atStart => exact ⟨c1, 0, rfl, rfl, by omega, Lib.hid (fun q hq => absurd hq (Nat.not_lt_zero _)), R.out⟩
      case round =>
        obtain ⟨c2, x, rfl, rfl, hg2, HQ, hr⟩ := hrel
        have R2 := Lib.hid hr
        have b0 := hr.box.cell 0
        have b1 := hr.box.cell 1
        simp at b0 b1
        clear hr R
        by_cases hx : x < n
        · have Hx := Lib.hid hx
          have Hx2 := Lib.hid (show x < A.length by rw [Hla.out]; exact hx)
          have Hq := Lib.hid (show nextP A G L x = false → ∀ q, q < x + 1 → nextP A G L q = false from fun e q hq => by
            by_cases e2 : q = x
            · rw [e2, e]
            · exact HQ.out q (by omega))
          by_cases hh : hasB G x = true
          · have Hh := Lib.hid hh
            clear hh
            go_wp2_with fail
            refine (r13has_any R2.out.rf x true Hh.out).mono ?_
            rintro e w5 ⟨rfl, c5, s5⟩
            have R5 := Lib.hid (R2.out.stpF s5)
            clear s5 b0 b1 R2
            have b0 := R5.out.box.cell 0
            simp at b0
            by_cases hin : x ∈ L
            · have Hm := Lib.hid (show decide ((x : Int) ∈ ints L) = true by rw [decide_eq_true_iff, ints_mem]; exact hin)
              have HN := Lib.hid (Hq.out (show nextP A G L x = false by simp [nextP, hin]))
              clear hin
              go_wp2_with (go_at_call 82; refine (in13_any R5.out.row.toIn _ true Hm.out).mono ?_; rintro e w' ⟨rfl, rfl⟩)
              go_roundg (gk - 1)
              case rel => exact ⟨c5, x + 1, rfl, by go_num, by omega, HN, R5.out⟩
              case measure => omega
            · have Hm := Lib.hid (show decide ((x : Int) ∈ ints L) = false by rw [decide_eq_false_iff_not, ints_mem]; exact hin)
              have Hin := Lib.hid hin
              obtain ⟨g, off, oi, ci, rfl, -, -, y0, -, hrow⟩ := R5.out.rf.node hx
              obtain ⟨l, hl⟩ : ∃ l, l = A.getD x [] := ⟨_, rfl⟩
              rw [← hl] at y0 hrow
              obtain ⟨M, hM⟩ : ∃ M, M = l.length := ⟨_, rfl⟩
              have hM64 : M ≤ 64 := by rw [hM, hl]; exact Gd.out.small x
              rw [← hM] at y0 hrow
              have HM := Lib.hid hM
              have Hl := Lib.hid hl
              have HR := Lib.hid hrow
              clear hin hrow hl hM
              obtain ⟨w5', hw5⟩ : ∃ wz : World, wz = w5 := ⟨_, rfl⟩
              go_wp2_with (go_at_call 82; refine (in13_any R5.out.row.toIn _ false Hm.out).mono ?_; rintro e w' ⟨rfl, rfl⟩)
              go_loopw [6, 7] (fun v i wr => ∃ (q : Nat) (u : Bool), v = .bool u ∧ i = .int .i64 q ∧ q ≤ M ∧ Hid ((l.take q).all (fun z => decide (z ∈ L)) = u) ∧ wr = w5') (fun _ i _ => M - (intOf i).toNat)
              case atStart => exact ⟨0, true, rfl, rfl, Nat.zero_le _, Lib.hid rfl, hw5.symm⟩
              case round =>
                obtain ⟨q, u, rfl, rfl, hq, HU, rfl⟩ := hrel
                subst hw5
                by_cases hlt2 : q < M
                · have hql : q < l.length := by rw [← HM.out]; exact hlt2
                  obtain ⟨z, hz⟩ : ∃ z, z = l[q] := ⟨_, rfl⟩
                  obtain ⟨a9, ha9, hs9, hc9, -, hadd9, -⟩ := HR.out.cell (j := q) (v := .int .i64 (z : Nat)) (by rw [getD_val _ _ hql]; simp [List.getD, hql, hz])
                  obtain ⟨g9, off9, sp9⟩ := a9
                  simp only at hs9
                  subst hs9 ha9
                  rw [hadd9] at hc9
                  obtain ⟨bz, hbz⟩ : ∃ bz, decide ((z : Int) ∈ ints L) = bz := ⟨_, rfl⟩
                  have Hz := Lib.hid hbz
                  have HU2 := Lib.hid (show (l.take (q + 1)).all (fun z => decide (z ∈ L)) = (u && bz) by
                    rw [List.take_succ_eq_append_getElem hql, List.all_append, HU.out, ← hz, ← hbz]
                    congr 1
                    simp [ints_mem])
                  clear hbz hz hadd9 hql
                  cases u
                  · go_wp2
                    go_roundw
                    case rel => exact ⟨q + 1, false, rfl, by go_num, by omega, HU2, by first | trivial | rfl⟩
                    case measure => simp [intOf]; omega
                  · go_wp2_with (go_at_call 82; refine (in13_any R5.out.row.toIn _ _ Hz.out).mono ?_; rintro e w' ⟨rfl, rfl⟩)
                    go_roundw
                    case rel => exact ⟨q + 1, bz, rfl, by go_num, by omega, HU2, by first | trivial | rfl⟩
                    case measure => simp [intOf]; omega
                · have HU2 := Lib.hid (show (A.getD x []).all (fun z => decide (z ∈ L)) = u by
                    rw [← HU.out, ← Hl.out, List.take_of_length_le (by rw [← HM.out]; omega)])
                  clear HU
                  cases u
                  · have HN := Lib.hid (Hq.out (show nextP A G L x = false by rw [nextP, HU2.out, Bool.and_false]))
                    go_wp2
                    go_roundg (gk - 1)
                    case rel => exact ⟨c5, x + 1, rfl, by go_num, by omega, HN, R5.out⟩
                    case measure => omega
                  · have HX := Lib.hid (nextN_eq Hx2.out (show nextP A G L x = true by simp only [nextP, Hh.out, HU2.out, decide_eq_false Hin.out]; rfl) HQ.out)
                    have Ho2 := Lib.hid (Ho.out.next Hj.out HX.out)
                    have hN : N ≤ 64 := by have := R5.out.len; have := Ho.out.1.len; have := Hla.out; omega
                    have d1 : Hid (N + 1 ≤ maxLen) := Lib.hid (by unfold maxLen; omega)
                    have d2 : Hid ((N + 1) * 8 ≤ 140737488355328) := Lib.hid (by omega)
                    go_wp2_with (at_builtin; refine wpList_append_row _ rfl (.tmp 55) (.tmp 57) 40 rfl (paint c5 wr.heap.size kr) kr 3 (.int .i64 0) 1 8 Try.underlying40 Try.infoInt rfl oo N oc ((ints L).map (Value.int .i64)) rfl (R5.out.row.alloc _ kr) _ 1 [.int .i64 (x : Int)] rfl (Src.one wr _ 3) (by simp [Value.oneCell']) d1.out d2.out ?_)
                    intro oo2 oc2 w2 hr2 st2 _
                    have s2 := ((Stp.refl (· = kr) c5 wr).alloc (.cells #[.int .i64 (x : Int)] 3) kr).trans st2
                    have R6 := Lib.hid (R5.out.push Hk.out Hkb.out hr2 s2)
                    have hgo := Hg.out
                    clear hr2 st2 s2 y0 hN b0
                    go_wp2
                    go_roundg (go - 1)
                    case rel => exact ⟨_, j + 1, _, oo2, N + 1, oc2, rfl, by go_num, by omega, Ho2.out, R6.out⟩
                    case measure => omega
          · have Hh := Lib.hid (show hasB G x = false by simpa using hh)
            have HN := Lib.hid (Hq.out (show nextP A G L x = false by simp [nextP, Hh.out]))
            clear hh
            go_wp2_with fail
            refine (r13has_any R2.out.rf x false Hh.out).mono ?_
            rintro e w5 ⟨rfl, c5, s5⟩
            have R5 := Lib.hid (R2.out.stpF s5)
            clear s5 b0 b1 R2
            go_wp2
            go_roundg (gk - 1)
            case rel => exact ⟨c5, x + 1, rfl, by go_num, by omega, HN, R5.out⟩
            case measure => omega
        · have Hs := Lib.hid (Ho.out.stay (nextN_eq_none fun i hi => HQ.out i (by have := Hla.out; omega)))
          have hgo := Hg.out
          go_wp2
          go_roundg (go - 1)
          case rel => exact ⟨c2, j + 1, L, oo, N, oc, rfl, by go_num, by omega, Hs.out, R2.out⟩
          case measure => omega
    · have HL := Lib.hid (show L = ordL A G from OrdR.done (by have := Ho.out; rw [show j = A.length by have := Hla.out; omega] at this; exact this))
      go_wp2
      go_ret
      rw [← HL.out, ← R.out.len]
      exact ⟨oo, oc, rfl, c1, R.out.st, R.out.row⟩

theorem r13order_p {c : Nat → Nat} {k : Nat} {w : World} {A : List (List Nat)} {G : List Bool} {vs : List Value} {n : Nat} {ao : Option Addr} {cap : Nat} {bo : Option Addr} {bcap : Nat} (h : RefIs c k w A G vs n ao cap bo bcap) (gd : Good A G) (kr : Nat) :
    Calls Try.prog 101 #[.agg #[.slice ao n cap, .slice bo n bcap]] w (NewInts c kr w (ordL A G)) := by
  refine (r13order_any h.recol gd (k + 70) (k + 71) (by unfold GJ; omega) (by omega)).mono ?_
  rintro e w' ⟨ao, cap, rfl, c', st, hr⟩
  exact ⟨ao, cap, rfl, _, st.pure (fun i => recol_ne c k _ ⟨by omega, by omega⟩ i) c kr, hr.fresh st (recol_ne c k _ ⟨by omega, by omega⟩) c kr⟩
end Go.Proofs.Ytmhhhiegioniaaa
