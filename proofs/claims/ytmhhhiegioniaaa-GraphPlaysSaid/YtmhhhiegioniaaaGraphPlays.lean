/- The walk of the law GraphPlays. No condition. -/
import Derived.Test.YtmhhhiegioniaaaGPlays
import Derived.Deep.RegionHeld3
import Derived.Deep.DeepCutAuto
import Derived.BigQuiet
namespace Go.Proofs.Ytmhhhiegioniaaa
open Go.RowKit Go.Deep

theorem lawis_true13 {c : Nat → Nat} {w : World} {v : Value} {m : Int} (h : Err c w v m) :
    Calls Try.prog 49 #[v, .int .i64 m] w fun e w' => e = .returned (.bool true) ∧ w = w' :=
  (lawis h m).mono fun _ _ ⟨he, hw⟩ => ⟨by simpa using he, hw⟩

set_option maxRecDepth 100000 in
set_option maxHeartbeats 8000000 in
theorem gplays_in {w : World} (ao0 : Option Addr) (n0 cap0 : Nat) (ops : List Op13) (hl : In (fun _ => 0) 0 w 4 ao0 n0 cap0 (ops.flatMap Op13.cells)) (hlen : ops.length = n0) (hin : ∀ x ∈ ops, In (fun _ => 0) 0 w 1 x.lo x.ln x.lc (x.l.map (Value.int .i64))) (hs : smallB ops = true) :
    Calls Try.prog 15 #[.slice ao0 n0 cap0] w fun e w' => e = .returned (.bool true) ∧ Below w.heap.size w w' := by
  have hn80 : n0 ≤ 80 := by
    rw [smallB, Bool.and_eq_true, decide_eq_true_eq] at hs
    omega
  have Hsm := Lib.hid (show ∀ x ∈ ops, x.ln ≤ 20 from fun x hx => by
    rw [smallB, Bool.and_eq_true, List.all_eq_true] at hs
    simpa using hs.1 x hx)
  have Hl := Lib.hid hl
  have Hlen := Lib.hid hlen
  have Hin := Lib.hid hin
  have Hs := Lib.hid hs
  clear hl hlen hin hs
  go_enter Try.func15, Try.ntmps15
  go_wp2_with fail
  refine (small13_any Hl.out Hlen.out true Hs.out).mono ?_
  rintro e w1 ⟨rfl, c1, s1⟩
  have S1 := Lib.hid (show Stp (2 ≤ ·) (fun _ => 0) c1 w w1 from s1.mono (fun _ h => h.elim))
  clear s1
  go_wp2_with fail
  refine (graph_new c1 2 w1).mono ?_
  rintro e w2 ⟨rfl, c2, s2, g2⟩
  obtain ⟨p, hp⟩ : ∃ p, p = w1.heap.size := ⟨_, rfl⟩
  rw [← hp] at g2 ⊢
  have P2 := Lib.hid (GP.start (show LRel w p ([], []) c2 w2 from ⟨S1.out.trans (s2.mono fun _ h => h.elim), g2⟩))
  obtain ⟨mb, hmb⟩ : ∃ mb, mb = w2.heap.size := ⟨_, rfl⟩
  rw [← hmb] at P2
  clear s2 g2 S1 hp
  go_wp2
  rw [← hmb]
  clear hmb
  go_loopw [28] (fun i wr => ∃ (c' : Nat → Nat) (j : Nat) (S : GS) (vs : List Value) (n : Nat) (ao : Option Addr) (cap : Nat) (bo : Option Addr) (bcap : Nat), i = .int .i64 j ∧ j ≤ n0 ∧ GoodS S ∧ GP w p mb S S vs n ao cap bo bcap c' wr) (fun i _ => n0 - (intOf i).toNat)
  case atStart => exact ⟨_, 0, _, _, _, _, _, _, _, rfl, Nat.zero_le _, (show GoodS ([], []) from Good.empty), P2.out⟩
  case round =>
    obtain ⟨c3, j, S, vs, n, ao, cap, bo, bcap, rfl, hj, hg, hp⟩ := hrel
    have Gd := Lib.hid hg
    have P := Lib.hid hp
    clear hg hp P2
    by_cases hlt : j < n0
    · have hil : j < ops.length := by rw [Hlen.out]; exact hlt
      obtain ⟨x, hx⟩ : ∃ x, ops[j]? = some x := ⟨_, List.getElem?_eq_getElem hil⟩
      obtain ⟨a, ha, y0, y1, y2, y3⟩ := op13_cells (Hl.out.stp P.out.lr.st (by decide)) hx
      subst ha
      have Hxm := Lib.hid (List.mem_of_getElem? hx)
      have hln := Hsm.out x (List.mem_of_getElem? hx)
      obtain ⟨c4, hc4, A4⟩ := ((Stp.refl (fun _ => False) c3 wr).alloc (.cells #[.int .i64 x.kd, .int .i64 x.a, .int .i64 x.b, .slice x.lo x.ln x.lc] 136) 90).name
      have P4 := Lib.hid (P.out.stpF A4.out)
      have O4 := Lib.hid (show Blk c4 90 (wr.alloc (.cells #[.int .i64 x.kd, .int .i64 x.a, .int .i64 x.b, .slice x.lo x.ln x.lc] 136)) wr.heap.size [.int .i64 x.kd, .int .i64 x.a, .int .i64 x.b, .slice x.lo x.ln x.lc] 136 by rw [hc4.out]; exact Blk.new c3 90 wr _ _)
      have In4 := Lib.hid ((Hin.out x Hxm.out).stp P4.out.lr.st (by decide))
      obtain ⟨kd, xa, xb, lo, ln, lc, l⟩ := x
      simp only at y0 y1 y2 y3 hln P4 In4 O4 ⊢
      obtain ⟨ob, hob⟩ : ∃ ob, ob = wr.heap.size := ⟨_, rfl⟩
      rw [← hob] at O4
      clear hx hil A4 hc4 P Hxm
      rcases (show kd = 0 ∨ kd = 1 ∨ kd = 2 ∨ (kd ≠ 0 ∧ kd ≠ 1 ∧ kd ≠ 2) by omega) with rfl | rfl | rfl | ⟨h0, h1, h2⟩
      · go_wp2_with fail
        rw [← hob]
        clear hob
        refine (gradd_all P4.out.lr.gr In4.out (by unfold GJ; omega) (by omega)).mono ?_
        rintro e w5 ⟨v, ev, rfl, c5, s5, g5, e5, hv1, hv2⟩
        have P5 := Lib.hid (P4.out.left s5 g5)
        have O5 := Lib.hid (O4.out.stp s5 (by unfold GJ; omega))
        have In5 := Lib.hid (In4.out.stp s5 (by unfold GJ; omega))
        have E5 := Lib.hid e5
        obtain ⟨m0, m1, f0, f1, ml⟩ := P5.out.facts
        have o3 := O5.out.cell 3
        have ol := O5.out.lt
        simp at o3
        clear s5 g5 e5 P4 O4 In4 y0 y1 y2 y3
        go_wp2_with fail
        refine (r13add_all P5.out.rf In5.out (by unfold GJ; omega) (by omega)).mono ?_
        rintro e w6 ⟨vs6, n6, ao6, cap6, bo6, bcap6, rfl, c6, s6, r6⟩
        obtain ⟨m60, m61, f60, f61, ml6, s7, p7⟩ := P5.out.right s6 r6
        have P7 := Lib.hid p7
        have E7 := Lib.hid (E5.out.stp s7 (by unfold GJ; omega))
        have Gd2 := Lib.hid (Gd.out.add l)
        have hn6 : n6 = (addS S l).1.length := r6.la.symm
        have Hn6 := Lib.hid hn6
        have hle6 := r6.le
        obtain ⟨er, her⟩ : ∃ er, er = addN S l := ⟨_, rfl⟩
        rw [← her] at E7 hv1 hv2
        rw [← her]
        obtain ⟨S6, hS6⟩ : ∃ S6, S6 = addS S l := ⟨_, rfl⟩
        have hv3 : er = 0 → v = (n6 : Int) - 1 := fun h => by
          rw [hv1 h, hn6, addS, if_pos (by rw [← her]; exact h)]
          simp
        rw [← hS6] at P7 Gd2
        obtain ⟨m0, m1, -, -, ml⟩ := P7.out.facts
        clear s6 r6 s7 p7 her hS6 hv1 hn6 P5 O5 In5 E5 m0 m1 f0 f1 ml o3 ol Hn6
        obtain ⟨m0, m1, -, -, ml⟩ := P7.out.facts
        by_cases hz : er = 0
        · obtain rfl : v = (n6 : Int) - 1 := hv3 hz
          subst hz
          have tn : (((n6 : Int) - 1) != ((n6 : Int) - 1)) = false := by simp
          clear hv2 hv3
          go_wp2_with fail
          refine (lawis_true13 E7.out).mono ?_
          rintro e w' ⟨rfl, rfl⟩
          go_wp2
          go_quiet ((go_at_call 81; exact P7.out.len_q _))
          go_wp2
          go_roundw
          case rel => exact ⟨c6, j + 1, S6, _, _, _, _, _, _, by go_num, by omega, Gd2.out, P7.out.stpF ((Stp.refl (fun _ => False) _ _).drewN _)⟩
          case measure => simp [intOf]; omega
        · obtain rfl : v = 0 := hv2 hz
          have te : (er == 0) = false := by simpa using hz
          have te2 : (er != 0) = true := by simpa using hz
          clear hv2 hv3 hz
          go_wp2_with fail
          refine (lawis_true13 E7.out).mono ?_
          rintro e w' ⟨rfl, rfl⟩
          go_wp2
          go_quiet ((go_at_call 81; exact P7.out.len_q _))
          go_wp2
          go_roundw
          case rel => exact ⟨c6, j + 1, S6, _, _, _, _, _, _, by go_num, by omega, Gd2.out, P7.out.stpF ((Stp.refl (fun _ => False) _ _).drewN _)⟩
          case measure => simp [intOf]; omega
      · go_wp2_with fail
        rw [← hob]
        clear hob
        refine (grlink_all P4.out.lr.gr Gd.out xa xb).mono ?_
        rintro e w5 ⟨ev, rfl, c5, s5, g5, e5⟩
        have P5 := Lib.hid (P4.out.left s5 g5)
        have O5 := Lib.hid (O4.out.stp s5 (by unfold GJ; omega))
        have E5 := Lib.hid e5
        obtain ⟨m0, m1, f0, f1, ml⟩ := P5.out.facts
        have o1 := O5.out.cell 1
        have o2 := O5.out.cell 2
        have ol := O5.out.lt
        simp at o1 o2
        clear s5 g5 e5 P4 O4 In4 y0 y1 y2 y3
        go_wp2_with fail
        refine (r13link_all P5.out.rf Gd.out xa xb).mono ?_
        rintro e w6 ⟨vs6, n6, ao6, cap6, bo6, bcap6, rfl, c6, s6, r6⟩
        obtain ⟨m60, m61, f60, f61, ml6, s7, p7⟩ := P5.out.right s6 r6
        have P7 := Lib.hid p7
        have E7 := Lib.hid (E5.out.stp s7 (by unfold GJ; omega))
        have Gd2 := Lib.hid (Gd.out.link xa xb)
        have hle6 := r6.le
        obtain ⟨er, her⟩ : ∃ er, er = linkN S xa xb := ⟨_, rfl⟩
        rw [← her] at E7
        rw [← her]
        obtain ⟨S6, hS6⟩ : ∃ S6, S6 = linkS S xa xb := ⟨_, rfl⟩
        rw [← hS6] at P7 Gd2
        clear s6 r6 s7 p7 her hS6 P5 O5 E5 m0 m1 f0 f1 ml o1 o2 ol
        obtain ⟨m0, m1, -, -, ml⟩ := P7.out.facts
        go_wp2_with fail
        refine (lawis_true13 E7.out).mono ?_
        rintro e w' ⟨rfl, rfl⟩
        go_wp2
        go_quiet ((go_at_call 81; exact P7.out.len_q _))
        go_wp2
        go_roundw
        case rel => exact ⟨c6, j + 1, S6, _, _, _, _, _, _, by go_num, by omega, Gd2.out, P7.out.stpF ((Stp.refl (fun _ => False) _ _).drewN _)⟩
        case measure => simp [intOf]; omega
      · go_wp2_with fail
        rw [← hob]
        clear hob
        refine (grdrop_all P4.out.lr.gr xa).mono ?_
        rintro e w5 ⟨ev, rfl, c5, s5, g5, e5⟩
        have P5 := Lib.hid (P4.out.left s5 g5)
        have O5 := Lib.hid (O4.out.stp s5 (by unfold GJ; omega))
        have E5 := Lib.hid e5
        obtain ⟨m0, m1, f0, f1, ml⟩ := P5.out.facts
        have o1 := O5.out.cell 1
        have o2 := O5.out.cell 2
        have ol := O5.out.lt
        simp at o1 o2
        clear s5 g5 e5 P4 O4 In4 y0 y1 y2 y3
        go_wp2_with fail
        refine (r13drop_all P5.out.rf xa).mono ?_
        rintro e w6 ⟨vs6, n6, ao6, cap6, bo6, bcap6, rfl, c6, s6, r6⟩
        obtain ⟨m60, m61, f60, f61, ml6, s7, p7⟩ := P5.out.right s6 r6
        have P7 := Lib.hid p7
        have E7 := Lib.hid (E5.out.stp s7 (by unfold GJ; omega))
        have Gd2 := Lib.hid (Gd.out.drop xa)
        have hle6 := r6.le
        obtain ⟨er, her⟩ : ∃ er, er = dropN S xa := ⟨_, rfl⟩
        rw [← her] at E7
        rw [← her]
        obtain ⟨S6, hS6⟩ : ∃ S6, S6 = dropS S xa := ⟨_, rfl⟩
        rw [← hS6] at P7 Gd2
        clear s6 r6 s7 p7 her hS6 P5 O5 E5 m0 m1 f0 f1 ml o1 o2 ol
        obtain ⟨m0, m1, -, -, ml⟩ := P7.out.facts
        go_wp2_with fail
        refine (lawis_true13 E7.out).mono ?_
        rintro e w' ⟨rfl, rfl⟩
        go_wp2
        go_quiet ((go_at_call 81; exact P7.out.len_q _))
        go_wp2
        go_roundw
        case rel => exact ⟨c6, j + 1, S6, _, _, _, _, _, _, by go_num, by omega, Gd2.out, P7.out.stpF ((Stp.refl (fun _ => False) _ _).drewN _)⟩
        case measure => simp [intOf]; omega
      · have t0 : (kd == 0) = false := by simpa using h0
        have t1 : (kd == 1) = false := by simpa using h1
        have t2 : (kd == 2) = false := by simpa using h2
        obtain ⟨m0, m1, -, -, ml⟩ := P4.out.facts
        clear h0 h1 h2
        go_wp2
        go_quiet ((go_at_call 81; exact P4.out.len_q _))
        go_wp2
        go_roundw
        case rel => exact ⟨c4, j + 1, S, _, _, _, _, _, _, by go_num, by omega, Gd.out, P4.out.stpF ((Stp.refl (fun _ => False) _ _).drewN _)⟩
        case measure => simp [intOf]; omega
    · have hle := P.out.rf.le
      obtain ⟨m0, m1, -, -, ml⟩ := P.out.facts
      go_upto_region 28 with fail
      go_region_held3 (fun w' => w'.cell? ⟨mb, 0, none⟩ = some (.slice ao n cap) ∧ w'.cell? ⟨mb, 1, none⟩ = some (.slice bo n bcap))
        (first | exact ⟨by assumption, by assumption⟩ | go_keep)
        (first
          | (go_at_call 94; refine (GP.ahead_c (by first | exact P.out | exact P.out.stpF (Stp.refl (fun _ => False) _ _).drew | exact P.out.stpF ((Stp.refl (fun _ => False) _ _).drew).drew) Gd.out).mono ?_; rintro e w6 ⟨ta, tcap, B, rfl, c6, P6, T6, m60, m61⟩)
          | (go_at_call 95; refine (GP.depths_c P6.out Gd.out T6.out).mono ?_; rintro e w7 ⟨db, rfl, c7, Q7, m70, m71⟩))
      rename_i hHeld
      clear P P6 T6 m0 m1 m60 m61 m70 m71 ml hHeld hlt hj
      have Hla := Lib.hid Q7.out.gp.rf.la
      obtain ⟨m0, m1, -, -, ml⟩ := Q7.out.gp.facts
      go_wp2
      go_loopw [14, 126] (fun v i wr => ∃ (c' : Nat → Nat) (q : Nat) (oo : Option Addr) (N oc : Nat), v = .slice oo N oc ∧ i = .int .i64 q ∧ q ≤ n ∧ GQ w p mb db S vs n ao cap bo bcap ta tcap B oo N oc ((List.range q).filter (endB S.1 S.2)) c' wr) (fun _ i _ => n - (intOf i).toNat)
      case atStart => exact ⟨c7, 0, none, 0, 0, rfl, rfl, Nat.zero_le _, Q7.out⟩
      case round =>
        clear m0 m1 ml
        obtain ⟨c8, q, oo, N, oc, rfl, rfl, hq, hr⟩ := hrel
        have Q := Lib.hid hr
        clear hr Q7
        by_cases hlt2 : q < n
        · have Hqn := Lib.hid hlt2
          obtain ⟨g, off, he, -, x0, -, -⟩ := Q.out.tab.cell hlt2
          subst he
          have hqn2 : (q : Int) < n := by omega
          clear hq
          go_wp2
          clear x0
          go_loopw [16, 134] (fun v i wr => ∃ (c' : Nat → Nat) (z : Nat) (ro : Option Addr) (RN rc : Nat), v = .slice ro RN rc ∧ i = .int .i64 z ∧ z ≤ n ∧ RN = ((List.range z).filter (reachB S.1 q)).length ∧ Row c' 86 wr 3 1 ro RN rc ((ints ((List.range z).filter (reachB S.1 q))).map (Value.int .i64)) ∧ GQ w p mb db S vs n ao cap bo bcap (some ⟨g, off, none⟩) tcap B oo N oc ((List.range q).filter (endB S.1 S.2)) c' wr) (fun _ i _ => n - (intOf i).toNat)
          case atStart => exact ⟨c8, 0, none, 0, 0, rfl, rfl, Nat.zero_le _, rfl, Row.nil _ _ _ _ _, Q.out⟩
          case round =>
            obtain ⟨c9, z, ro, RN, rc, rfl, rfl, hz, hrn, hrow, hr⟩ := hrel
            have Q9 := Lib.hid hr
            have R9 := Lib.hid hrow
            have Hrn := Lib.hid hrn
            have hRN : RN ≤ 64 := by rw [hrn]; have := range_filter_le (reachB S.1 q) z; omega
            have hqn := Hqn.out
            clear hr hrow hrn Q
            by_cases hzn : z < n
            · obtain ⟨g', off', -, -, -, yl, yr⟩ := Q9.out.tab.cell hqn
              obtain ⟨y1, -⟩ := yr z hzn
              obtain ⟨b, hb⟩ : ∃ b, b = reachB S.1 q z := ⟨_, rfl⟩
              rw [← hb] at y1
              have Hb := Lib.hid hb
              obtain ⟨bq, hbq⟩ : ∃ bq, bq = B q := ⟨_, rfl⟩
              rw [← hbq] at y1 yl
              have hzn2 : (z : Int) < n := by omega
              have Hbq := Lib.hid hbq
              clear yr hb hbq
              rw [← Hbq.out]
              cases b
              · have Hf := Lib.hid (show (List.range (z + 1)).filter (reachB S.1 q) = (List.range z).filter (reachB S.1 q) by rw [range_filter_succ, if_neg (by rw [← Hb.out]; decide), List.append_nil])
                go_wp2
                go_roundw
                case rel => exact ⟨c9, z + 1, ro, RN, rc, rfl, by go_num, by omega, by rw [Hf.out]; exact Hrn.out, by rw [Hf.out]; exact R9.out, Q9.out⟩
                case measure => simp [intOf]; omega
              · have Hf := Lib.hid (show (List.range (z + 1)).filter (reachB S.1 q) = (List.range z).filter (reachB S.1 q) ++ [z] by rw [range_filter_succ, if_pos Hb.out.symm])
                have d1 : Hid (RN + 1 ≤ maxLen) := Lib.hid (by unfold maxLen; omega)
                have d2 : Hid ((RN + 1) * 8 ≤ 140737488355328) := Lib.hid (by omega)
                go_wp2_with (at_builtin; refine wpList_append_row _ rfl (.tmp 140) (.tmp 142) 40 rfl (paint c9 wr.heap.size 86) 86 3 (.int .i64 0) 1 8 Try.underlying40 Try.infoInt rfl ro RN rc ((ints ((List.range z).filter (reachB S.1 q))).map (Value.int .i64)) rfl (R9.out.alloc _ 86) _ 1 [.int .i64 (z : Int)] rfl (Src.one wr _ 3) (by simp [Value.oneCell']) d1.out d2.out ?_)
                intro ro2 rc2 w10 hr2 st2 _
                have s2 := ((Stp.refl (· = 86) c9 wr).alloc (.cells #[.int .i64 (z : Int)] 3) 86).trans st2
                have Q10 := Lib.hid (Q9.out.stp s2 (fun j hj => by omega))
                have R10 := Lib.hid (show Row _ 86 w10 3 1 ro2 (RN + 1) rc2 ((ints ((List.range (z + 1)).filter (reachB S.1 q))).map (Value.int .i64)) from by rw [Hf.out, ints_app, List.map_append]; exact hr2)
                have Hrn2 := Lib.hid (show RN + 1 = ((List.range (z + 1)).filter (reachB S.1 q)).length by rw [Hf.out, List.length_append, ← Hrn.out]; rfl)
                clear hr2 st2 s2 y1 yl hRN
                go_wp2
                go_roundw
                case rel => exact ⟨_, z + 1, ro2, RN + 1, rc2, rfl, by go_num, by omega, Hrn2.out, R10.out, Q10.out⟩
                case measure => simp [intOf]; omega
            · obtain rfl : z = n := by omega
              obtain ⟨m0, m1, -, -, ml⟩ := Q9.out.gp.facts
              obtain ⟨g2, off2, oi, ci, he2, -, -, y0, -, hrow⟩ := Q9.out.gp.rf.node hqn
              subst he2
              obtain ⟨M, hM⟩ : ∃ M, M = (S.1.getD q []).length := ⟨_, rfl⟩
              have hM64 : M ≤ 64 := by rw [hM]; exact Good.small Gd.out q
              rw [← hM] at y0 hrow
              have I9 := Lib.hid hrow.toIn
              have d1 : Hid (0 + M ≤ maxLen) := Lib.hid (by unfold maxLen; omega)
              have d2 : Hid ((0 + M) * 8 ≤ 140737488355328) := Lib.hid (by omega)
              clear hrow hM hRN
              go_wp2_with (at_builtin; refine wpList_append_row _ rfl (.tmp 145) (.tmp 150) 40 rfl c9 87 3 (.int .i64 0) 1 8 Try.underlying40 Try.infoInt rfl none 0 0 [] rfl (Row.nil _ _ _ _ _) (.slice oi M ci) M ((ints (S.1.getD q [])).map (Value.int .i64)) rfl I9.out.src (ints_one _) d1.out d2.out ?_)
              intro o7 oc7 w10 hr2 st2 _
              have R0 := Lib.hid (show GR w p mb db S vs z (some ⟨g2, off2, none⟩) cap bo bcap (some ⟨g, off, none⟩) tcap B oo N oc ((List.range q).filter (endB S.1 S.2)) q ro RN rc o7 M oc7 _ w10 from ⟨Q9.out.stp st2 (fun j hj => by omega), R9.out.stp st2 (by decide), by simpa using hr2, hqn⟩)
              obtain ⟨m0, m1, d0⟩ := R0.out.cells
              obtain ⟨b, hb⟩ : ∃ b, b = hasB S.2 (q : Nat) := ⟨_, rfl⟩
              have Hb := Lib.hid hb.symm
              have hqz : (q : Int) < z := by omega
              clear hr2 st2 I9 Q9 R9 y0 hM64 hb d1 d2 Hrn
              go_upto_region 41 with fail
              go_region_held3 (fun w' => w'.cell? ⟨mb, 0, none⟩ = some (.slice (some ⟨g2, off2, none⟩) z cap) ∧ w'.cell? ⟨mb, 1, none⟩ = some (.slice bo z bcap) ∧ w'.cell? ⟨db, q, none⟩ = some (.int .i64 (depI S (q : Nat) : Nat)))
                (first | exact ⟨by assumption, by assumption, by assumption⟩ | go_keep)
                (first
                  | (go_at_call 80; refine (GR.has_c (by first | exact R0.out | exact R0.out.drew | exact R0.out.drew.drew) Hb.out).mono ?_; rintro e w' ⟨rfl, R, m0, m1, d0⟩)
                  | (go_at_call 96; refine (GR.rhas_c (by first | exact R.out | exact R.out.drew | exact R.out.drew.drew) Hb.out).mono ?_; rintro e w' ⟨rfl, c', R, m0, m1, d0⟩)
                  | (go_at_call 83; refine (GR.reach_c (by first | exact R.out | exact R.out.drew | exact R.out.drew.drew) Gd.out).mono ?_; rintro e w' ⟨a1, k1, rfl, c', R, IA, IB, HE, m0, m1, d0⟩)
                  | (go_at_call 85; refine (GR.after_c (by first | exact R.out | exact R.out.drew | exact R.out.drew.drew) Gd.out).mono ?_; rintro e w' ⟨a1, k1, rfl, c', R, IA, IB, HE, m0, m1, d0⟩)
                  | (go_at_call 98; refine (GR.behind_c (by first | exact R.out | exact R.out.drew | exact R.out.drew.drew)).mono ?_; rintro e w' ⟨a1, k1, rfl, c', R, IC, m0, m1, d0⟩)
                  | (go_at_call 99; refine (GR.rbehind_c (by first | exact R.out | exact R.out.drew | exact R.out.drew.drew) Gd.out (by first | exact IC.out | exact IC.out.drew | exact IC.out.drew.drew)).mono ?_; rintro e w' ⟨a1, k1, rfl, c', R, IA, IB, HE, m0, m1, d0⟩)
                  | (go_at_call 86; refine (GR.depth_c (by first | exact R.out | exact R.out.drew | exact R.out.drew.drew) Gd.out).mono ?_; rintro e w' ⟨rfl, c', R, m0, m1, d0⟩)
                  | (go_at_call 97; refine (GR.same_c (by first | exact R.out | exact R.out.drew | exact R.out.drew.drew) (by first | exact IA.out | exact IA.out.drew | exact IA.out.drew.drew) (by first | exact IB.out | exact IB.out.drew | exact IB.out.drew.drew) HE.out).mono ?_; rintro e w' ⟨rfl, R, m0, m1, d0⟩))
              all_goals
                cases b
                · have Hf := Lib.hid (show (List.range (q + 1)).filter (endB S.1 S.2) = (List.range q).filter (endB S.1 S.2) by rw [range_filter_succ, if_neg (by rw [endB, Hb.out]; simp), List.append_nil])
                  go_wp2_with (go_at_call 96; refine (GR.rhas_c (by first | exact R.out | exact R.out.drew | exact R.out.drew.drew) Hb.out).mono ?_; rintro e w' ⟨rfl, c', R, m0, m1, d0⟩)
                  go_roundw
                  case rel => exact ⟨_, q + 1, oo, N, oc, rfl, by go_num, by omega, by rw [Hf.out]; exact R.out.gq⟩
                  case measure => simp [intOf]; omega
                · obtain ⟨eb, heb⟩ : ∃ eb : Nat, eb = (behindL S.1 q).length := ⟨_, rfl⟩
                  have Heb := Lib.hid heb
                  have hN : N ≤ 64 := by rw [R.out.gq.len]; have := range_filter_le (endB S.1 S.2) q; omega
                  clear heb
                  by_cases h0 : eb = 0
                  · have Hf := Lib.hid (show (List.range (q + 1)).filter (endB S.1 S.2) = (List.range q).filter (endB S.1 S.2) ++ [q] by
                      have hnil : behindL S.1 q = [] := List.eq_nil_of_length_eq_zero (by rw [← Heb.out]; exact h0)
                      rw [range_filter_succ, if_pos (by rw [endB, Hb.out, hnil]; rfl)])
                    have te : ((eb : Int) == 0) = true := by simpa using h0
                    have d1 : Hid (N + 1 ≤ maxLen) := Lib.hid (by unfold maxLen; omega)
                    have d2 : Hid ((N + 1) * 8 ≤ 140737488355328) := Lib.hid (by omega)
                    clear h0
                    go_wp2_with (go_at_call 96; refine (GR.rhas_c (by first | exact R.out | exact R.out.drew | exact R.out.drew.drew) Hb.out).mono ?_; rintro e w' ⟨rfl, c', R, m0, m1, d0⟩)
                    go_wp2_with fail
                    refine (r13behind_p R.out.gq.gp.rf q 89).mono ?_
                    rintro e w11 ⟨a2, k2, rfl, c11, s11, -⟩
                    rw [← Heb.out]
                    have R11 := Lib.hid (R.out.stpF s11)
                    obtain ⟨m0, m1, d0⟩ := R11.out.cells
                    go_wp2_with (at_builtin; refine wpList_append_row _ rfl (.tmp 205) (.tmp 207) 40 rfl (paint c11 w11.heap.size 85) 85 3 (.int .i64 0) 1 8 Try.underlying40 Try.infoInt rfl oo N oc ((ints ((List.range q).filter (endB S.1 S.2))).map (Value.int .i64)) rfl (R11.out.gq.ends.alloc _ 85) _ 1 [.int .i64 (q : Int)] rfl (Src.one w11 _ 3) (by simp [Value.oneCell']) d1.out d2.out ?_)
                    intro oo2 oc2 w12 hr2 st2 _
                    have s2 := ((Stp.refl (· = 85) c11 w11).alloc (.cells #[.int .i64 (q : Int)] 3) 85).trans st2
                    have Q12 := Lib.hid (R11.out.gq.push hr2 s2)
                    rw [← Hf.out] at Q12
                    clear hr2 st2 s2
                    go_wp2
                    go_roundw
                    case rel => exact ⟨_, q + 1, oo2, N + 1, oc2, rfl, by go_num, by omega, Q12.out⟩
                    case measure => simp [intOf]; omega
                  · have Hf := Lib.hid (show (List.range (q + 1)).filter (endB S.1 S.2) = (List.range q).filter (endB S.1 S.2) by
                      rw [range_filter_succ, if_neg (by
                        rw [endB, Hb.out, Bool.true_and, decide_eq_true_iff]
                        exact fun e => h0 (by rw [Heb.out, e]; rfl)), List.append_nil])
                    have te : ((eb : Int) == 0) = false := by simpa using h0
                    clear h0
                    go_wp2_with (go_at_call 96; refine (GR.rhas_c (by first | exact R.out | exact R.out.drew | exact R.out.drew.drew) Hb.out).mono ?_; rintro e w' ⟨rfl, c', R, m0, m1, d0⟩)
                    go_wp2_with fail
                    refine (r13behind_p R.out.gq.gp.rf q 89).mono ?_
                    rintro e w11 ⟨a2, k2, rfl, c11, s11, -⟩
                    rw [← Heb.out]
                    have R11 := Lib.hid (R.out.stpF s11)
                    go_wp2
                    go_roundw
                    case rel => exact ⟨_, q + 1, oo, N, oc, rfl, by go_num, by omega, by rw [Hf.out]; exact R11.out.gq⟩
                    case measure => simp [intOf]; omega
        · obtain rfl : q = n := by omega
          obtain ⟨m0, m1, -, -, ml⟩ := Q.out.gp.facts
          have Q0 := Q
          go_upto_region 46 with fail
          go_region_held3 (fun w' => w'.cell? ⟨mb, 0, none⟩ = some (.slice ao q cap) ∧ w'.cell? ⟨mb, 1, none⟩ = some (.slice bo q bcap))
            (first | exact ⟨by assumption, by assumption⟩ | go_keep)
            (first
              | (go_at_call 77; refine (GQ.awake_c (by first | exact Q.out | exact Q.out.drew | exact Q.out.drew.drew)).mono ?_; rintro e w' ⟨rfl, c', Q, m0, m1⟩)
              | (go_at_call 100; refine (GQ.ends_c (by first | exact Q.out | exact Q.out.drew | exact Q.out.drew.drew)).mono ?_; rintro e w' ⟨a1, k1, rfl, c', Q, IA, m0, m1⟩; have IB := Lib.hid Q.out.ends.toIn; have HE := Lib.hid (show ints ((List.range S.1.length).filter (endB S.1 S.2)) = ints ((List.range q).filter (endB S.1 S.2)) by rw [Hla.out]))
              | (go_at_call 79; refine (GQ.order_c (by first | exact Q.out | exact Q.out.drew | exact Q.out.drew.drew) Gd.out).mono ?_; rintro e w' ⟨a1, k1, rfl, c', Q, IC, m0, m1⟩)
              | (go_at_call 101; refine (GQ.rorder_c (by first | exact Q.out | exact Q.out.drew | exact Q.out.drew.drew) Gd.out (by first | exact IC.out | exact IC.out.drew | exact IC.out.drew.drew)).mono ?_; rintro e w' ⟨a1, k1, rfl, c', Q, IA, IB, m0, m1⟩; clear HE)
              | (go_at_call 97; refine (GQ.same_c (by first | exact Q.out | exact Q.out.drew | exact Q.out.drew.drew) (by first | exact IA.out | exact IA.out.drew | exact IA.out.drew.drew) (by first | exact IB.out | exact IB.out.drew | exact IB.out.drew.drew) (by first | exact HE.out | rfl)).mono ?_; rintro e w' ⟨rfl, Q, m0, m1⟩))
          all_goals
            go_wp2
            go_ret
            exact ⟨rfl, Q.out.gp.lr.st.fin⟩

set_option maxRecDepth 100000 in
theorem gplays_walk {w : World} (ao : Option Addr) (n cap : Nat) (ops : List Op13) (hl : In (fun _ => 0) 0 w 4 ao n cap (ops.flatMap Op13.cells)) (hlen : ops.length = n) (hin : ∀ x ∈ ops, In (fun _ => 0) 0 w 1 x.lo x.ln x.lc (x.l.map (Value.int .i64))) :
    Calls Try.prog 15 #[.slice ao n cap] w fun e w' => e = .returned (.bool true) ∧ Below w.heap.size w w' := by
  by_cases hs : smallB ops = true
  · exact gplays_in ao n cap ops hl hlen hin hs
  · have Hl := Lib.hid hl
    have Hlen := Lib.hid hlen
    have Hs := Lib.hid (show smallB ops = false by simpa using hs)
    clear hl hlen hin hs
    go_enter Try.func15, Try.ntmps15
    go_wp2_with fail
    refine (small13_any Hl.out Hlen.out false Hs.out).mono ?_
    rintro e w1 ⟨rfl, c1, s1⟩
    have S1 := Lib.hid (show Stp (2 ≤ ·) (fun _ => 0) c1 w w1 from s1.mono (fun _ h => h.elim))
    clear s1
    go_wp2_with fail
    refine (awake13 c1 _).mono ?_
    rintro e w2 ⟨rfl, c2, s2⟩
    have S2 := Lib.hid (S1.out.trans (s2.mono (fun _ h => h.elim)))
    clear s2 S1
    go_wp2
    go_ret
    exact ⟨rfl, S2.out.fin⟩
end Go.Proofs.Ytmhhhiegioniaaa
