/- The walk of the law GraphDrops. No condition. -/
import Derived.Test.YtmhhhiegioniaaaGraphOrders
namespace Go.Proofs.Ytmhhhiegioniaaa
open Go.RowKit Go.Deep

theorem drop_reach {A : List (List Nat)} {a : Nat} (ha : a < A.length) (hb : behindL A a = []) {n v : Nat} (hn : n ≠ a) : Reaches (A.set a []) n v ↔ Reaches A n v := by
  have sub : ∀ u v, v ∈ (A.set a []).getD u [] → v ∈ A.getD u [] := by
    intro u v hv
    rw [getD_set _ _ _ ha] at hv
    split at hv
    · cases hv
    · exact hv
  have na : ∀ u v, v ∈ A.getD u [] → v ≠ a := by
    rintro u v hv rfl
    have hu : u < A.length := by
      by_cases hu : u < A.length
      · exact hu
      · rw [List.getD_eq_getElem?_getD, List.getElem?_eq_none (by omega)] at hv
        cases hv
    have : u ∈ behindL A v := by
      rw [behindL, List.mem_filter]
      exact ⟨List.mem_range.2 hu, by simpa using hv⟩
    rw [hb] at this
    cases this
  constructor
  · intro h
    induction h with
    | base h => exact .base (sub _ _ h)
    | step _ h ih => exact .step ih (sub _ _ h)
  · intro h
    induction h with
    | base h => exact .base (by rw [getD_set _ _ _ ha, if_neg hn]; exact h)
    | step h1 h ih =>
      obtain ⟨z, hz⟩ := h1.last
      exact .step ih (by rw [getD_set _ _ _ ha, if_neg (na _ _ hz)]; exact h)

theorem dropped_facts {S : GS} (gd : GoodS S) {a : Nat} (ha : hasB S.2 (a : Nat) = true) (hb : behindL S.1 a = []) (h0 : dropN S (a : Nat) = 0) :
    GoodS (dropS S (a : Nat)) ∧ hasB (dropS S (a : Nat)).2 (a : Nat) = false ∧ (dropS S (a : Nat)).1.length = S.1.length ∧
      ∀ n : Nat, n ≠ a → afterI (dropS S (a : Nat)) (n : Nat) = afterI S (n : Nat) ∧ reachI (dropS S (a : Nat)) (n : Nat) = reachI S (n : Nat) := by
  have hg := hasB_nat_lt ha
  have hal : a < S.1.length := by rw [gd.len]; exact hg
  have hS : dropS S (a : Nat) = (S.1.set a [], S.2.set a true) := by rw [dropS, if_pos h0, Int.toNat_natCast]
  refine ⟨gd.drop _, ?_, by rw [hS]; simp, fun n hn => ?_⟩
  · rw [hS]; simp only; rw [hasB_set _ _ _ hg]; simp
  · have hh : hasB (dropS S (a : Nat)).2 (n : Nat) = hasB S.2 (n : Nat) := by
      rw [hS]; simp only; rw [hasB_set _ _ _ hg]; simp [hn]
    refine ⟨?_, ?_⟩
    · rw [afterI, afterI, hh, hS]
      simp only [Int.toNat_natCast]
      rw [getD_set _ _ _ hal, if_neg hn]
    · rw [reachI, reachI, hh, hS]
      simp only [Int.toNat_natCast]
      have : reachL (S.1.set a []) n = reachL S.1 n := by
        rw [reachL, reachL, List.length_set]
        congr 1
        funext v
        rw [Bool.eq_iff_iff, reachB_iff, reachB_iff]
        exact drop_reach hal hb hn
      rw [this]

theorem end_mem {S : GS} (a : Nat) : a ∈ (List.range S.1.length).filter (endB S.1 S.2) ↔ a < S.1.length ∧ hasB S.2 (a : Nat) = true ∧ behindL S.1 a = [] := by
  rw [List.mem_filter, endB, Bool.and_eq_true, decide_eq_true_eq, List.mem_range]

theorem ErrAt.iface {c : Nat → Nat} {w : World} {v : Value} {n : Int} (h : ErrAt c w v n) : ∃ tt vv, v = .iface tt vv := by
  rcases h with rfl | ⟨_, _, _, rfl, _⟩
  · exact ⟨_, _, rfl⟩
  · exact ⟨_, _, rfl⟩

theorem afterI_le {S : GS} (h : GoodS S) (x : Int) : (afterI S x).length ≤ 64 := by
  rw [afterI]
  split
  · exact h.small _
  · simp

set_option maxRecDepth 100000 in
set_option maxHeartbeats 2000000 in
theorem gdrops_none {w : World} (ao : Option Addr) (n cap : Nat) (ops : List Op13) (hl : In (fun _ => 0) 0 w 4 ao n cap (ops.flatMap Op13.cells)) (hlen : ops.length = n) (hin : ∀ x ∈ ops, In (fun _ => 0) 0 w 1 x.lo x.ln x.lc (x.l.map (Value.int .i64))) (hs : smallB ops = true) (S : GS) (HS : Hid (ops.foldl opS ([], []) = S)) (a : Int) (ha : hasB S.2 a = false) :
    Calls Try.prog 17 #[.slice ao n cap, .int .i64 a] w fun e w' => e = .returned (.bool true) ∧ Below w.heap.size w w' := by
  have Ha := Lib.hid ha
  have He := Lib.hid (show dropN S a = 3 by rw [dropN, if_pos ha])
  have Hend := Lib.hid (show decide (a ∈ ints ((List.range S.1.length).filter (endB S.1 S.2))) = false by
    rw [decide_eq_false_iff_not]
    intro h
    rw [ints, List.mem_map] at h
    obtain ⟨b, hb, rfl⟩ := h
    rw [(end_mem b).1 hb |>.2.1] at ha
    cases ha)
  clear ha
  have Hl := Lib.hid hl
  have Hlen := Lib.hid hlen
  have Hin := Lib.hid hin
  have Hs := Lib.hid hs
  clear hl hlen hin hs
  go_enter Try.func17, Try.ntmps17
  go_wp2_with fail
  refine (small13_any Hl.out Hlen.out true Hs.out).mono ?_
  rintro e w1 ⟨rfl, c1, s1⟩
  have S1 := Lib.hid (show Stp (2 ≤ ·) (fun _ => 0) c1 w w1 from s1.mono (fun _ h => h.elim))
  have H1 := Lib.hid (Hl.out.stp s1 id)
  have Hin1 := Lib.hid (fun x hx => (Hin.out x hx).stp s1 id)
  clear s1
  go_wp2_with fail
  refine (begun13_any (k := 2) H1.out Hlen.out Hs.out Hin1.out (by decide)).mono ?_
  rintro e w2 ⟨p, rfl, c2, s2, g2⟩
  rw [HS.out] at g2
  have R2 := Lib.hid (show LRel w p S c2 w2 from ⟨S1.out.trans (s2.mono fun _ h => h.1), g2⟩)
  have H2 := Lib.hid (H1.out.stp s2 (by unfold GJ; omega))
  have Hin2 := Lib.hid (fun x hx => (Hin1.out x hx).stp s2 (by unfold GJ; omega))
  clear s2 g2 S1 H1 Hin1
  go_wp2_with fail
  refine (begun13_any (k := 102) H2.out Hlen.out Hs.out Hin2.out (by decide)).mono ?_
  rintro e w3 ⟨p2, rfl, c3, s3, g3⟩
  rw [HS.out] at g3
  have R3 := Lib.hid (R2.out.stp s3 (fun k hk => by have := hk.1; omega))
  have G3 := Lib.hid g3
  clear s3 g3 R2 H2 Hin2
  go_wp2_with fail
  refine (grends_all R3.out.gr 80).mono ?_
  rintro e w4 ⟨o4, oc4, rfl, c4, s4, r4⟩
  have R4 := Lib.hid (R3.out.stpF s4)
  have G4 := Lib.hid (G3.out.stp s4 (fun _ h => h.elim))
  have I4 := Lib.hid r4.toIn
  clear s4 r4 R3 G3
  go_wp2_with fail
  refine (in13_any I4.out a false Hend.out).mono ?_
  rintro e w' ⟨rfl, rfl⟩
  go_wp2_with fail
  refine (grdrop_all R4.out.gr a).mono ?_
  rintro e w5 ⟨ev, rfl, c5, s5, g5, e5⟩
  rw [He.out] at e5
  obtain ⟨T, hT⟩ : ∃ T, T = dropS S a := ⟨_, rfl⟩
  rw [← hT] at g5
  have HT := Lib.hid hT
  have R5 := Lib.hid (show LRel w p T c5 w5 from ⟨R4.out.st.trans (s5.mono fun _ h => h.1), g5⟩)
  have G5 := Lib.hid (G4.out.stp s5 (fun k hk hh => by have := hk.2; have := hh.1; omega))
  have E5 := Lib.hid e5
  clear s5 g5 e5 hT R4 G4 I4
  have HT0 := Lib.hid (show T = S by rw [HT.out, dropS, if_neg (by rw [He.out]; decide)])
  go_wp2_with fail
  refine (ghas_all R5.out.gr a false (by rw [HT0.out]; exact Ha.out)).mono ?_
  rintro e w' ⟨rfl, rfl⟩
  go_wp2_with fail
  refine (ghas_all G5.out a false Ha.out).mono ?_
  rintro e w' ⟨rfl, rfl⟩
  go_wp2_with fail
  refine (awake13 c5 _).mono ?_
  rintro e w6 ⟨rfl, c6, s6⟩
  have R6 := Lib.hid (R5.out.stpF s6)
  have E6 := Lib.hid (E5.out.stp s6 id)
  clear s6 R5 G5 E5
  go_wp2_with fail
  refine (lawis E6.out 3).mono ?_
  rintro e w' ⟨rfl, rfl⟩
  go_wp2
  go_ret
  exact ⟨by simp, R6.out.st.fin⟩

set_option maxRecDepth 100000 in
set_option maxHeartbeats 2000000 in
theorem gdrops_busy {w : World} (ao : Option Addr) (n cap : Nat) (ops : List Op13) (hl : In (fun _ => 0) 0 w 4 ao n cap (ops.flatMap Op13.cells)) (hlen : ops.length = n) (hin : ∀ x ∈ ops, In (fun _ => 0) 0 w 1 x.lo x.ln x.lc (x.l.map (Value.int .i64))) (hs : smallB ops = true) (S : GS) (HS : Hid (ops.foldl opS ([], []) = S)) (a : Nat) (ha : hasB S.2 (a : Nat) = true) (hb : behindL S.1 a ≠ []) (he : dropN S (a : Nat) = 18) :
    Calls Try.prog 17 #[.slice ao n cap, .int .i64 a] w fun e w' => e = .returned (.bool true) ∧ Below w.heap.size w w' := by
  have Ha := Lib.hid ha
  have He := Lib.hid he
  have Hend := Lib.hid (show decide ((a : Int) ∈ ints ((List.range S.1.length).filter (endB S.1 S.2))) = false by
    rw [decide_eq_false_iff_not, ints_mem, end_mem]
    exact fun h => hb h.2.2)
  clear ha hb he
  have Hl := Lib.hid hl
  have Hlen := Lib.hid hlen
  have Hin := Lib.hid hin
  have Hs := Lib.hid hs
  clear hl hlen hin hs
  go_enter Try.func17, Try.ntmps17
  go_wp2_with fail
  refine (small13_any Hl.out Hlen.out true Hs.out).mono ?_
  rintro e w1 ⟨rfl, c1, s1⟩
  have S1 := Lib.hid (show Stp (2 ≤ ·) (fun _ => 0) c1 w w1 from s1.mono (fun _ h => h.elim))
  have H1 := Lib.hid (Hl.out.stp s1 id)
  have Hin1 := Lib.hid (fun x hx => (Hin.out x hx).stp s1 id)
  clear s1
  go_wp2_with fail
  refine (begun13_any (k := 2) H1.out Hlen.out Hs.out Hin1.out (by decide)).mono ?_
  rintro e w2 ⟨p, rfl, c2, s2, g2⟩
  rw [HS.out] at g2
  have R2 := Lib.hid (show LRel w p S c2 w2 from ⟨S1.out.trans (s2.mono fun _ h => h.1), g2⟩)
  have H2 := Lib.hid (H1.out.stp s2 (by unfold GJ; omega))
  have Hin2 := Lib.hid (fun x hx => (Hin1.out x hx).stp s2 (by unfold GJ; omega))
  clear s2 g2 S1 H1 Hin1
  go_wp2_with fail
  refine (begun13_any (k := 102) H2.out Hlen.out Hs.out Hin2.out (by decide)).mono ?_
  rintro e w3 ⟨p2, rfl, c3, s3, g3⟩
  rw [HS.out] at g3
  have R3 := Lib.hid (R2.out.stp s3 (fun k hk => by have := hk.1; omega))
  have G3 := Lib.hid g3
  clear s3 g3 R2 H2 Hin2
  go_wp2_with fail
  refine (grends_all R3.out.gr 80).mono ?_
  rintro e w4 ⟨o4, oc4, rfl, c4, s4, r4⟩
  have R4 := Lib.hid (R3.out.stpF s4)
  have G4 := Lib.hid (G3.out.stp s4 (fun _ h => h.elim))
  have I4 := Lib.hid r4.toIn
  clear s4 r4 R3 G3
  go_wp2_with fail
  refine (in13_any I4.out a false Hend.out).mono ?_
  rintro e w' ⟨rfl, rfl⟩
  go_wp2_with fail
  refine (grdrop_all R4.out.gr a).mono ?_
  rintro e w5 ⟨ev, rfl, c5, s5, g5, e5⟩
  rw [He.out] at e5
  obtain ⟨T, hT⟩ : ∃ T, T = dropS S a := ⟨_, rfl⟩
  rw [← hT] at g5
  have HT := Lib.hid hT
  have R5 := Lib.hid (show LRel w p T c5 w5 from ⟨R4.out.st.trans (s5.mono fun _ h => h.1), g5⟩)
  have G5 := Lib.hid (G4.out.stp s5 (fun k hk hh => by have := hk.2; have := hh.1; omega))
  have E5 := Lib.hid e5
  clear s5 g5 e5 hT R4 G4 I4
  have HT0 := Lib.hid (show T = S by rw [HT.out, dropS, if_neg (by rw [He.out]; decide)])
  go_wp2_with fail
  refine (ghas_all R5.out.gr (a : Nat) true (by rw [HT0.out]; exact Ha.out)).mono ?_
  rintro e w' ⟨rfl, rfl⟩
  go_wp2_with fail
  refine (awake13 c5 _).mono ?_
  rintro e w6 ⟨rfl, c6, s6⟩
  have R6 := Lib.hid (R5.out.stpF s6)
  have E6 := Lib.hid (E5.out.stp s6 id)
  clear s6 R5 G5 E5
  go_wp2_with fail
  refine (lawis E6.out 18).mono ?_
  rintro e w' ⟨rfl, rfl⟩
  go_wp2_with fail
  refine (ghas_all R6.out.gr (a : Nat) true (by rw [HT0.out]; exact Ha.out)).mono ?_
  rintro e w' ⟨rfl, rfl⟩
  go_wp2
  go_ret
  exact ⟨by simp, R6.out.st.fin⟩

set_option maxRecDepth 100000 in
set_option maxHeartbeats 2000000 in
theorem gdrops_ok {w : World} (ao : Option Addr) (n cap : Nat) (ops : List Op13) (hl : In (fun _ => 0) 0 w 4 ao n cap (ops.flatMap Op13.cells)) (hlen : ops.length = n) (hin : ∀ x ∈ ops, In (fun _ => 0) 0 w 1 x.lo x.ln x.lc (x.l.map (Value.int .i64))) (hs : smallB ops = true) (S : GS) (HS : Hid (ops.foldl opS ([], []) = S)) (Gd : Hid (GoodS S)) (a : Nat) (ha : hasB S.2 (a : Nat) = true) (hb : behindL S.1 a = []) (he : dropN S (a : Nat) = 0) :
    Calls Try.prog 17 #[.slice ao n cap, .int .i64 a] w fun e w' => e = .returned (.bool true) ∧ Below w.heap.size w w' := by
  have Ha := Lib.hid ha
  have He := Lib.hid he
  have HF := Lib.hid (dropped_facts Gd.out ha hb he)
  have Hend := Lib.hid (show decide ((a : Int) ∈ ints ((List.range S.1.length).filter (endB S.1 S.2))) = true by
    rw [decide_eq_true_iff, ints_mem, end_mem]
    exact ⟨by rw [Gd.out.len]; exact hasB_nat_lt ha, ha, hb⟩)
  clear ha hb he
  have Hl := Lib.hid hl
  have Hlen := Lib.hid hlen
  have Hin := Lib.hid hin
  have Hs := Lib.hid hs
  clear hl hlen hin hs
  go_enter Try.func17, Try.ntmps17
  go_wp2_with fail
  refine (small13_any Hl.out Hlen.out true Hs.out).mono ?_
  rintro e w1 ⟨rfl, c1, s1⟩
  have S1 := Lib.hid (show Stp (2 ≤ ·) (fun _ => 0) c1 w w1 from s1.mono (fun _ h => h.elim))
  have H1 := Lib.hid (Hl.out.stp s1 id)
  have Hin1 := Lib.hid (fun x hx => (Hin.out x hx).stp s1 id)
  clear s1
  go_wp2_with fail
  refine (begun13_any (k := 2) H1.out Hlen.out Hs.out Hin1.out (by decide)).mono ?_
  rintro e w2 ⟨p, rfl, c2, s2, g2⟩
  rw [HS.out] at g2
  have R2 := Lib.hid (show LRel w p S c2 w2 from ⟨S1.out.trans (s2.mono fun _ h => h.1), g2⟩)
  have H2 := Lib.hid (H1.out.stp s2 (by unfold GJ; omega))
  have Hin2 := Lib.hid (fun x hx => (Hin1.out x hx).stp s2 (by unfold GJ; omega))
  clear s2 g2 S1 H1 Hin1
  go_wp2_with fail
  refine (begun13_any (k := 102) H2.out Hlen.out Hs.out Hin2.out (by decide)).mono ?_
  rintro e w3 ⟨p2, rfl, c3, s3, g3⟩
  rw [HS.out] at g3
  have R3 := Lib.hid (R2.out.stp s3 (fun k hk => by have := hk.1; omega))
  have G3 := Lib.hid g3
  clear s3 g3 R2 H2 Hin2
  go_wp2_with fail
  refine (grends_all R3.out.gr 80).mono ?_
  rintro e w4 ⟨o4, oc4, rfl, c4, s4, r4⟩
  have R4 := Lib.hid (R3.out.stpF s4)
  have G4 := Lib.hid (G3.out.stp s4 (fun _ h => h.elim))
  have I4 := Lib.hid r4.toIn
  clear s4 r4 R3 G3
  go_wp2_with fail
  refine (in13_any I4.out a true Hend.out).mono ?_
  rintro e w' ⟨rfl, rfl⟩
  go_wp2_with fail
  refine (grdrop_all R4.out.gr a).mono ?_
  rintro e w5 ⟨ev, rfl, c5, s5, g5, e5⟩
  rw [He.out] at e5
  obtain ⟨T, hT⟩ : ∃ T, T = dropS S a := ⟨_, rfl⟩
  rw [← hT] at g5
  have HT := Lib.hid hT
  have R5 := Lib.hid (show LRel w p T c5 w5 from ⟨R4.out.st.trans (s5.mono fun _ h => h.1), g5⟩)
  have G5 := Lib.hid (G4.out.stp s5 (fun k hk hh => by have := hk.2; have := hh.1; omega))
  have E5 := Lib.hid e5
  clear s5 g5 e5 hT R4 G4 I4
  rw [← HT.out] at HF
  obtain rfl : ev = .nilIface := by
    rcases E5.out with ⟨_, h⟩ | ⟨h, _⟩
    · exact h
    · exact absurd rfl h
  obtain ⟨m, hm⟩ : ∃ m, m = S.1.length := ⟨_, rfl⟩
  have Hm := Lib.hid hm
  have Hm2 := Lib.hid (show m = T.1.length by rw [hm]; exact HF.out.2.2.1.symm)
  have hm64 : m ≤ 64 := by rw [hm]; exact Gd.out.le
  have Haf := Lib.hid (show afterI T (a : Nat) = [] by rw [afterI, if_neg (by rw [HF.out.2.1]; decide)])
  have tmm : ((m : Int) != (m : Int)) = false := by simp
  clear E5 hm
  go_wp2_with fail
  refine (ghas_all R5.out.gr (a : Nat) false HF.out.2.1).mono ?_
  rintro e w' ⟨rfl, rfl⟩
  go_wp2_with fail
  refine (ghas_all G5.out (a : Nat) true Ha.out).mono ?_
  rintro e w' ⟨rfl, rfl⟩
  go_wp2_with fail
  refine (ghas_all R5.out.gr (a : Nat) false HF.out.2.1).mono ?_
  rintro e w' ⟨rfl, rfl⟩
  go_wp2_with fail
  refine (grafter_all R5.out.gr HF.out.1 (a : Nat) 80).mono ?_
  rintro e w6 ⟨o6, oc6, rfl, c6, s6, -⟩
  rw [Haf.out]
  have R6 := Lib.hid (R5.out.stpF s6)
  have G6 := Lib.hid (G5.out.stp s6 (fun _ h => h.elim))
  clear s6 R5 G5
  go_wp2_with fail
  refine (grlen_all R6.out.gr).mono ?_
  rintro e w' ⟨rfl, rfl⟩
  rw [← Hm2.out]
  go_wp2_with fail
  refine (grlen_all G6.out).mono ?_
  rintro e w' ⟨rfl, rfl⟩
  rw [← Hm.out]
  go_wp2_with fail
  refine (grlen_all G6.out).mono ?_
  rintro e w' ⟨rfl, rfl⟩
  rw [← Hm.out]
  go_wp2
  go_loopw [77] (fun i wr => ∃ (c' : Nat → Nat) (q : Nat), i = .int .i64 q ∧ q ≤ m ∧ LRel w p T c' wr ∧ GrAt c' 102 wr p2 S) (fun i _ => m - (intOf i).toNat)
  case atStart => exact ⟨c6, 0, rfl, Nat.zero_le _, R6.out, G6.out⟩
  case round =>
    obtain ⟨c7, q, rfl, hq, hr, hg⟩ := hrel
    have R := Lib.hid hr
    have G := Lib.hid hg
    clear hr hg R6 G6
    by_cases hlt : q < m
    · by_cases hqa : q = a
      · have tq : ((q : Int) != (a : Int)) = false := by simpa using (by omega : (q : Int) = a)
        clear hqa
        go_wp2
        go_roundw
        case rel => exact ⟨c7, q + 1, by go_num, by omega, R.out, G.out⟩
        case measure => simp [intOf]; omega
      · have tq : ((q : Int) != (a : Int)) = true := by simpa using (by omega : ¬ (q : Int) = a)
        obtain ⟨hf1, hf2⟩ := HF.out.2.2.2 q hqa
        obtain ⟨la, hla⟩ : ∃ l, l = afterI S (q : Nat) := ⟨_, rfl⟩
        obtain ⟨lr, hlr⟩ : ∃ l, l = reachI S (q : Nat) := ⟨_, rfl⟩
        rw [← hla] at hf1
        rw [← hlr] at hf2
        have Hf1 := Lib.hid hf1
        have Hf2 := Lib.hid hf2
        have Hla := Lib.hid hla
        have Hlr := Lib.hid hlr
        clear hqa hf1 hf2 hla hlr
        go_wp2_with fail
        refine (grafter_all R.out.gr HF.out.1 (q : Nat) 80).mono ?_
        rintro e w8 ⟨o8, oc8, rfl, c8, s8, r8⟩
        rw [Hf1.out] at r8 ⊢
        have R8 := Lib.hid (R.out.stpF s8)
        have G8 := Lib.hid (G.out.stp s8 (fun _ h => h.elim))
        have I8 := Lib.hid r8.toIn
        clear s8 r8 R G
        go_wp2_with fail
        refine (grafter_all G8.out Gd.out (q : Nat) 80).mono ?_
        rintro e w9 ⟨o9, oc9, rfl, c9, s9, r9⟩
        rw [← Hla.out] at r9 ⊢
        have R9 := Lib.hid (R8.out.stpF s9)
        have G9 := Lib.hid (G8.out.stp s9 (fun _ h => h.elim))
        have I9 := Lib.hid (I8.out.stp s9 id)
        have J9 := Lib.hid r9.toIn
        clear s9 r9 R8 G8 I8
        go_wp2_with fail
        refine (same13 I9.out J9.out rfl).mono ?_
        rintro e w10 ⟨rfl, s10⟩
        have R10 := Lib.hid (R9.out.stpF s10)
        have G10 := Lib.hid (G9.out.stp s10 (fun _ h => h.elim))
        clear s10 R9 G9 I9 J9
        go_wp2_with fail
        refine (grreach_all R10.out.gr HF.out.1 (q : Nat) 80).mono ?_
        rintro e w8 ⟨o8, oc8, rfl, c8, s8, r8⟩
        rw [Hf2.out] at r8 ⊢
        have R8 := Lib.hid (R10.out.stpF s8)
        have G8 := Lib.hid (G10.out.stp s8 (fun _ h => h.elim))
        have I8 := Lib.hid r8.toIn
        clear s8 r8 R10 G10
        go_wp2_with fail
        refine (grreach_all G8.out Gd.out (q : Nat) 80).mono ?_
        rintro e w9 ⟨o9, oc9, rfl, c9, s9, r9⟩
        rw [← Hlr.out] at r9 ⊢
        have R9 := Lib.hid (R8.out.stpF s9)
        have G9 := Lib.hid (G8.out.stp s9 (fun _ h => h.elim))
        have I9 := Lib.hid (I8.out.stp s9 id)
        have J9 := Lib.hid r9.toIn
        clear s9 r9 R8 G8 I8
        go_wp2_with fail
        refine (same13 I9.out J9.out rfl).mono ?_
        rintro e w10 ⟨rfl, s10⟩
        have R10 := Lib.hid (R9.out.stpF s10)
        have G10 := Lib.hid (G9.out.stp s10 (fun _ h => h.elim))
        clear s10 R9 G9 I9 J9
        go_wp2
        go_roundw
        case rel => exact ⟨c9, q + 1, by go_num, by omega, R10.out, G10.out⟩
        case measure => simp [intOf]; omega
    · go_wp2_with fail
      refine (gradd_all (l := []) R.out.gr (In.nil c7 80 _ 1 none) (by unfold GJ; omega) (by decide)).mono ?_
      rintro e w8 ⟨v, fv, rfl, c8, s8, g8, e8, hv1, hv2⟩
      obtain ⟨U, hU⟩ : ∃ U, U = addS T [] := ⟨_, rfl⟩
      rw [← hU] at g8
      have hU64 : U.1.length ≤ 64 := by rw [hU]; exact (HF.out.1.add []).le
      obtain ⟨u, hu⟩ : ∃ u, u = U.1.length := ⟨_, rfl⟩
      have Hu := Lib.hid hu
      rw [← hu] at hU64
      have S8 := Lib.hid (R.out.st.trans (s8.mono fun _ h => h.1))
      have GU := Lib.hid g8
      have GH := Lib.hid (G.out.stp s8 (fun k hk hh => by have := hk.2; have := hh.1; omega))
      have E8 := Lib.hid e8
      have tu : decide ((64 : Int) < (u : Int)) = false := by simp; omega
      clear s8 g8 hU R G hu hq
      by_cases hz : addN T [] = 0
      · have Hv := Lib.hid (show v = m by rw [hv1 hz, Hm2.out])
        obtain rfl : fv = .nilIface := by
          rcases e8 with ⟨_, h⟩ | ⟨h, _⟩
          · exact h
          · exact absurd hz h
        obtain rfl : v = m := Hv.out
        have tm : ((m : Int) == (m : Int)) = true := by simp
        clear e8 hv1 hv2 hz E8 Hv
        go_wp2_with fail
        refine (grlen_all GU.out).mono ?_
        rintro e w' ⟨rfl, rfl⟩
        rw [← Hu.out]
        go_wp2_with fail
        refine (awake13 c8 _).mono ?_
        rintro e w9 ⟨rfl, c9, s9⟩
        have S9 := Lib.hid (S8.out.trans (s9.mono fun _ h => h.elim))
        have GH9 := Lib.hid (GH.out.stp s9 (fun _ h => h.elim))
        clear s9 S8 GU GH
        go_wp2_with fail
        refine (grlen_all GH9.out).mono ?_
        rintro e w' ⟨rfl, rfl⟩
        rw [← Hm.out]
        go_wp2
        go_ret
        exact ⟨by simp, S9.out.fin⟩
      · have Hz8 := Lib.hid (show addN T [] = 8 by
          rw [addN] at hz ⊢
          split
          · rfl
          · next h => rw [if_neg h] at hz; exact absurd rfl hz)
        rw [Hz8.out] at E8
        obtain ⟨tt, vv, rfl⟩ : ∃ tt vv, fv = .iface tt vv := by
          rcases e8 with ⟨h, _⟩ | ⟨_, h⟩
          · exact absurd h hz
          · exact h.iface
        clear e8 hv1 hv2 hz
        go_wp2_with fail
        refine (grlen_all GU.out).mono ?_
        rintro e w' ⟨rfl, rfl⟩
        rw [← Hu.out]
        go_wp2_with fail
        refine (lawis E8.out 8).mono ?_
        rintro e w' ⟨rfl, rfl⟩
        go_wp2_with fail
        refine (awake13 c8 _).mono ?_
        rintro e w9 ⟨rfl, c9, s9⟩
        have S9 := Lib.hid (S8.out.trans (s9.mono fun _ h => h.elim))
        clear s9 S8 GU GH
        go_wp2
        go_ret
        exact ⟨by simp, S9.out.fin⟩

set_option maxRecDepth 100000 in
theorem gdrops_walk {w : World} (ao : Option Addr) (n cap : Nat) (ops : List Op13) (a : Int) (hl : In (fun _ => 0) 0 w 4 ao n cap (ops.flatMap Op13.cells)) (hlen : ops.length = n) (hin : ∀ x ∈ ops, In (fun _ => 0) 0 w 1 x.lo x.ln x.lc (x.l.map (Value.int .i64))) :
    Calls Try.prog 17 #[.slice ao n cap, .int .i64 a] w fun e w' => e = .returned (.bool true) ∧ Below w.heap.size w w' := by
  by_cases hs : smallB ops = true
  · have Gd := Lib.hid (GoodS.ops (S := ([], [])) Good.empty ops)
    rcases dropN_cases (ops.foldl opS ([], [])) a with ⟨_, ha⟩ | ⟨ha, b, rfl, ⟨h1, h2⟩ | ⟨h1, h2⟩⟩
    · exact gdrops_none ao n cap ops hl hlen hin hs _ (Lib.hid rfl) a ha
    · exact gdrops_busy ao n cap ops hl hlen hin hs _ (Lib.hid rfl) b ha h2 h1
    · exact gdrops_ok ao n cap ops hl hlen hin hs _ (Lib.hid rfl) Gd b ha h2 h1
  · have Hl := Lib.hid hl
    have Hlen := Lib.hid hlen
    have Hs := Lib.hid (show smallB ops = false by simpa using hs)
    clear hl hlen hin hs
    go_enter Try.func17, Try.ntmps17
    go_wp2_with fail
    refine (small13_any Hl.out Hlen.out false Hs.out).mono ?_
    rintro e w1 ⟨rfl, c1, s1⟩
    have S1 := Lib.hid (show Stp (2 ≤ ·) (fun _ => 0) c1 w w1 from s1.mono (fun _ h => h.elim))
    clear s1
    go_wp2_with fail
    refine (awake13 c1 _).mono ?_
    rintro e w2 ⟨rfl, c2, s2⟩
    have S2 := Lib.hid (S1.out.trans (s2.mono (fun _ h => h.elim)))
    clear s2 S1
    go_wp2
    go_ret
    exact ⟨rfl, S2.out.fin⟩
end Go.Proofs.Ytmhhhiegioniaaa
