/- The walk of the law GraphCycles. No condition. -/
import Derived.Test.YtmhhhiegioniaaaGraphOrders
namespace Go.Proofs.Ytmhhhiegioniaaa
open Go.RowKit Go.Deep

theorem reach_mono {A : List (List Nat)} {x y : Nat} (hx : x < A.length) {u v : Nat} (h : Reaches A u v) : Reaches (A.set x (A.getD x [] ++ [y])) u v := by
  have key : ∀ u v, v ∈ A.getD u [] → v ∈ (A.set x (A.getD x [] ++ [y])).getD u [] := by
    intro u v hv
    rw [getD_set _ _ _ hx]
    split
    · next e => subst e; exact List.mem_append_left _ hv
    · exact hv
  induction h with
  | base h => exact .base (key _ _ h)
  | step _ h ih => exact .step ih (key _ _ h)

theorem linked_facts {S : GS} (gd : GoodS S) {x y : Nat} (hx : hasB S.2 (x : Nat) = true) (hy : hasB S.2 (y : Nat) = true) (h0 : linkN S x y = 0) :
    GoodS (linkS S x y) ∧ (y : Nat) ∈ reachI (linkS S x y) (x : Nat) ∧ (∀ z ∈ reachI S (y : Nat), z ∈ reachI (linkS S x y) (x : Nat)) ∧ y ∈ afterI (linkS S x y) (x : Nat) ∧ x ∈ behindI (linkS S x y) (y : Nat) ∧ y ∉ (List.range (linkS S x y).1.length).filter (endB (linkS S x y).1 (linkS S x y).2) := by
  have g' := gd.link x y
  have hxl : x < S.1.length := by rw [gd.len]; exact hasB_nat_lt hx
  have hS : linkS S x y = (S.1.set x (S.1.getD x [] ++ [y]), S.2) := by rw [linkS, if_pos h0, Int.toNat_natCast, Int.toNat_natCast]
  have hm : y ∈ (linkS S x y).1.getD x [] := by rw [hS]; simp only; rw [getD_set _ _ _ hxl, if_pos rfl]; simp
  have hx' : hasB (linkS S x y).2 (x : Nat) = true := by rw [hS]; exact hx
  have hy' : hasB (linkS S x y).2 (y : Nat) = true := by rw [hS]; exact hy
  have hb : x ∈ behindL (linkS S x y).1 y := by
    rw [behindL, List.mem_filter]
    refine ⟨List.mem_range.2 ?_, by simpa using hm⟩
    rw [hS]; simpa using hxl
  refine ⟨g', (mem_reachI g').2 ⟨hx', .base hm⟩, fun z hz => ?_, ?_, ?_, ?_⟩
  · have h1 := ((mem_reachI gd).1 hz).2
    refine (mem_reachI g').2 ⟨hx', (Reaches.base hm).trans ?_⟩
    rw [hS]
    exact reach_mono hxl h1
  · rw [afterI, if_pos hx', Int.toNat_natCast]; exact hm
  · rw [behindI, if_pos hy', Int.toNat_natCast]; exact hb
  · rw [List.mem_filter]
    rintro ⟨_, h2⟩
    rw [endB, Bool.and_eq_true, decide_eq_true_eq] at h2
    rw [h2.2] at hb
    cases hb

theorem afterI_mem {S : GS} {x : Nat} (hx : hasB S.2 (x : Nat) = true) (y : Nat) : (y : Int) ∈ ints (afterI S (x : Nat)) ↔ y ∈ S.1.getD x [] := by rw [ints_mem, afterI, if_pos hx, Int.toNat_natCast]

set_option maxRecDepth 100000 in
set_option maxHeartbeats 1000000 in
theorem gcycles_no1 {w : World} (ao : Option Addr) (n cap : Nat) (ops : List Op13) (hl : In (fun _ => 0) 0 w 4 ao n cap (ops.flatMap Op13.cells)) (hlen : ops.length = n) (hin : ∀ x ∈ ops, In (fun _ => 0) 0 w 1 x.lo x.ln x.lc (x.l.map (Value.int .i64))) (hs : smallB ops = true) (S : GS) (HS : Hid (ops.foldl opS ([], []) = S)) (Gd : Hid (GoodS S)) (x y : Int) (hx : hasB S.2 x = false) :
    Calls Try.prog 16 #[.slice ao n cap, .int .i64 x, .int .i64 y] w fun e w' => e = .returned (.bool true) ∧ Below w.heap.size w w' := by
  have Hx := Lib.hid hx
  clear hx
  have H3 := Lib.hid (show linkN S x y = 3 by rw [linkN, if_pos (.inl Hx.out)])
  have Hl := Lib.hid hl
  have Hlen := Lib.hid hlen
  have Hin := Lib.hid hin
  have Hs := Lib.hid hs
  clear hl hlen hin hs
  go_enter Try.func16, Try.ntmps16
  go_wp2_with fail
  refine (small13_any Hl.out Hlen.out true Hs.out).mono ?_
  rintro e w1 ⟨rfl, c1, s1⟩
  have S1 := Lib.hid (show Stp (2 ≤ ·) (fun _ => 0) c1 w w1 from s1.mono (fun _ h => h.elim))
  have H1 := Lib.hid (Hl.out.stp s1 id)
  have Hin1 := Lib.hid (fun x hx => (Hin.out x hx).stp s1 id)
  clear s1
  go_wp2_with fail
  refine (begun13_any (k := 2) H1.out Hlen.out Hs.out Hin1.out (by decide)).mono ?_
  rintro e w2 ⟨p, rfl, c2, s2, g2⟩
  rw [HS.out] at g2
  have R2 := Lib.hid (show LRel w p S c2 w2 from ⟨S1.out.trans (s2.mono fun _ h => h.1), g2⟩)
  clear s2 g2 S1 H1 Hin1
  go_wp2_with fail
  refine (ghas_all R2.out.gr x false Hx.out).mono ?_
  rintro e w' ⟨rfl, rfl⟩
  go_wp2_with fail
  refine (awake13 c2 _).mono ?_
  rintro e w3 ⟨rfl, c3, s3⟩
  have R3 := Lib.hid (R2.out.stpF s3)
  clear s3 R2
  go_wp2_with fail
  refine (grlink_all R3.out.gr Gd.out x y).mono ?_
  rintro e w4 ⟨ev, rfl, c4, s4, -, e4⟩
  rw [H3.out] at e4
  have S4 := Lib.hid (R3.out.st.trans (s4.mono fun _ h => h.1))
  have E4 := Lib.hid e4
  clear s4 e4 R3
  go_wp2_with fail
  refine (lawis E4.out 3).mono ?_
  rintro e w' ⟨rfl, rfl⟩
  go_wp2
  go_ret
  exact ⟨by simp, S4.out.fin⟩

set_option maxRecDepth 100000 in
set_option maxHeartbeats 1000000 in
theorem gcycles_no2 {w : World} (ao : Option Addr) (n cap : Nat) (ops : List Op13) (hl : In (fun _ => 0) 0 w 4 ao n cap (ops.flatMap Op13.cells)) (hlen : ops.length = n) (hin : ∀ x ∈ ops, In (fun _ => 0) 0 w 1 x.lo x.ln x.lc (x.l.map (Value.int .i64))) (hs : smallB ops = true) (S : GS) (HS : Hid (ops.foldl opS ([], []) = S)) (Gd : Hid (GoodS S)) (x y : Int) (hx : hasB S.2 x = true) (hy : hasB S.2 y = false) :
    Calls Try.prog 16 #[.slice ao n cap, .int .i64 x, .int .i64 y] w fun e w' => e = .returned (.bool true) ∧ Below w.heap.size w w' := by
  have Hx := Lib.hid hx
  have Hy := Lib.hid hy
  clear hy
  clear hx
  have H3 := Lib.hid (show linkN S x y = 3 by rw [linkN, if_pos (.inr Hy.out)])
  have Hl := Lib.hid hl
  have Hlen := Lib.hid hlen
  have Hin := Lib.hid hin
  have Hs := Lib.hid hs
  clear hl hlen hin hs
  go_enter Try.func16, Try.ntmps16
  go_wp2_with fail
  refine (small13_any Hl.out Hlen.out true Hs.out).mono ?_
  rintro e w1 ⟨rfl, c1, s1⟩
  have S1 := Lib.hid (show Stp (2 ≤ ·) (fun _ => 0) c1 w w1 from s1.mono (fun _ h => h.elim))
  have H1 := Lib.hid (Hl.out.stp s1 id)
  have Hin1 := Lib.hid (fun x hx => (Hin.out x hx).stp s1 id)
  clear s1
  go_wp2_with fail
  refine (begun13_any (k := 2) H1.out Hlen.out Hs.out Hin1.out (by decide)).mono ?_
  rintro e w2 ⟨p, rfl, c2, s2, g2⟩
  rw [HS.out] at g2
  have R2 := Lib.hid (show LRel w p S c2 w2 from ⟨S1.out.trans (s2.mono fun _ h => h.1), g2⟩)
  clear s2 g2 S1 H1 Hin1
  go_wp2_with fail
  refine (ghas_all R2.out.gr x true Hx.out).mono ?_
  rintro e w' ⟨rfl, rfl⟩
  go_wp2_with fail
  refine (ghas_all R2.out.gr y false Hy.out).mono ?_
  rintro e w' ⟨rfl, rfl⟩
  go_wp2_with fail
  refine (awake13 c2 _).mono ?_
  rintro e w3 ⟨rfl, c3, s3⟩
  have R3 := Lib.hid (R2.out.stpF s3)
  clear s3 R2
  go_wp2_with fail
  refine (grlink_all R3.out.gr Gd.out x y).mono ?_
  rintro e w4 ⟨ev, rfl, c4, s4, -, e4⟩
  rw [H3.out] at e4
  have S4 := Lib.hid (R3.out.st.trans (s4.mono fun _ h => h.1))
  have E4 := Lib.hid e4
  clear s4 e4 R3
  go_wp2_with fail
  refine (lawis E4.out 3).mono ?_
  rintro e w' ⟨rfl, rfl⟩
  go_wp2
  go_ret
  exact ⟨by simp, S4.out.fin⟩

set_option maxRecDepth 100000 in
set_option maxHeartbeats 1000000 in
theorem gcycles_self {w : World} (ao : Option Addr) (n cap : Nat) (ops : List Op13) (hl : In (fun _ => 0) 0 w 4 ao n cap (ops.flatMap Op13.cells)) (hlen : ops.length = n) (hin : ∀ x ∈ ops, In (fun _ => 0) 0 w 1 x.lo x.ln x.lc (x.l.map (Value.int .i64))) (hs : smallB ops = true) (S : GS) (HS : Hid (ops.foldl opS ([], []) = S)) (Gd : Hid (GoodS S)) (x : Nat) (hx : hasB S.2 (x : Nat) = true) (he : linkN S x x = 16) :
    Calls Try.prog 16 #[.slice ao n cap, .int .i64 (x : Nat), .int .i64 (x : Nat)] w fun e w' => e = .returned (.bool true) ∧ Below w.heap.size w w' := by
  have Hx := Lib.hid hx
  have He := Lib.hid he
  have t := Lib.hid (show ((x : Int) == (x : Int)) = true by simp)
  have Ht := Lib.hid (show decide ((x : Int) ∈ ints (afterI S (x : Nat))) = false by
    rw [decide_eq_false_iff_not, afterI_mem hx]
    exact fun h => Gd.out.acyc x (.base h))
  clear hx he
  have Hl := Lib.hid hl
  have Hlen := Lib.hid hlen
  have Hin := Lib.hid hin
  have Hs := Lib.hid hs
  clear hl hlen hin hs
  go_enter Try.func16, Try.ntmps16
  go_wp2_with fail
  refine (small13_any Hl.out Hlen.out true Hs.out).mono ?_
  rintro e w1 ⟨rfl, c1, s1⟩
  have S1 := Lib.hid (show Stp (2 ≤ ·) (fun _ => 0) c1 w w1 from s1.mono (fun _ h => h.elim))
  have H1 := Lib.hid (Hl.out.stp s1 id)
  have Hin1 := Lib.hid (fun x hx => (Hin.out x hx).stp s1 id)
  clear s1
  go_wp2_with fail
  refine (begun13_any (k := 2) H1.out Hlen.out Hs.out Hin1.out (by decide)).mono ?_
  rintro e w2 ⟨p, rfl, c2, s2, g2⟩
  rw [HS.out] at g2
  have R2 := Lib.hid (show LRel w p S c2 w2 from ⟨S1.out.trans (s2.mono fun _ h => h.1), g2⟩)
  clear s2 g2 S1 H1 Hin1
  go_wp2_with fail
  refine (ghas_all R2.out.gr (x : Nat) true Hx.out).mono ?_
  rintro e w' ⟨rfl, rfl⟩
  go_wp2_with fail
  refine (ghas_all R2.out.gr (x : Nat) true Hx.out).mono ?_
  rintro e w' ⟨rfl, rfl⟩
  have R3 := R2
  obtain ⟨c3, hc3⟩ : ∃ c, c = c2 := ⟨_, rfl⟩
  rw [← hc3] at R3
  clear R2 hc3
  go_wp2_with fail
  refine (grafter_all R3.out.gr Gd.out (x : Nat) 80).mono ?_
  rintro e w4 ⟨o4, oc4, rfl, c4, s4, r4⟩
  have R4 := Lib.hid (R3.out.stpF s4)
  have I4 := Lib.hid r4.toIn
  clear s4 r4 R3
  go_wp2_with fail
  refine (in13_any I4.out (x : Nat) false Ht.out).mono ?_
  rintro e w' ⟨rfl, rfl⟩
  clear I4
  go_wp2_with fail
  refine (grreach_all R4.out.gr Gd.out (x : Nat) 80).mono ?_
  rintro e w5 ⟨o5, oc5, rfl, c5, s5, r5⟩
  have R5 := Lib.hid (R4.out.stpF s5)
  have I5 := Lib.hid r5
  clear s5 r5 R4
  go_wp2_with fail
  refine (grlink_all R5.out.gr Gd.out (x : Nat) (x : Nat)).mono ?_
  rintro e w6 ⟨ev, rfl, c6, s6, g6, e6⟩
  rw [He.out] at e6
  have S6 := Lib.hid (R5.out.st.trans (s6.mono fun _ h => h.1))
  have E6 := Lib.hid e6
  clear s6 g6 e6 R5 I5
  go_wp2_with fail
  refine (awake13 c6 _).mono ?_
  rintro e w7 ⟨rfl, c7, s7⟩
  have S7 := Lib.hid (S6.out.trans (s7.mono fun _ h => h.elim))
  have E7 := Lib.hid (E6.out.stp s7 id)
  clear s7 S6 E6
  go_wp2_with fail
  refine (lawis E7.out 16).mono ?_
  rintro e w' ⟨rfl, rfl⟩
  go_wp2
  go_ret
  exact ⟨by simp, S7.out.fin⟩

set_option maxRecDepth 100000 in
set_option maxHeartbeats 1000000 in
theorem gcycles_ring {w : World} (ao : Option Addr) (n cap : Nat) (ops : List Op13) (hl : In (fun _ => 0) 0 w 4 ao n cap (ops.flatMap Op13.cells)) (hlen : ops.length = n) (hin : ∀ x ∈ ops, In (fun _ => 0) 0 w 1 x.lo x.ln x.lc (x.l.map (Value.int .i64))) (hs : smallB ops = true) (S : GS) (HS : Hid (ops.foldl opS ([], []) = S)) (Gd : Hid (GoodS S)) (x y : Nat) (hx : hasB S.2 (x : Nat) = true) (hy : hasB S.2 (y : Nat) = true) (he : linkN S x y = 16) (hne : x ≠ y) (hr : Reaches S.1 y x) :
    Calls Try.prog 16 #[.slice ao n cap, .int .i64 (x : Nat), .int .i64 (y : Nat)] w fun e w' => e = .returned (.bool true) ∧ Below w.heap.size w w' := by
  have Hx := Lib.hid hx
  have Hy := Lib.hid hy
  have He := Lib.hid he
  have t : ((x : Int) == (y : Int)) = false := by simpa using (by omega : ¬ (x : Int) = y)
  have Hr := Lib.hid (show decide ((x : Int) ∈ ints (reachI S (y : Nat))) = true by
    rw [decide_eq_true_iff, ints_mem, mem_reachI Gd.out]
    exact ⟨hy, hr⟩)
  obtain ⟨tb, htb⟩ : ∃ tb, decide ((y : Int) ∈ ints (afterI S (x : Nat))) = tb := ⟨_, rfl⟩
  have Ht := Lib.hid htb
  clear htb
  clear hx he hy hr hne
  have Hl := Lib.hid hl
  have Hlen := Lib.hid hlen
  have Hin := Lib.hid hin
  have Hs := Lib.hid hs
  clear hl hlen hin hs
  go_enter Try.func16, Try.ntmps16
  go_wp2_with fail
  refine (small13_any Hl.out Hlen.out true Hs.out).mono ?_
  rintro e w1 ⟨rfl, c1, s1⟩
  have S1 := Lib.hid (show Stp (2 ≤ ·) (fun _ => 0) c1 w w1 from s1.mono (fun _ h => h.elim))
  have H1 := Lib.hid (Hl.out.stp s1 id)
  have Hin1 := Lib.hid (fun x hx => (Hin.out x hx).stp s1 id)
  clear s1
  go_wp2_with fail
  refine (begun13_any (k := 2) H1.out Hlen.out Hs.out Hin1.out (by decide)).mono ?_
  rintro e w2 ⟨p, rfl, c2, s2, g2⟩
  rw [HS.out] at g2
  have R2 := Lib.hid (show LRel w p S c2 w2 from ⟨S1.out.trans (s2.mono fun _ h => h.1), g2⟩)
  clear s2 g2 S1 H1 Hin1
  go_wp2_with fail
  refine (ghas_all R2.out.gr (x : Nat) true Hx.out).mono ?_
  rintro e w' ⟨rfl, rfl⟩
  go_wp2_with fail
  refine (ghas_all R2.out.gr (y : Nat) true Hy.out).mono ?_
  rintro e w' ⟨rfl, rfl⟩
  go_wp2_with fail
  refine (grreach_all R2.out.gr Gd.out (y : Nat) 80).mono ?_
  rintro e w3 ⟨o3, oc3, rfl, c3, s3, r3⟩
  have R3 := Lib.hid (R2.out.stpF s3)
  have I3 := Lib.hid r3.toIn
  clear s3 r3 R2
  go_wp2_with fail
  refine (in13_any I3.out (x : Nat) true Hr.out).mono ?_
  rintro e w' ⟨rfl, rfl⟩
  clear I3
  go_wp2_with fail
  refine (grafter_all R3.out.gr Gd.out (x : Nat) 80).mono ?_
  rintro e w4 ⟨o4, oc4, rfl, c4, s4, r4⟩
  have R4 := Lib.hid (R3.out.stpF s4)
  have I4 := Lib.hid r4.toIn
  clear s4 r4 R3
  go_wp2_with fail
  refine (in13_any I4.out (y : Nat) tb Ht.out).mono ?_
  rintro e w' ⟨rfl, rfl⟩
  clear I4
  go_wp2_with fail
  refine (grreach_all R4.out.gr Gd.out (y : Nat) 80).mono ?_
  rintro e w5 ⟨o5, oc5, rfl, c5, s5, r5⟩
  have R5 := Lib.hid (R4.out.stpF s5)
  have I5 := Lib.hid r5
  clear s5 r5 R4
  go_wp2_with fail
  refine (grlink_all R5.out.gr Gd.out (x : Nat) (y : Nat)).mono ?_
  rintro e w6 ⟨ev, rfl, c6, s6, g6, e6⟩
  rw [He.out] at e6
  have S6 := Lib.hid (R5.out.st.trans (s6.mono fun _ h => h.1))
  have E6 := Lib.hid e6
  clear s6 g6 e6 R5 I5
  go_wp2_with fail
  refine (awake13 c6 _).mono ?_
  rintro e w7 ⟨rfl, c7, s7⟩
  have S7 := Lib.hid (S6.out.trans (s7.mono fun _ h => h.elim))
  have E7 := Lib.hid (E6.out.stp s7 id)
  clear s7 S6 E6
  go_wp2_with fail
  refine (lawis E7.out 16).mono ?_
  rintro e w' ⟨rfl, rfl⟩
  go_wp2
  go_ret
  exact ⟨by simp, S7.out.fin⟩

set_option maxRecDepth 100000 in
set_option maxHeartbeats 1000000 in
theorem gcycles_there {w : World} (ao : Option Addr) (n cap : Nat) (ops : List Op13) (hl : In (fun _ => 0) 0 w 4 ao n cap (ops.flatMap Op13.cells)) (hlen : ops.length = n) (hin : ∀ x ∈ ops, In (fun _ => 0) 0 w 1 x.lo x.ln x.lc (x.l.map (Value.int .i64))) (hs : smallB ops = true) (S : GS) (HS : Hid (ops.foldl opS ([], []) = S)) (Gd : Hid (GoodS S)) (x y : Nat) (hx : hasB S.2 (x : Nat) = true) (hy : hasB S.2 (y : Nat) = true) (he : linkN S x y = 4) (hne : x ≠ y) (hr : ¬ Reaches S.1 y x) (hm : y ∈ S.1.getD x []) :
    Calls Try.prog 16 #[.slice ao n cap, .int .i64 (x : Nat), .int .i64 (y : Nat)] w fun e w' => e = .returned (.bool true) ∧ Below w.heap.size w w' := by
  have Hx := Lib.hid hx
  have Hy := Lib.hid hy
  have He := Lib.hid he
  have t : ((x : Int) == (y : Int)) = false := by simpa using (by omega : ¬ (x : Int) = y)
  have Hr := Lib.hid (show decide ((x : Int) ∈ ints (reachI S (y : Nat))) = false by
    rw [decide_eq_false_iff_not, ints_mem, mem_reachI Gd.out]
    exact fun h => hr h.2)
  have Ht := Lib.hid (show decide ((y : Int) ∈ ints (afterI S (x : Nat))) = true by
    rw [decide_eq_true_iff, afterI_mem hx]
    exact hm)
  clear hx he hy hr hne hm
  have Hl := Lib.hid hl
  have Hlen := Lib.hid hlen
  have Hin := Lib.hid hin
  have Hs := Lib.hid hs
  clear hl hlen hin hs
  go_enter Try.func16, Try.ntmps16
  go_wp2_with fail
  refine (small13_any Hl.out Hlen.out true Hs.out).mono ?_
  rintro e w1 ⟨rfl, c1, s1⟩
  have S1 := Lib.hid (show Stp (2 ≤ ·) (fun _ => 0) c1 w w1 from s1.mono (fun _ h => h.elim))
  have H1 := Lib.hid (Hl.out.stp s1 id)
  have Hin1 := Lib.hid (fun x hx => (Hin.out x hx).stp s1 id)
  clear s1
  go_wp2_with fail
  refine (begun13_any (k := 2) H1.out Hlen.out Hs.out Hin1.out (by decide)).mono ?_
  rintro e w2 ⟨p, rfl, c2, s2, g2⟩
  rw [HS.out] at g2
  have R2 := Lib.hid (show LRel w p S c2 w2 from ⟨S1.out.trans (s2.mono fun _ h => h.1), g2⟩)
  clear s2 g2 S1 H1 Hin1
  go_wp2_with fail
  refine (ghas_all R2.out.gr (x : Nat) true Hx.out).mono ?_
  rintro e w' ⟨rfl, rfl⟩
  go_wp2_with fail
  refine (ghas_all R2.out.gr (y : Nat) true Hy.out).mono ?_
  rintro e w' ⟨rfl, rfl⟩
  go_wp2_with fail
  refine (grreach_all R2.out.gr Gd.out (y : Nat) 80).mono ?_
  rintro e w3 ⟨o3, oc3, rfl, c3, s3, r3⟩
  have R3 := Lib.hid (R2.out.stpF s3)
  have I3 := Lib.hid r3.toIn
  clear s3 r3 R2
  go_wp2_with fail
  refine (in13_any I3.out (x : Nat) false Hr.out).mono ?_
  rintro e w' ⟨rfl, rfl⟩
  clear I3
  go_wp2_with fail
  refine (grafter_all R3.out.gr Gd.out (x : Nat) 80).mono ?_
  rintro e w4 ⟨o4, oc4, rfl, c4, s4, r4⟩
  have R4 := Lib.hid (R3.out.stpF s4)
  have I4 := Lib.hid r4.toIn
  clear s4 r4 R3
  go_wp2_with fail
  refine (in13_any I4.out (y : Nat) true Ht.out).mono ?_
  rintro e w' ⟨rfl, rfl⟩
  clear I4
  go_wp2_with fail
  refine (grreach_all R4.out.gr Gd.out (y : Nat) 80).mono ?_
  rintro e w5 ⟨o5, oc5, rfl, c5, s5, r5⟩
  have R5 := Lib.hid (R4.out.stpF s5)
  have I5 := Lib.hid r5
  clear s5 r5 R4
  go_wp2_with fail
  refine (grlink_all R5.out.gr Gd.out (x : Nat) (y : Nat)).mono ?_
  rintro e w6 ⟨ev, rfl, c6, s6, g6, e6⟩
  rw [He.out] at e6
  have S6 := Lib.hid (R5.out.st.trans (s6.mono fun _ h => h.1))
  have E6 := Lib.hid e6
  clear s6 g6 e6 R5 I5
  go_wp2_with fail
  refine (awake13 c6 _).mono ?_
  rintro e w7 ⟨rfl, c7, s7⟩
  have S7 := Lib.hid (S6.out.trans (s7.mono fun _ h => h.elim))
  have E7 := Lib.hid (E6.out.stp s7 id)
  clear s7 S6 E6
  go_wp2_with fail
  refine (lawis E7.out 4).mono ?_
  rintro e w' ⟨rfl, rfl⟩
  go_wp2
  go_ret
  exact ⟨by simp, S7.out.fin⟩

set_option maxRecDepth 100000 in
set_option maxHeartbeats 1000000 in
theorem gcycles_ok {w : World} (ao : Option Addr) (n cap : Nat) (ops : List Op13) (hl : In (fun _ => 0) 0 w 4 ao n cap (ops.flatMap Op13.cells)) (hlen : ops.length = n) (hin : ∀ x ∈ ops, In (fun _ => 0) 0 w 1 x.lo x.ln x.lc (x.l.map (Value.int .i64))) (hs : smallB ops = true) (S : GS) (HS : Hid (ops.foldl opS ([], []) = S)) (Gd : Hid (GoodS S)) (x y : Nat) (hx : hasB S.2 (x : Nat) = true) (hy : hasB S.2 (y : Nat) = true) (he : linkN S x y = 0) (hne : x ≠ y) (hr : ¬ Reaches S.1 y x) (hm : y ∉ S.1.getD x []) :
    Calls Try.prog 16 #[.slice ao n cap, .int .i64 (x : Nat), .int .i64 (y : Nat)] w fun e w' => e = .returned (.bool true) ∧ Below w.heap.size w w' := by
  have Hx := Lib.hid hx
  have Hy := Lib.hid hy
  have He := Lib.hid he
  have t : ((x : Int) == (y : Int)) = false := by simpa using (by omega : ¬ (x : Int) = y)
  have Hr := Lib.hid (show decide ((x : Int) ∈ ints (reachI S (y : Nat))) = false by
    rw [decide_eq_false_iff_not, ints_mem, mem_reachI Gd.out]
    exact fun h => hr h.2)
  have Ht := Lib.hid (show decide ((y : Int) ∈ ints (afterI S (x : Nat))) = false by
    rw [decide_eq_false_iff_not, afterI_mem hx]
    exact hm)
  have HF := Lib.hid (linked_facts Gd.out hx hy he)
  clear hx he hy hr hne hm
  have Hl := Lib.hid hl
  have Hlen := Lib.hid hlen
  have Hin := Lib.hid hin
  have Hs := Lib.hid hs
  clear hl hlen hin hs
  go_enter Try.func16, Try.ntmps16
  go_wp2_with fail
  refine (small13_any Hl.out Hlen.out true Hs.out).mono ?_
  rintro e w1 ⟨rfl, c1, s1⟩
  have S1 := Lib.hid (show Stp (2 ≤ ·) (fun _ => 0) c1 w w1 from s1.mono (fun _ h => h.elim))
  have H1 := Lib.hid (Hl.out.stp s1 id)
  have Hin1 := Lib.hid (fun x hx => (Hin.out x hx).stp s1 id)
  clear s1
  go_wp2_with fail
  refine (begun13_any (k := 2) H1.out Hlen.out Hs.out Hin1.out (by decide)).mono ?_
  rintro e w2 ⟨p, rfl, c2, s2, g2⟩
  rw [HS.out] at g2
  have R2 := Lib.hid (show LRel w p S c2 w2 from ⟨S1.out.trans (s2.mono fun _ h => h.1), g2⟩)
  clear s2 g2 S1 H1 Hin1
  go_wp2_with fail
  refine (ghas_all R2.out.gr (x : Nat) true Hx.out).mono ?_
  rintro e w' ⟨rfl, rfl⟩
  go_wp2_with fail
  refine (ghas_all R2.out.gr (y : Nat) true Hy.out).mono ?_
  rintro e w' ⟨rfl, rfl⟩
  go_wp2_with fail
  refine (grreach_all R2.out.gr Gd.out (y : Nat) 80).mono ?_
  rintro e w3 ⟨o3, oc3, rfl, c3, s3, r3⟩
  have R3 := Lib.hid (R2.out.stpF s3)
  have I3 := Lib.hid r3.toIn
  clear s3 r3 R2
  go_wp2_with fail
  refine (in13_any I3.out (x : Nat) false Hr.out).mono ?_
  rintro e w' ⟨rfl, rfl⟩
  clear I3
  go_wp2_with fail
  refine (grafter_all R3.out.gr Gd.out (x : Nat) 80).mono ?_
  rintro e w4 ⟨o4, oc4, rfl, c4, s4, r4⟩
  have R4 := Lib.hid (R3.out.stpF s4)
  have I4 := Lib.hid r4.toIn
  clear s4 r4 R3
  go_wp2_with fail
  refine (in13_any I4.out (y : Nat) false Ht.out).mono ?_
  rintro e w' ⟨rfl, rfl⟩
  clear I4
  go_wp2_with fail
  refine (grreach_all R4.out.gr Gd.out (y : Nat) 80).mono ?_
  rintro e w5 ⟨o5, oc5, rfl, c5, s5, r5⟩
  have R5 := Lib.hid (R4.out.stpF s5)
  have I5 := Lib.hid r5
  clear s5 r5 R4
  go_wp2_with fail
  refine (grlink_all R5.out.gr Gd.out (x : Nat) (y : Nat)).mono ?_
  rintro e w6 ⟨ev, rfl, c6, s6, g6, e6⟩
  rw [He.out] at e6
  obtain ⟨T, hT⟩ : ∃ T, T = linkS S (x : Nat) (y : Nat) := ⟨_, rfl⟩
  rw [← hT] at g6 HF
  obtain rfl : ev = .nilIface := by
    rcases e6 with ⟨_, h⟩ | ⟨h, _⟩
    · exact h
    · exact absurd rfl h
  have R6 := Lib.hid (show LRel w p T c6 w6 from ⟨R5.out.st.trans (s6.mono fun _ h => h.1), g6⟩)
  have I6 := Lib.hid (I5.out.stp s6 (by unfold GJ; omega))
  obtain ⟨wl, hwl⟩ : ∃ wl, wl = reachI S (y : Nat) := ⟨_, rfl⟩
  rw [← hwl] at I6 HF ⊢
  obtain ⟨M, hM⟩ : ∃ M, M = wl.length := ⟨_, rfl⟩
  rw [← hM] at I6 ⊢
  have HM := Lib.hid hM
  have hM64 : M ≤ 64 := by rw [hM, hwl]; exact reachI_le Gd.out _
  clear s6 g6 e6 R5 I5 hT hwl hM
  go_wp2_with fail
  refine (grreach_all R6.out.gr HF.out.1 (x : Nat) 81).mono ?_
  rintro e w7 ⟨o7, oc7, rfl, c7, s7, r7⟩
  obtain ⟨ll, hll⟩ : ∃ ll, ll = reachI T (x : Nat) := ⟨_, rfl⟩
  rw [← hll] at r7 HF ⊢
  obtain ⟨M2, hM2⟩ : ∃ M, M = ll.length := ⟨_, rfl⟩
  rw [← hM2] at r7 ⊢
  have R7 := Lib.hid (R6.out.stpF s7)
  have I7 := Lib.hid (I6.out.stp s7 id)
  have L7 := Lib.hid r7
  clear s7 r7 R6 I6 hll hM2
  go_wp2
  go_loopw [78] (fun i wr => ∃ q : Nat, i = .int .i64 q ∧ q ≤ M ∧ wr = w7) (fun i _ => M - (intOf i).toNat)
  case atStart => exact ⟨0, rfl, Nat.zero_le _, rfl⟩
  case round =>
    obtain ⟨q, rfl, hq, rfl⟩ := hrel
    by_cases hlt : q < M
    · have hql : q < wl.length := by rw [← HM.out]; exact hlt
      obtain ⟨z, hz⟩ : ∃ z, z = wl[q] := ⟨_, rfl⟩
      have Hz := Lib.hid (show decide ((z : Int) ∈ ints ll) = true by
        rw [decide_eq_true_iff, ints_mem]
        exact HF.out.2.2.1 z (hz ▸ List.getElem_mem hql))
      obtain ⟨a9, ha9, hs9, hc9, -, hadd9, -⟩ := I7.out.cell (j := q) (v := .int .i64 (z : Nat)) (by rw [getD_val _ _ hql]; simp [List.getD, hql, hz])
      obtain ⟨g9, off9, sp9⟩ := a9
      simp only at hs9
      subst hs9 ha9
      rw [hadd9] at hc9
      clear hadd9 hql hz
      go_wp2_with fail
      refine (in13_any L7.out.toIn (z : Nat) true Hz.out).mono ?_
      rintro e w' ⟨rfl, rfl⟩
      go_wp2
      go_roundw
      case rel => exact ⟨q + 1, by go_num, by omega, trivial⟩
      case measure => simp [intOf]; omega
    · go_wp2_with fail
      refine (awake13 c7 _).mono ?_
      rintro e w8 ⟨rfl, c8, s8⟩
      have R8 := Lib.hid (R7.out.stpF s8)
      have L8 := Lib.hid (L7.out.stp s8 id)
      clear s8 R7 L7 I7
      go_wp2_with fail
      refine (in13_any L8.out.toIn (y : Nat) true (by rw [decide_eq_true_iff, ints_mem]; exact HF.out.2.1)).mono ?_
      rintro e w' ⟨rfl, rfl⟩
      go_wp2_with fail
      refine (grafter_all R8.out.gr HF.out.1 (x : Nat) 82).mono ?_
      rintro e w9 ⟨o9, oc9, rfl, c9, s9, r9⟩
      have R9 := Lib.hid (R8.out.stpF s9)
      have L9 := Lib.hid r9.toIn
      clear s9 r9 R8 L8
      go_wp2_with fail
      refine (in13_any L9.out (y : Nat) true (by rw [decide_eq_true_iff, ints_mem]; exact HF.out.2.2.2.1)).mono ?_
      rintro e w' ⟨rfl, rfl⟩
      go_wp2_with fail
      refine (grbehind_all R9.out.gr (y : Nat) 82).mono ?_
      rintro e w10 ⟨o10, oc10, rfl, c10, s10, r10⟩
      have R10 := Lib.hid (R9.out.stpF s10)
      have L10 := Lib.hid r10.toIn
      clear s10 r10 R9 L9
      go_wp2_with fail
      refine (in13_any L10.out (x : Nat) true (by rw [decide_eq_true_iff, ints_mem]; exact HF.out.2.2.2.2.1)).mono ?_
      rintro e w' ⟨rfl, rfl⟩
      go_wp2_with fail
      refine (grends_all R10.out.gr 82).mono ?_
      rintro e w11 ⟨o11, oc11, rfl, c11, s11, r11⟩
      have R11 := Lib.hid (R10.out.stpF s11)
      have L11 := Lib.hid r11.toIn
      clear s11 r11 R10 L10
      go_wp2_with fail
      refine (in13_any L11.out (y : Nat) false (by rw [decide_eq_false_iff_not, ints_mem]; exact HF.out.2.2.2.2.2)).mono ?_
      rintro e w' ⟨rfl, rfl⟩
      go_wp2
      go_ret
      exact ⟨rfl, R11.out.st.fin⟩

set_option maxRecDepth 100000 in
theorem gcycles_walk {w : World} (ao : Option Addr) (n cap : Nat) (ops : List Op13) (x y : Int) (hl : In (fun _ => 0) 0 w 4 ao n cap (ops.flatMap Op13.cells)) (hlen : ops.length = n) (hin : ∀ x ∈ ops, In (fun _ => 0) 0 w 1 x.lo x.ln x.lc (x.l.map (Value.int .i64))) :
    Calls Try.prog 16 #[.slice ao n cap, .int .i64 x, .int .i64 y] w fun e w' => e = .returned (.bool true) ∧ Below w.heap.size w w' := by
  by_cases hs : smallB ops = true
  · have Gd := Lib.hid (GoodS.ops (S := ([], [])) Good.empty ops)
    rcases linkN_cases (ops.foldl opS ([], [])) x y with ⟨_, hx⟩ | ⟨_, hx, hy⟩ | ⟨hx, hy, a, b, rfl, rfl, ⟨h1, h2⟩ | ⟨h1, h2, h3⟩ | ⟨h1, h2, h3, h4⟩ | ⟨h1, h2, h3, h4⟩⟩
    · exact gcycles_no1 ao n cap ops hl hlen hin hs _ (Lib.hid rfl) Gd x y hx
    · exact gcycles_no2 ao n cap ops hl hlen hin hs _ (Lib.hid rfl) Gd x y hx hy
    · subst h2
      exact gcycles_self ao n cap ops hl hlen hin hs _ (Lib.hid rfl) Gd a hx h1
    · exact gcycles_ring ao n cap ops hl hlen hin hs _ (Lib.hid rfl) Gd a b hx hy h1 h2 h3
    · exact gcycles_there ao n cap ops hl hlen hin hs _ (Lib.hid rfl) Gd a b hx hy h1 h2 h3 h4
    · exact gcycles_ok ao n cap ops hl hlen hin hs _ (Lib.hid rfl) Gd a b hx hy h1 h2 h3 h4
  · have Hl := Lib.hid hl
    have Hlen := Lib.hid hlen
    have Hs := Lib.hid (show smallB ops = false by simpa using hs)
    clear hl hlen hin hs
    go_enter Try.func16, Try.ntmps16
    go_wp2_with fail
    refine (small13_any Hl.out Hlen.out false Hs.out).mono ?_
    rintro e w1 ⟨rfl, c1, s1⟩
    have S1 := Lib.hid (show Stp (2 ≤ ·) (fun _ => 0) c1 w w1 from s1.mono (fun _ h => h.elim))
    clear s1
    go_wp2_with fail
    refine (awake13 c1 _).mono ?_
    rintro e w2 ⟨rfl, c2, s2⟩
    have S2 := Lib.hid (S1.out.trans (s2.mono (fun _ h => h.elim)))
    clear s2 S1
    go_wp2
    go_ret
    exact ⟨rfl, S2.out.fin⟩
end Go.Proofs.Ytmhhhiegioniaaa
