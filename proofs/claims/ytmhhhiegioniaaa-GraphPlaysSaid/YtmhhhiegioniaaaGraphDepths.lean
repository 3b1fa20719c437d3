/- The walk of the law GraphDepths. No condition. -/
import Derived.Test.YtmhhhiegioniaaaGraph12
namespace Go.Proofs.Ytmhhhiegioniaaa
open Go.RowKit Go.Deep

theorem dep_law {S : GS} (h : GoodS S) (x : Int) : depI S x = depS (afterI S x) (fun q => depI S (q : Nat)) := by
  by_cases hx : hasB S.2 x = true
  · rw [depI, afterI, if_pos hx, if_pos hx, Good.dep h]
    exact depS_congr fun k hk => by rw [depI, if_pos (h.has _ _ hk), Int.toNat_natCast]
  · rw [depI, afterI, if_neg hx, if_neg hx]; rfl

theorem dep_le {S : GS} (h : GoodS S) (x : Int) : depI S x ≤ 64 := by
  rw [depI]
  split
  · have := (Good.dep_lt h x.toNat).1
    have := h.le
    omega
  · omega

theorem ifmax (a b : Nat) : (if (a : Int) < (b : Int) + 1 then (b : Int) + 1 else (a : Int)) = ((max a (b + 1) : Nat) : Int) := by split <;> omega

/-- A graph among other things: only what is new, or of its own colours and behind, has turned. -/
structure LRel (w : World) (p : Nat) (S : GS) (c : Nat → Nat) (wr : World) : Prop where
  st : Stp (2 ≤ ·) (fun _ => 0) c w wr
  gr : GrAt c 2 wr p S
theorem LRel.stp {J : Nat → Prop} {w : World} {p : Nat} {S : GS} {c c' : Nat → Nat} {wr w' : World} (h : LRel w p S c wr) (s : Stp J c c' wr w') (hJ : ∀ k, J k → 72 ≤ k) : LRel w p S c' w' :=
  ⟨h.st.trans (s.mono fun k hk => by have := hJ k hk; omega), h.gr.stp s fun j hj hh => by have := hJ j hj; have := hh.2; omega⟩
theorem LRel.stpF {w : World} {p : Nat} {S : GS} {c c' : Nat → Nat} {wr w' : World} (h : LRel w p S c wr) (s : Stp (fun _ => False) c c' wr w') : LRel w p S c' w' := h.stp s fun _ h => h.elim

set_option maxRecDepth 100000 in
set_option maxHeartbeats 1000000 in
theorem gdepths_walk {w : World} (ao : Option Addr) (n cap : Nat) (ops : List Op13) (hl : In (fun _ => 0) 0 w 4 ao n cap (ops.flatMap Op13.cells)) (hlen : ops.length = n) (hin : ∀ x ∈ ops, In (fun _ => 0) 0 w 1 x.lo x.ln x.lc (x.l.map (Value.int .i64))) :
    Calls Try.prog 14 #[.slice ao n cap] w fun e w' => e = .returned (.bool true) ∧ Below w.heap.size w w' := by
  have Hl := Lib.hid hl
  have Hlen := Lib.hid hlen
  have Hin := Lib.hid hin
  by_cases hs : smallB ops = true
  · have Hs := Lib.hid hs
    clear hl hlen hin hs
    go_enter Try.func14, Try.ntmps14
    go_wp2_with fail
    refine (small13_any Hl.out Hlen.out true Hs.out).mono ?_
    rintro e w1 ⟨rfl, c1, s1⟩
    have S1 := Lib.hid (show Stp (2 ≤ ·) (fun _ => 0) c1 w w1 from s1.mono (fun _ h => h.elim))
    have H1 := Lib.hid (Hl.out.stp s1 id)
    have Hin1 := Lib.hid (fun x hx => (Hin.out x hx).stp s1 id)
    clear s1
    go_wp2_with fail
    refine (begun13_any (k := 2) H1.out Hlen.out Hs.out Hin1.out (by decide)).mono ?_
    rintro e w2 ⟨p, rfl, c2, s2, g2⟩
    obtain ⟨S, hS⟩ : ∃ S, S = ops.foldl opS ([], []) := ⟨_, rfl⟩
    rw [← hS] at g2
    have Gd := Lib.hid (show GoodS S by rw [hS]; exact GoodS.ops (S := ([], [])) Good.empty ops)
    obtain ⟨m, hm⟩ : ∃ m, m = S.1.length := ⟨_, rfl⟩
    have Hm := Lib.hid hm
    have hm64 : m ≤ 64 := by rw [hm]; exact Gd.out.le
    have R2 := Lib.hid (show LRel w p S c2 w2 from ⟨S1.out.trans (s2.mono fun _ h => h.1), g2⟩)
    clear s2 g2 S1 H1 Hin1 hS hm
    go_wp2_with (go_at_call 81; refine (grlen_all R2.out.gr).mono ?_; rintro e w' ⟨rfl, rfl⟩; rw [← Hm.out])
    go_loopw [16] (fun i wr => ∃ (c' : Nat → Nat) (j : Nat), i = .int .i64 j ∧ j ≤ m ∧ LRel w p S c' wr) (fun i _ => m - (intOf i).toNat)
    case atStart => exact ⟨c2, 0, rfl, Nat.zero_le _, R2.out⟩
    case round =>
      obtain ⟨c3, j, rfl, hj, hr⟩ := hrel
      have R := Lib.hid hr
      clear hr R2
      obtain ⟨wo, rfl⟩ : ∃ wo : World, wo = wr := ⟨_, rfl⟩
      by_cases hlt : j < m
      · have Hlt := Lib.hid hlt
        go_wp2_with fail
        refine (grafter_all R.out.gr Gd.out (j : Nat) 80).mono ?_
        rintro e w4 ⟨oo, oc, rfl, c4, s4, r4⟩
        obtain ⟨l, hl⟩ : ∃ l, l = afterI S (j : Nat) := ⟨_, rfl⟩
        rw [← hl] at r4 ⊢
        have Hll := Lib.hid hl
        obtain ⟨L, hL⟩ : ∃ L, L = l.length := ⟨_, rfl⟩
        rw [← hL] at r4 ⊢
        have HL := Lib.hid hL
        have hL64 : L ≤ 1000 := by
          rw [hL, hl, afterI]
          split
          · have := Gd.out.small ((j : Int)).toNat; omega
          · simp
        have R4 := Lib.hid (R.out.stpF s4)
        have W4 := Lib.hid r4
        clear s4 r4 hl hL R
        go_wp2
        go_loopw [5, 23] (fun v i wr => ∃ (c' : Nat → Nat) (q : Nat), v = .int .i64 (depS (l.take q) (fun z => depI S (z : Nat)) : Nat) ∧ i = .int .i64 q ∧ q ≤ L ∧ LRel w p S c' wr ∧ Row c' 80 wr 3 1 oo L oc ((ints l).map (Value.int .i64))) (fun _ i _ => L - (intOf i).toNat)
        case atStart => exact ⟨c4, 0, rfl, rfl, Nat.zero_le _, R4.out, W4.out⟩
        case round =>
          obtain ⟨c5, q, rfl, rfl, hq, hr, hw⟩ := hrel
          have R := Lib.hid hr
          have W := Lib.hid hw
          clear hr hw R4 W4
          by_cases hlt2 : q < L
          · have hql : q < l.length := by rw [← HL.out]; exact hlt2
            obtain ⟨z, hz⟩ : ∃ z, z = l[q] := ⟨_, rfl⟩
            obtain ⟨a9, ha9, hs9, hc9, -, hadd9, -⟩ := W.out.cell (j := q) (v := .int .i64 (z : Nat)) (by rw [getD_val _ _ hql]; simp [List.getD, hql, hz])
            obtain ⟨g9, off9, sp9⟩ := a9
            simp only at hs9
            subst hs9 ha9
            rw [hadd9] at hc9
            have Hsn := Lib.hid (show max (depS (l.take q) (fun z => depI S (z : Nat))) (depI S (z : Nat) + 1) = depS (l.take (q + 1)) (fun z => depI S (z : Nat)) by
              rw [List.take_succ_eq_append_getElem hql, depS_snoc, ← hz])
            have hb := dep_le Gd.out (z : Nat)
            obtain ⟨u, hu⟩ : ∃ u, u = depS (l.take q) (fun z => depI S (z : Nat)) := ⟨_, rfl⟩
            obtain ⟨v, hv⟩ : ∃ v, v = depI S (z : Nat) := ⟨_, rfl⟩
            rw [← hu, ← hv] at Hsn
            rw [← hu]
            rw [← hv] at hb
            have Hv := Lib.hid hv
            clear hu hv hadd9 hql hz
            go_wp2_with fail
            refine (grdepth_all R.out.gr Gd.out (z : Nat)).mono ?_
            rintro e w6 ⟨rfl, c6, s6⟩
            rw [← Hv.out]
            have R6 := Lib.hid (R.out.stpF s6)
            have W6 := Lib.hid (W.out.stp s6 id)
            clear s6 R W hc9
            go_wp2
            go_roundw
            case rel => exact ⟨c6, q + 1, by rw [← Hsn.out, ← ifmax], by go_num, by omega, R6.out, W6.out⟩
            case measure => simp [intOf]; omega
          · obtain rfl : q = L := by omega
            rw [List.take_of_length_le (by rw [← HL.out]; exact Nat.le_refl _), Hll.out, ← dep_law Gd.out]
            have hjm := Hlt.out
            obtain ⟨u, hu⟩ : ∃ u, u = depI S (j : Nat) := ⟨_, rfl⟩
            rw [← hu]
            have Hu := Lib.hid hu
            have t : ((u : Int) != (u : Int)) = false := by simp
            clear hu
            go_wp2_with fail
            refine (grdepth_all R.out.gr Gd.out (j : Nat)).mono ?_
            rintro e w6 ⟨rfl, c6, s6⟩
            rw [← Hu.out]
            have R6 := Lib.hid (R.out.stpF s6)
            clear s6 R W
            go_wp2
            go_roundw
            case rel => exact ⟨c6, j + 1, by go_num, by omega, R6.out⟩
            case measure => simp [intOf]; omega
      · go_wp2_with fail
        refine (awake13 c3 _).mono ?_
        rintro e w9 ⟨rfl, c9, s9⟩
        have R9 := Lib.hid (R.out.stpF s9)
        clear s9 R
        go_wp2
        go_ret
        exact ⟨rfl, R9.out.st.fin⟩
  · have Hs := Lib.hid (show smallB ops = false by simpa using hs)
    clear hl hlen hin hs
    go_enter Try.func14, Try.ntmps14
    go_wp2_with fail
    refine (small13_any Hl.out Hlen.out false Hs.out).mono ?_
    rintro e w1 ⟨rfl, c1, s1⟩
    have S1 := Lib.hid (show Stp (2 ≤ ·) (fun _ => 0) c1 w w1 from s1.mono (fun _ h => h.elim))
    clear s1
    go_wp2_with fail
    refine (awake13 c1 _).mono ?_
    rintro e w2 ⟨rfl, c2, s2⟩
    have S2 := Lib.hid (S1.out.trans (s2.mono (fun _ h => h.elim)))
    clear s2 S1
    go_wp2
    go_ret
    exact ⟨rfl, S2.out.fin⟩
end Go.Proofs.Ytmhhhiegioniaaa
