/- The contract of the graph's Reach. No condition beyond the contract's own. -/
import Derived.Test.YtmhhhiegioniaaaGraph3
namespace Go.Proofs.Ytmhhhiegioniaaa
open Go.RowKit

structure R2Rel (c : Nat → Nat) (k kt ks kr : Nat) (w : World) (p : Nat) (A : List (List Nat)) (G : List Bool) (vs : List Value) (n : Nat) (ao : Option Addr) (cap : Nat) (bo : Option Addr) (bcap : Nat) (sb : Nat) (f : Nat → Bool) (j : Nat) (oo : Option Addr) (N oc : Nat) (c' : Nat → Nat) (wr : World) : Prop where
  le : j ≤ n
  len : N = ((List.range j).filter f).length
  row : Row c' kr wr 3 1 oo N oc ((ints ((List.range j).filter f)).map (Value.int .i64))
  seen : Blk c' ks wr sb (bits f) 177
  gr : GraphIs c' k wr p A G vs n ao cap bo bcap
  st : Stp (fun j => j = kt ∨ j = ks ∨ j = kr) c c' w wr

def lenV : Value → Nat
  | .slice _ n _ => n
  | _ => 0

theorem reach_meas {wr wr2 : World} {sb a b N M : Nat} {oo oo2 : Option Addr} {oc oc2 : Nat} (h1 : cntW wr sb = a) (h2 : cntW wr2 sb = b) (h : M + 65 * b < N + 65 * a) : lenV (.slice oo2 M oc2) + 65 * cntW wr2 sb < lenV (.slice oo N oc) + 65 * cntW wr sb := by
  rw [h1, h2]
  exact h

set_option maxRecDepth 100000 in
theorem grreach_any {c : Nat → Nat} {k : Nat} {w : World} {p : Nat} {A : List (List Nat)} {G : List Bool} (h : GraphAt c k w p A G) (gd : Good A G) (x : Nat) (hx : hasB G x = true) (kt ks kr : Nat) (hd : kt ≠ ks ∧ ks ≠ kr ∧ kt ≠ kr) (hkt : ¬ GJ k kt) (hks : ¬ GJ k ks) (hkr : ¬ GJ k kr) :
    Calls Try.prog 83 #[.pointer (some ⟨p, 0, none⟩), .int .i64 x] w fun e w' => ∃ ao cap, e = .returned (.slice ao (reachL A x).length cap) ∧ ∃ c', Stp (fun j => j = kt ∨ j = ks ∨ j = kr) c c' w w' ∧ Row c' kr w' 3 1 ao (reachL A x).length cap ((ints (reachL A x)).map (Value.int .i64)) := by
  have H := Lib.hid h
  have Hx := Lib.hid hx
  have Gd := Lib.hid gd
  have Hd := Lib.hid hd
  have Hks := Lib.hid hks
  have Hkt := Lib.hid hkt
  have Hkr := Lib.hid hkr
  obtain ⟨vs, n, ao, cap, bo, bcap, h⟩ := h
  obtain ⟨h0, h1, h2⟩ := hasB_lt hx
  rw [h.lg, Int.toNat_natCast] at h1
  obtain ⟨g, off, oi, ci, rfl, -, hg, y0, -, hr⟩ := h.node h1
  have b0 := h.hb.cell 0
  have hp := h.hb.lt
  simp at b0
  have hle := h.le
  have hl : (x : Int) < n := by omega
  have hsm := gd.small x
  have Hn := Lib.hid (show (((A.getD x []).length : Nat) : Int) ≤ 1048576 by omega)
  obtain ⟨f, hf⟩ : ∃ f : Nat → Bool, f = reachB A x := ⟨_, rfl⟩
  have F := Lib.hid hf
  rw [show reachL A x = (List.range n).filter f by rw [reachL, hf, h.la]]
  obtain ⟨L, hL⟩ : ∃ L, L = (A.getD x []).length := ⟨_, rfl⟩
  have HL := Lib.hid hL
  have Hsm := Lib.hid hsm
  rw [← hL] at y0 hr Hn
  obtain ⟨c0, hc0, A0⟩ := ((Stp.refl (fun _ => False) c w).alloc (.cells (bits fun _ => false).toArray 177) ks).name
  have S0 := Lib.hid (show Blk c0 ks (w.alloc (.cells (bits fun _ => false).toArray 177)) w.heap.size (bits fun _ => false) 177 by rw [hc0.out]; exact Blk.new c ks w _ _)
  have R0 := Lib.hid (hr.stp A0.out id)
  have G0 := Lib.hid (h.stp A0.out (fun _ h => h.elim))
  clear h hx h2 hr h0 hL gd hd hkt hks hkr hsm hc0 hf
  go_enter Try.func83, Try.ntmps83
  go_wp2_with (go_at_call 80; refine (ghas_yes H.out x Hx.out).mono ?_; rintro e w' ⟨rfl, rfl⟩)
  refine (clone_in (w := w.alloc (.cells (bits fun _ => false).toArray 177)) R0.out.toIn kt Hn.out).mono ?_
  rintro e w1 ⟨ao1, cap1, rfl, c1, s1, r1⟩
  have R1 := Lib.hid (show RRel c k kt ks w p A G vs n (some ⟨g, off, none⟩) cap bo bcap x w.heap.size (A.getD x []) (fun _ => false) ao1 L cap1 c1 w1 from
    ⟨HL.out, r1, S0.out.stp s1 id, G0.out.stp s1 (fun _ h => h.elim), (A0.out.trans s1).mono (fun _ h => h.elim), fun y hy => .base hy, fun y hy => absurd hy (by simp), fun y hy => Or.inr hy, fun z y hz _ => absurd hz (by simp), by have := Hsm.out; rw [← HL.out] at this; have := cntF_le (fun _ => false) 64; omega⟩)
  clear s1 r1 R0 G0 A0 S0 y0 b0
  go_wp2
  go_loopw [6] (fun v wr => ∃ (c' : Nat → Nat) (T : List Nat) (S : Nat → Bool) (oo : Option Addr) (N oc : Nat), v = .slice oo N oc ∧ RRel c k kt ks w p A G vs n (some ⟨g, off, none⟩) cap bo bcap x w.heap.size T S oo N oc c' wr) (fun v wr => lenV v + 65 * cntW wr w.heap.size)
  case atStart => exact ⟨c1, _, _, ao1, L, cap1, rfl, R1.out⟩
  case round =>
    obtain ⟨c2, T, S, oo, N, oc, rfl, hr⟩ := hrel
    have R := Lib.hid hr
    have hm := cntW_eq hr.seen
    have hlt0 := hr.seen.lt
    have hroom := hr.room
    have hlen := hr.len
    have hsb := hr.seen
    clear hr R1
    by_cases hN : 0 < N
    · obtain ⟨m, rfl⟩ : ∃ m, N = m + 1 := ⟨N - 1, by omega⟩
      obtain ⟨T', y, rfl⟩ : ∃ T' y, T = T' ++ [y] := by
        rcases List.eq_nil_or_concat T with e | ⟨T', y, e⟩
        · rw [e] at hlen; cases hlen
        · exact ⟨T', y, by rw [e, List.concat_eq_append]⟩
      obtain ⟨b, rfl, hs, hc, -, ha, -⟩ := R.out.row.cell (j := m) (v := .int .i64 (y : Nat)) (by
        rw [getD_val _ _ (by omega)]
        simp at hlen
        simp [List.getD, hlen])
      obtain ⟨g2, off2, sp⟩ := b
      simp only at hs
      subst hs
      rw [ha] at hc
      have hry := R.out.s1 y (by simp)
      have hy64 : y < 64 := Nat.lt_of_lt_of_le (R.out.gr.la ▸ (Gd.out.rlt hry)) hle
      have Hy := Lib.hid hry
      have hoc : ((m : Nat) : Int) ≤ oc := by have := R.out.row.2.1; omega
      have hs0 := hsb.cell y
      have hsf := hsb.free y
      rw [bits_get hy64] at hs0
      have Hlen := Lib.hid (show T'.length = m by simp at hlen; omega)
      have Hm := Lib.hid hm
      have Hroom := Lib.hid hroom
      have hm9 : (m : Int) ≤ 4160 := by omega
      have W : wrap64 (m : Int) = m := IntWalk.wrap64_in _ ⟨by omega, by omega⟩
      have hyn : (y : Int) < n := by have := Gd.out.rlt hry; have := R.out.gr.la; omega
      have Hst := Lib.hid (show ∀ q, y ∈ T' ++ [y] → q ∈ T' ++ [y] → q = y ∨ q ∈ T' from fun q _ h => by rcases List.mem_append.1 h with h | h; exact .inr h; exact .inl (by simpa using h))
      clear hlen hroom hm hsb hry
      have hy64 : (y : Int) < 64 := by omega
      by_cases hS : S y = true
      · rw [hS] at hs0
        have R2 := Lib.hid (show RRel c k kt ks w p A G vs n (some ⟨g, off, none⟩) cap bo bcap x w.heap.size T' S (some ⟨g2, off2, none⟩) m oc c2 wr from by
          have r := R.out
          refine ⟨Hlen.out.symm, ?_, r.seen, r.gr, r.st, fun q hq => r.s1 q (by simp [hq]), r.s2, fun q hq => ?_, fun z q hz hq => ?_, by have := r.room; omega⟩
          · have := r.row.take m (by omega)
            rw [ints_app, List.map_append, Nat.mul_one, List.take_left' (by simp [ints, Hlen.out])] at this
            exact this
          · rcases r.c1 q hq with h | h
            · exact .inl h
            · rcases Hst.out q (by simp) h with rfl | h
              · exact .inl hS
              · exact .inr h
          · rcases r.c2 z q hz hq with h | h
            · exact .inl h
            · rcases Hst.out q (by simp) h with rfl | h
              · exact .inl hS
              · exact .inr h)
        clear hS
        go_wp2
        go_roundw
        case rel => exact ⟨c2, T', S, _, m, oc, rfl, R2.out⟩
        case measure => exact reach_meas rfl rfl (by omega)
      · have hSf : S y = false := by simpa using hS
        rw [hSf] at hs0
        obtain ⟨g3, off3, oi2, ci2, he, -, -, z0, -, hrow⟩ := R.out.gr.node (i := y) (by omega)
        cases he
        have HR := Lib.hid hrow
        obtain ⟨L2, hL2⟩ : ∃ L2, L2 = (A.getD y []).length := ⟨_, rfl⟩
        rw [← hL2] at z0 HR
        have Hsm2 := Lib.hid (Gd.out.small y)
        rw [← hL2] at Hsm2
        have HL2 := Lib.hid hL2
        clear hrow hL2
        have R2 := Lib.hid (show Row c2 kt wr 3 1 (some ⟨g2, off2, none⟩) m oc ((ints T').map (Value.int .i64)) from by
          have := R.out.row.take m (by omega)
          rw [ints_app, List.map_append, Nat.mul_one, List.take_left' (by simp [ints, Hlen.out])] at this
          exact this)
        obtain ⟨c3, hc3, A3⟩ := ((Stp.refl (· = ks) c2 wr).setCell (p := ⟨w.heap.size, y, none⟩) (.bool true) R.out.seen.1).name
        have R3 := Lib.hid (R2.out.stp A3.out (fun e => Hd.out.1 e))
        have S3 := Lib.hid (show Blk c3 ks _ w.heap.size (bits (upd S y)) 177 by rw [hc3.out, ← bits_set]; exact R.out.seen.set y (.bool true))
        have G3 := Lib.hid (R.out.gr.stp A3.out (fun j hj => by rw [hj]; exact Hks.out))
        have HR3 := Lib.hid (HR.out.stp A3.out (fun e => Hks.out (by rw [← e]; exact ⟨by omega, by omega⟩)))
        have b0 := R.out.gr.hb.cell 0
        simp at b0
        have hc2 := Lib.hid (cntF_upd (S := S) (x := y) hSf 64 (by omega))
        have d1 : Hid (m + L2 ≤ maxLen) := Lib.hid (by have := Hroom.out; have := Hsm2.out; unfold maxLen; omega)
        have d2 : Hid ((m + L2) * 8 ≤ 140737488355328) := Lib.hid (by have := Hroom.out; have := Hsm2.out; omega)
        clear hS hSf hc3
        go_wp2_with (at_builtin; refine wpList_append_row _ rfl (.tmp 41) (.tmp 48) 40 rfl c3 kt 3 (.int .i64 0) 1 8 Try.underlying40 Try.infoInt rfl (some ⟨g2, off2, none⟩) m oc ((ints T').map (Value.int .i64)) rfl R3.out (.slice oi2 L2 ci2) L2 ((ints (A.getD y [])).map (Value.int .i64)) rfl HR3.out.src (ints_one _) d1.out d2.out ?_)
        intro oo2 oc2 w4 hr4 st4 _
        have R4 := Lib.hid (show RRel c k kt ks w p A G vs n (some ⟨g, off, none⟩) cap bo bcap x w.heap.size (T' ++ A.getD y []) (upd S y) oo2 (m + L2) oc2 _ w4 from by
          have r := R.out
          refine ⟨by rw [List.length_append, Hlen.out, HL2.out], by rw [ints_app, List.map_append]; exact hr4, S3.out.stp st4 (fun e => Hd.out.1 e.symm), G3.out.stp st4 (fun j hj => by rw [hj]; exact Hkt.out), (r.st.trans (A3.out.mono fun _ h => .inr h)).trans (st4.mono fun _ h => .inl h), fun q hq => ?_, fun q hq => ?_, fun q hq => ?_, fun z q hz hq => ?_, by have := r.room; have := hc2.out; have := Hsm2.out; omega⟩
          · rcases List.mem_append.1 hq with hq | hq
            · exact r.s1 q (by simp [hq])
            · exact .step Hy.out hq
          · unfold upd at hq
            split at hq
            · next e => rw [e]; exact Hy.out
            · exact r.s2 q hq
          · rcases r.c1 q hq with h | h
            · left; unfold upd; split <;> simp_all
            · rcases Hst.out q (by simp) h with h | h
              · left; simp [upd, h]
              · right; simp [h]
          · unfold upd at hz
            split at hz
            · next e => subst e; exact .inr (List.mem_append_right _ hq)
            · rcases r.c2 z q hz hq with h | h
              · left; unfold upd; split <;> simp_all
              · rcases Hst.out q (by simp) h with h | h
                · left; simp [upd, h]
                · right; simp [h])
        have Hq1 := Lib.hid (cntW_eq R4.out.seen)
        clear hr4 st4 z0 b0 hs0 hc
        go_wp2
        go_roundw
        case rel => exact ⟨_, _, _, _, m + L2, _, rfl, R4.out⟩
        case measure => exact reach_meas Hm.out Hq1.out (by have := hc2.out; have := Hsm2.out; omega)
    · obtain rfl : N = 0 := by omega
      obtain rfl : S = f := by rw [F.out]; exact R.out.done
      have Hgr := Lib.hid (show GraphAt c2 k wr p A G from ⟨_, _, _, _, _, _, R.out.gr⟩)
      have b0 := R.out.gr.hb.cell 0
      simp at b0
      have B0 := Lib.hid (show R2Rel c k kt ks kr w p A G vs n (some ⟨g, off, none⟩) cap bo bcap w.heap.size S 0 none 0 0 c2 wr from ⟨Nat.zero_le _, rfl, Row.nil _ _ _ _ _, R.out.seen, R.out.gr, R.out.st.mono (fun j h => by rcases h with h | h; exact .inl h; exact .inr (.inl h))⟩)
      clear hlen hroom hm hsb hN R
      go_wp2
      go_loopw [8, 55] (fun v i wr => ∃ (c' : Nat → Nat) (j : Nat) (oo : Option Addr) (N oc : Nat), v = .slice oo N oc ∧ i = .int .i64 j ∧ R2Rel c k kt ks kr w p A G vs n (some ⟨g, off, none⟩) cap bo bcap w.heap.size S j oo N oc c' wr) (fun _ i _ => n - (intOf i).toNat)
      case atStart => exact ⟨c2, 0, none, 0, 0, rfl, rfl, B0.out⟩
      case round =>
        obtain ⟨c3, j, oo3, N, oc3, rfl, rfl, hr⟩ := hrel
        have R := Lib.hid hr
        have hj := hr.le
        clear hr b0 B0 Hgr
        by_cases hlt : j < n
        · have s0 := R.out.seen.cell j
          rw [bits_get (by omega)] at s0
          have hN : N ≤ 64 := by rw [R.out.len]; have := range_filter_le S j; omega
          have hj64 : (j : Int) < 64 := by omega
          by_cases hm : S j = true
          · rw [hm] at s0
            have Hf := Lib.hid (show (List.range (j + 1)).filter S = (List.range j).filter S ++ [j] by rw [range_filter_succ, if_pos hm])
            clear hm
            have d1 : Hid (N + 1 ≤ maxLen) := Lib.hid (by unfold maxLen; omega)
            have d2 : Hid ((N + 1) * 8 ≤ 140737488355328) := Lib.hid (by omega)
            go_wp2_with (at_builtin; refine wpList_append_row _ rfl (.tmp 61) (.tmp 63) 40 rfl (paint c3 wr.heap.size kr) kr 3 (.int .i64 0) 1 8 Try.underlying40 Try.infoInt rfl oo3 N oc3 ((ints ((List.range j).filter S)).map (Value.int .i64)) rfl (R.out.row.alloc _ kr) _ 1 [.int .i64 (j : Int)] rfl (Src.one wr _ 3) (by simp [Value.oneCell']) d1.out d2.out ?_)
            intro oo2 oc2 w2 hr2 st2 _
            have s2 := ((Stp.refl (· = kr) c3 wr).alloc (.cells #[.int .i64 (j : Int)] 3) kr).trans st2
            have R2 := Lib.hid (show R2Rel c k kt ks kr w p A G vs n (some ⟨g, off, none⟩) cap bo bcap w.heap.size S (j + 1) oo2 (N + 1) oc2 _ w2 from
              ⟨by omega, by rw [Hf.out, List.length_append, ← R.out.len]; rfl, by rw [Hf.out, ints_app, List.map_append]; exact hr2, R.out.seen.stp s2 Hd.out.2.1, R.out.gr.stp s2 (fun j hj => by rw [hj]; exact Hkr.out), R.out.st.trans (s2.mono fun _ h => .inr (.inr h))⟩)
            clear hr2 st2 s2 s0 hN
            go_wp2
            go_roundw
            case rel => exact ⟨_, j + 1, oo2, N + 1, oc2, rfl, by go_num, R2.out⟩
            case measure => simp [intOf]; omega
          · have hm' : S j = false := by simpa using hm
            rw [hm'] at s0
            have Hf := Lib.hid (show (List.range (j + 1)).filter S = (List.range j).filter S by rw [range_filter_succ, if_neg hm, List.append_nil])
            clear hm hm'
            go_wp2
            go_roundw
            case rel => exact ⟨c3, j + 1, oo3, N, oc3, rfl, by go_num, by omega, by rw [Hf.out]; exact R.out.len, by rw [Hf.out]; exact R.out.row, R.out.seen, R.out.gr, R.out.st⟩
            case measure => simp [intOf]; omega
        · obtain rfl : j = n := by omega
          go_wp2
          go_ret
          rw [← R.out.len]
          exact ⟨oo3, oc3, rfl, c3, R.out.st, R.out.row⟩

theorem grreach_p {c : Nat → Nat} {k : Nat} {w : World} {p : Nat} {A : List (List Nat)} {G : List Bool} (h : GraphAt c k w p A G) (gd : Good A G) (x : Nat) (hx : hasB G x = true) (kr : Nat) :
    Calls Try.prog 83 #[.pointer (some ⟨p, 0, none⟩), .int .i64 x] w (NewInts c kr w (reachL A x)) := by
  refine (grreach_any h.recol gd x hx (k + 70) (k + 71) (k + 72) (by omega) (by unfold GJ; omega) (by unfold GJ; omega) (by unfold GJ; omega)).mono ?_
  rintro e w' ⟨ao, cap, rfl, c', st, hr⟩
  exact ⟨ao, cap, rfl, _, st.pure (fun i hi => by rcases hi with hi | hi | hi <;> exact recol_ne c k _ ⟨by omega, by omega⟩ i hi) c kr, hr.fresh st (recol_ne c k _ ⟨by omega, by omega⟩) c kr⟩

theorem grreach_no {c : Nat → Nat} {k : Nat} {w : World} {p : Nat} {A : List (List Nat)} {G : List Bool} (h : GraphAt c k w p A G) (x : Int) (hx : hasB G x = false) :
    Calls Try.prog 83 #[.pointer (some ⟨p, 0, none⟩), .int .i64 x] w fun e w' => e = .returned (.slice none 0 0) ∧ w = w' := by
  have H := Lib.hid h
  have Hx := Lib.hid hx
  clear h hx
  go_enter Try.func83, Try.ntmps83
  go_wp2_with (go_at_call 80; refine (ghas_no H.out x Hx.out).mono ?_; rintro e w' ⟨rfl, rfl⟩)
  go_ret
  exact ⟨rfl, rfl⟩
end Go.Proofs.Ytmhhhiegioniaaa
