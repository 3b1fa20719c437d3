/- The contract of the document's Tick for clocks. No condition beyond the contract's own. -/
import Derived.Test.YtmhhhiegioniaaaClock10
import Derived.Test.YtmhhhiegioniaaaClock2
namespace Go.Proofs.Ytmhhhiegioniaaa
open Go.RowKit

theorem r04tick_bad {c : Nat → Nat} {w : World} (ao : Option Addr) (n cap : Nat) (now d er : Int) (hn : 0 ≤ now ∧ now ≤ 1099511627776) (he : (d < 1 ∧ er = 1) ∨ (1 ≤ d ∧ 1099511627776 - now < d ∧ er = 5)) :
    Calls Try.prog 70 #[.agg #[.int .i64 now, .slice ao n cap], .int .i64 d] w fun e w' => e = .returned (.tuple #[.agg #[.int .i64 now, .slice ao n cap], .slice none 0 0, .int .i64 er]) ∧ ∃ c', Stp (fun _ => False) c c' w w' := by
  have W : wrap64 (1099511627776 - now) = 1099511627776 - now := IntWalk.wrap64_in _ ⟨by omega, by omega⟩
  rcases (show (decide (d < 1) = true ∧ er = 1) ∨ (decide (d < 1) = false ∧ decide (1099511627776 - now < d) = true ∧ er = 5) by
    rcases he with ⟨h1, h2⟩ | ⟨h1, h2, h3⟩
    · exact .inl ⟨by simpa using h1, h2⟩
    · exact .inr ⟨by simp; omega, by simpa using h2, h3⟩) with ⟨t1, e⟩ | ⟨t1, t2, e⟩
  all_goals
    subst e
    clear he hn
    go_enter Try.func70, Try.ntmps70
    go_wp2
    exact bodyPost_ret (v := .tuple #[.agg #[.int .i64 now, .slice ao n cap], .slice none 0 0, .int .i64 _]) (by simp [results, Try.results70, go_sem]) rfl ⟨rfl, _, ((Stp.refl (fun _ => False) c w).alloc _ 0).alloc _ 0⟩

def TJ (k2 kr : Nat) (j : Nat) : Prop := j = k2 ∨ j = kr

def RTickRel (c : Nat → Nat) (k k2 kr : Nat) (w : World) (b0 b1 : Nat) (now : Int) (m : List Tm) (v : Value) (wr : World) : Prop :=
  ∃ (c' : Nat → Nat) (K : Nat) (mm wk : List Tm) (ao : Option Addr) (n cap : Nat) (oo : Option Addr) (oc N : Nat), v = .slice oo N oc ∧ (K = k ∨ K = k2) ∧ N + n = m.length ∧ mm.length = n ∧ srt m = wk ++ srt mm ∧ (∀ t ∈ wk, t.at_ ≤ now) ∧
    Row c' kr wr 3 1 oo N oc (wk.map fun x : Tm => Value.int .i64 x.who) ∧ Blk c' (k2 + 1) wr b0 [.int .i64 now, .slice ao n cap] 105 ∧ Blk c' (k2 + 1) wr b1 [.int .i64 0, .slice none 0 0] 105 ∧
    In c' K wr 2 ao n cap (mm.flatMap Tm.cells) ∧ Stp (TJ k2 kr) c c' w wr

theorem tick_end {m wk mm : List Tm} {now : Int} (h : srt m = wk ++ srt mm) (hw : ∀ t ∈ wk, t.at_ ≤ now) (hm : ∀ y r, srt mm = y :: r → ¬ y.at_ ≤ now) :
    (srt m).takeWhile (fun x => decide (x.at_ ≤ now)) = wk ∧ (srt m).dropWhile (fun x => decide (x.at_ ≤ now)) = srt mm := by
  have hd : (srt mm).takeWhile (fun x => decide (x.at_ ≤ now)) = [] ∧ (srt mm).dropWhile (fun x => decide (x.at_ ≤ now)) = srt mm := by
    cases hq : srt mm with
    | nil => simp
    | cons y r => simp [hm y r hq]
  have ht : ∀ x ∈ wk, decide (x.at_ ≤ now) = true := fun x hx => by simpa using hw x hx
  rw [h, List.takeWhile_append_of_pos ht, List.dropWhile_append_of_pos ht, hd.1, hd.2, List.append_nil]
  exact ⟨rfl, rfl⟩

theorem tick_fin {c c3 : Nat → Nat} {k K k2 kr : Nat} {w w1 : World} {m wk mm : List Tm} {now x : Int} {ao1 oo : Option Addr} {n1 cap1 N oc : Nat} {V1 V2 v1 v2 : Value} (hk4 : k ≠ k2 + 1) (hK : K = k ∨ K = k2) (hr : Row c3 kr w1 3 1 oo N oc (wk.map fun x : Tm => Value.int .i64 x.who))
    (hi : In c3 K w1 2 ao1 n1 cap1 (mm.flatMap Tm.cells)) (hq : Blk c3 (k2 + 1) w1 (w.heap.size + 1) [v1, v2] 105) (st : Stp (TJ k2 kr) c c3 w w1) (hmn : mm.length = n1)
    (h : srt m = wk ++ srt mm) (hw : ∀ t ∈ wk, t.at_ ≤ now) (hm : ∀ y r, srt mm = y :: r → ¬ y.at_ ≤ now) (q : Nat) :
    ∃ ao' n' cap' oo' N' oc' mm' K', Ending.returned (.tuple #[.agg #[.int .i64 x, .slice ao1 n1 cap1], .slice oo N oc, .int .i64 0]) = .returned (.tuple #[.agg #[.int .i64 x, .slice ao' n' cap'], .slice oo' N' oc', .int .i64 0]) ∧ mm'.length = n' ∧ (K' = k ∨ K' = k2) ∧
      srt mm' = (srt m).dropWhile (fun x => decide (x.at_ ≤ now)) ∧ ∃ c', Stp (TJ k2 kr) c c' w (((w1.drewN q).setCell ⟨w.heap.size + 1, 0, none⟩ V1).setCell ⟨w.heap.size + 1, 1, none⟩ V2) ∧ In c' K' (((w1.drewN q).setCell ⟨w.heap.size + 1, 0, none⟩ V1).setCell ⟨w.heap.size + 1, 1, none⟩ V2) 2 ao' n' cap' (mm'.flatMap Tm.cells) ∧
        Row c' kr (((w1.drewN q).setCell ⟨w.heap.size + 1, 0, none⟩ V1).setCell ⟨w.heap.size + 1, 1, none⟩ V2) 3 1 oo' N' oc' (((srt m).takeWhile (fun x => decide (x.at_ ≤ now))).map fun x : Tm => Value.int .i64 x.who) := by
  obtain ⟨e1, e2⟩ := tick_end h hw hm
  have s2 := (((Stp.refl (· = k2 + 1) c3 w1).drewN q).setCell (p := ⟨w.heap.size + 1, 0, none⟩) V1 hq.1).setCell (p := ⟨w.heap.size + 1, 1, none⟩) V2 hq.1
  refine ⟨ao1, n1, cap1, oo, N, oc, mm, K, rfl, hmn, hK, e2.symm, c3, ((st.drewN q).setNew (p := ⟨w.heap.size + 1, 0, none⟩) _ (by simp)).setNew (p := ⟨w.heap.size + 1, 1, none⟩) _ (by simp), hi.stp s2 (by omega), ?_⟩
  rw [e1]
  exact (Row.other (Row.drewN hr q) (p := ⟨w.heap.size + 1, 0, none⟩) V1 (hr.ne_blk hq (by decide)) rfl).other (p := ⟨w.heap.size + 1, 1, none⟩) V2 (hr.ne_blk hq (by decide)) rfl

theorem tick_rel {c c6 : Nat → Nat} {k k2 kr : Nat} {w w4 : World} {now : Int} {m M wk : List Tm} {y : Tm} {ao1 ao4 oo : Option Addr} {n1 cap1 n4 cap4 N oc : Nat} (hr : Row c6 k2 w4 119 2 ao4 n4 cap4 (M.flatMap Tm.cells))
    (ho : Row c6 kr w4 3 1 oo (N + 1) oc (wk.map (fun x : Tm => Value.int .i64 x.who) ++ [.int .i64 y.who])) (hp : Blk c6 (k2 + 1) w4 w.heap.size [.int .i64 now, .slice ao1 n1 cap1] 105) (hq : Blk c6 (k2 + 1) w4 (w.heap.size + 1) [.int .i64 0, .slice none 0 0] 105)
    (st : Stp (TJ k2 kr) c c6 w w4) (h1 : N + 1 + n4 = m.length) (h2 : M.length = n4) (h3 : srt m = (wk ++ [y]) ++ srt M) (h4 : ∀ t ∈ wk ++ [y], t.at_ ≤ now) :
    RTickRel c k k2 kr w w.heap.size (w.heap.size + 1) now m (.slice oo (N + 1) oc) (w4.setCell ⟨w.heap.size, 1, none⟩ (.slice ao4 n4 cap4)) := by
  refine ⟨c6, k2, M, wk ++ [y], ao4, n4, cap4, oo, oc, N + 1, rfl, .inr rfl, h1, h2, h3, h4, ?_, by simpa using hp.set 1 (.slice ao4 n4 cap4), ?_, ?_, st.setNew (p := ⟨w.heap.size, 1, none⟩) _ (Nat.le_refl _)⟩
  · have := ho.other (p := ⟨w.heap.size, 1, none⟩) (.slice ao4 n4 cap4) (ho.ne_blk hp (by decide)) rfl
    simpa using this
  · exact hq.other _ (by simp)
  · exact (hr.other (p := ⟨w.heap.size, 1, none⟩) (.slice ao4 n4 cap4) (hr.ne_blk hp (by decide)) rfl).toIn

theorem meas_tick {N n1 i L : Nat} {oo oo2 : Option Addr} {oc oc2 : Nat} (h1 : N + n1 = L) (h2 : i + 1 ≤ n1) : L - lenOfV (.slice oo2 (N + 1) oc2) < L - lenOfV (.slice oo N oc) := by
  simp only [lenOfV]
  omega

set_option maxRecDepth 100000 in
set_option maxHeartbeats 4000000 in
theorem r04tick_ok {c : Nat → Nat} {k : Nat} {w : World} {ao : Option Addr} {n cap : Nat} {m : List Tm} (h : In c k w 2 ao n cap (m.flatMap Tm.cells)) (hln : m.length = n) (k2 kr : Nat) (hk : k ≠ kr) (hk2 : k2 ≠ kr) (hk3 : k2 + 1 ≠ kr) (hk4 : k ≠ k2 + 1) (hn : n ≤ 1000) (now d : Int) (hnow : 0 ≤ now) (hd : 1 ≤ d) (hd2 : d ≤ 1099511627776 - now) :
    Calls Try.prog 70 #[.agg #[.int .i64 now, .slice ao n cap], .int .i64 d] w fun e w' => ∃ ao' n' cap' oo N oc mm K, e = .returned (.tuple #[.agg #[.int .i64 (now + d), .slice ao' n' cap'], .slice oo N oc, .int .i64 0]) ∧ mm.length = n' ∧ (K = k ∨ K = k2) ∧
      srt mm = (srt m).dropWhile (fun x => decide (x.at_ ≤ now + d)) ∧ ∃ c', Stp (TJ k2 kr) c c' w w' ∧ In c' K w' 2 ao' n' cap' (mm.flatMap Tm.cells) ∧ Row c' kr w' 3 1 oo N oc (((srt m).takeWhile (fun x => decide (x.at_ ≤ now + d))).map fun x : Tm => Value.int .i64 x.who) := by
  have W : wrap64 (1099511627776 - now) = 1099511627776 - now := IntWalk.wrap64_in _ ⟨by omega, by omega⟩
  have W2 : wrap64 (now + d) = now + d := IntWalk.wrap64_in _ ⟨by omega, by omega⟩
  have t1 : decide (d < 1) = false := by simp; omega
  have t2 : decide (1099511627776 - now < d) = false := by simp; omega
  obtain ⟨now', hnow'⟩ : ∃ x, x = now + d := ⟨_, rfl⟩
  have W3 : wrap64 (now + d) = now' := by rw [W2, hnow']
  rw [← hnow']
  clear W2
  obtain ⟨c2, hc2, A2⟩ := (((Stp.refl (fun _ => False) c w).alloc (.cells #[.int .i64 now', .slice ao n cap] 105) (k2 + 1)).alloc (.cells #[.int .i64 0, .slice none 0 0] 105) (k2 + 1)).name
  have P2 := Lib.hid (show Blk c2 (k2 + 1) ((w.alloc (.cells #[.int .i64 now', .slice ao n cap] 105)).alloc (.cells #[.int .i64 0, .slice none 0 0] 105)) w.heap.size [.int .i64 now', .slice ao n cap] 105 by rw [hc2.out]; exact (Blk.new c (k2 + 1) w _ _).alloc _ (k2 + 1))
  have Q2 := Lib.hid (show Blk c2 (k2 + 1) ((w.alloc (.cells #[.int .i64 now', .slice ao n cap] 105)).alloc (.cells #[.int .i64 0, .slice none 0 0] 105)) (w.heap.size + 1) [.int .i64 0, .slice none 0 0] 105 by rw [hc2.out]; simpa using (Blk.new (paint c w.heap.size (k2 + 1)) (k2 + 1) (w.alloc (.cells #[.int .i64 now', .slice ao n cap] 105)) [.int .i64 0, .slice none 0 0] 105))
  have H2 := Lib.hid (h.stp A2.out (fun hh => hh))
  have Hn := Lib.hid (show m.length ≤ 1000 by omega)
  have Hln := Lib.hid hln
  clear h hln hc2 hn hnow hd hd2 hnow'
  go_enter Try.func70, Try.ntmps70
  go_wp2_with fail
  try simp only [W3]
  clear W W3
  go_loopw [7] (fun v wr => RTickRel c k k2 kr w w.heap.size (w.heap.size + 1) now' m v wr) (fun v _ => m.length - lenOfV v)
  case atStart => exact ⟨c2, k, m, [], ao, n, cap, none, 0, 0, rfl, .inl rfl, by rw [Hln.out]; exact Nat.zero_add _, Hln.out, rfl, by simp, Row.nil _ _ _ _ _, P2.out, Q2.out, H2.out, A2.out.mono (fun _ h => h.elim)⟩
  case round =>
    obtain ⟨c3, K, mm, wk, ao1, n1, cap1, oo, oc, N, rfl, hK, hNn, hmn, hsr, hwk, hrow, hp, hq, hin, st⟩ := hrel
    have R := Lib.hid hrow
    have P := Lib.hid hp
    have Q := Lib.hid hq
    have I := Lib.hid hin
    have St := Lib.hid st
    have HNn := Lib.hid hNn
    have Hmn := Lib.hid hmn
    have Hsr := Lib.hid hsr
    have Hwk := Lib.hid hwk
    have HK := Lib.hid hK
    have b0 := hp.cell 0
    have b1 := hp.cell 1
    have hlt1 := hp.lt
    have hlt2 := hq.lt
    simp at b0 b1
    clear hrow hp hq hin st P2 Q2 H2 A2 hsr hwk hNn hmn hK
    cases mm with
    | nil =>
      have hn0 := Hmn.out
      simp at hn0
      subst hn0
      have hL := Lib.hid ((r04least_any I.out rfl).mono (fun e w' h => (show e = .returned (.int .i64 (-1)) ∧ Stp (fun _ => False) c3 c3 wr w' from ⟨by simpa [lstTo] using h.1, h.2⟩)))
      clear b1
      have b1 := P.out.cell 1
      simp at b1
      go_wp2_with (go_at_call 73; refine hL.out.mono ?_; rintro e w1 ⟨rfl, s1⟩)
      have S1 := Lib.hid s1
      have hz1 := s1.size
      have p1 := P.out.stp s1 id
      have q1 := Q.out.stp s1 id
      have P1 := Lib.hid p1
      have Q1 := Lib.hid q1
      have x0 := p1.cell 0
      have x1 := p1.cell 1
      have y0 := q1.cell 0
      have y1 := q1.cell 1
      have f0 := q1.free 0
      have f1 := q1.free 1
      have hg1 := p1.lt
      have hg2 := q1.lt
      simp at x0 x1 y0 y1
      clear b0 b1 p1 q1 s1 hz1 hL
      have z1 : decide ((-1 : Int) < 0) = true := rfl
      go_wp2_with fail
      go_quiet (fail)
      go_wp2_with fail
      refine bodyPost_ret (v := .tuple #[.agg #[.int .i64 now', .slice ao1 0 cap1], .slice oo N oc, .int .i64 0]) (by simp [results, Try.results70, go_sem, y0, y1]) rfl ?_
      exact tick_fin hk4 HK.out (R.out.stp S1.out id) (I.out.stp S1.out id) Q1.out (St.out.trans (S1.out.mono fun _ h => h.elim)) rfl Hsr.out Hwk.out (by simp [srt]) nq
    | cons z zs =>
      obtain ⟨i, hi, hil, hh⟩ := least_head (m := z :: zs) (by simp)
      obtain ⟨M, hM⟩ : ∃ M, M = z :: zs := ⟨_, rfl⟩
      rw [← hM] at hi hil hh Hmn Hsr I
      clear hM
      obtain ⟨y, hy⟩ : ∃ y, M[i]? = some y := ⟨_, List.getElem?_eq_getElem hil⟩
      have hgy : M.getD i ⟨0, 0⟩ = y := by simp [List.getD, hy]
      rw [hgy] at hh
      rw [Hmn.out] at hi hil
      have hL := Lib.hid ((r04least_any I.out Hmn.out).mono (fun e w' h => (show e = .returned (.int .i64 (i : Int)) ∧ Stp (fun _ => False) c3 c3 wr w' from ⟨by rw [← hi]; exact h.1, h.2⟩)))
      go_wp2_with (go_at_call 73; refine hL.out.mono ?_; rintro e w1 ⟨rfl, s1⟩)
      have S1 := Lib.hid s1
      have p1 := P.out.stp s1 id
      have q1 := Q.out.stp s1 id
      have i1 := I.out.stp s1 id
      have r1 := R.out.stp s1 id
      have P1 := Lib.hid p1
      have Q1 := Lib.hid q1
      have I1 := Lib.hid i1
      have R1 := Lib.hid r1
      have x0 := p1.cell 0
      have x1 := p1.cell 1
      have y0 := q1.cell 0
      have y1 := q1.cell 1
      have f0 := q1.free 0
      have f1 := q1.free 1
      have hg1 := p1.lt
      have hg2 := q1.lt
      obtain ⟨a, rfl, v0, v1⟩ := i1.tm hy
      have Hh := Lib.hid hh
      have Hy := Lib.hid hy
      have z1 : decide ((i : Int) < 0) = false := by simp
      simp at x0 x1 y0 y1
      clear b0 b1 p1 q1 s1 hL i1 r1 P Q I R hh hy hgy hi
      by_cases hle : y.at_ ≤ now'
      · have z2 : decide (now' < y.at_) = false := by simpa using hle
        have Hle := Lib.hid hle
        clear hle
        have Hni : Hid (i + 1 ≤ n1) := Lib.hid (by omega)
        have Hcn : Hid (n1 ≤ cap1) := Lib.hid I1.out.2.1
        have Hn9 : Hid (N + n1 ≤ 1000) := Lib.hid (by rw [HNn.out]; exact Hn.out)
        have Hc9 : Hid (cap1 ≤ 9223372036854775807) := Lib.hid (by have := I1.out.2.2.1; simp only [maxLen] at this; omega)
        have d1 : Hid (N + 1 ≤ maxLen) := Lib.hid (by have := Hn9.out; unfold maxLen; omega)
        have d2 : Hid ((N + 1) * 8 ≤ 140737488355328) := Lib.hid (by have := Hn9.out; omega)
        have d3 : Hid (0 + i ≤ maxLen) := Lib.hid (by have := Hn9.out; unfold maxLen; omega)
        have d4 : Hid ((0 + i) * 16 ≤ 140737488355328) := Lib.hid (by have := Hn9.out; omega)
        have d5 : Hid (i + (n1 - (i + 1)) ≤ maxLen) := Lib.hid (by have := Hn9.out; unfold maxLen; omega)
        have d6 : Hid ((i + (n1 - (i + 1))) * 16 ≤ 140737488355328) := Lib.hid (by have := Hn9.out; omega)
        have W : wrap64 ((i : Int) + 1) = i + 1 := IntWalk.wrap64_in _ (by have := Hni.out; have := Hn9.out; constructor <;> omega)
        have htn : ((i : Int) + 1).toNat = i + 1 := by omega
        have hb1 : (0 : Int) ≤ (i : Int) + 1 := by omega
        have hic : i ≤ cap1 := by have := Hni.out; have := Hcn.out; omega
        have hic2 : (i : Int) ≤ cap1 := by omega
        have hin : (i : Int) < n1 := by have := Hni.out; omega
        clear hil
        go_wp2_with fail
        go_quiet (fail)
        go_wp2_with (at_builtin; refine wpList_append_row _ rfl (.tmp 42) (.tmp 49) 40 rfl (paint c3 w1.heap.size kr) kr 3 (.int .i64 0) 1 8 Try.underlying40 Try.infoIntK rfl oo N oc (wk.map fun x : Tm => Value.int .i64 x.who) rfl (Row.allocG (n := w1.heap.size) (R1.out.drewN nq) rfl) _ 1 [.int .i64 y.who] rfl (Src.oneAt (by simp)) (by simp [Value.oneCell']) d1.out d2.out ?_)
        intro oo2 oc2 w2 hr2 st2 ot2
        obtain ⟨c4, hc4, A4⟩ := ((Stp.allocG (n := w1.heap.size) (j := kr) (o := .cells #[.int .i64 y.who] 3) ((Stp.refl (· = kr) c3 w1).drewN nq) rfl).trans st2).name
        rw [← hc4.out] at hr2
        have R2 := Lib.hid hr2
        have hKr : K ≠ kr := by rcases HK.out with h | h <;> omega
        have p2 := P1.out.stp A4.out (by omega)
        have q2 := Q1.out.stp A4.out (by omega)
        have P2 := Lib.hid p2
        have Q2 := Lib.hid q2
        have I2 := Lib.hid (I1.out.stp A4.out hKr)
        have S2 := Lib.hid (St.out.trans ((S1.out.mono (J' := TJ k2 kr) fun _ h => h.elim).trans (A4.out.mono fun _ h => .inr h)))
        have k0 := p2.cell 0
        have k1 := p2.cell 1
        have kf := p2.free 1
        have hg4 := p2.lt
        simp at k0 k1
        have htk := I2.out.take (q := i) (by have := Hni.out; omega)
        rw [← flat_take] at htk
        have Htk := Lib.hid htk
        clear x0 x1 y0 y1 f0 f1 hg1 hg2 v0 v1 P1 Q1 R1 I1 St S1 A4 hr2 st2 ot2 hc4 p2 q2 htk hlt1 hlt2
        go_wp2_with (at_builtin; refine wpList_append_row _ rfl (.tmp 51) (.tmp 55) 103 rfl c4 k2 119 (.agg #[.int .i64 0, .int .i64 0]) 2 16 Try.underlying103 Try.infoRTimer rfl none 0 0 [] rfl (Row.nil _ _ _ _ _) _ i ((M.take i).flatMap Tm.cells) rfl Htk.out.src (tm_one _) d3.out d4.out ?_)
        intro ao3 cap3 w3 hr3 st3 ot3
        obtain ⟨c5, hc5, A5⟩ := (st3.ofOthers ot3).name
        rw [← hc5.out] at hr3
        have R3 := Lib.hid (show Row c5 k2 w3 119 2 ao3 i cap3 ((M.take i).flatMap Tm.cells) by simpa using hr3)
        have O3 := Lib.hid (R2.out.stp A5.out id)
        have p3 := P2.out.stp A5.out id
        have q3 := Q2.out.stp A5.out id
        have P3 := Lib.hid p3
        have Q3 := Lib.hid q3
        have I3 := Lib.hid (I2.out.stp A5.out id)
        have S3 := Lib.hid (S2.out.trans (A5.out.mono (J' := TJ k2 kr) fun _ h => h.elim))
        have x0 := p3.cell 0
        have x1 := p3.cell 1
        have f1 := p3.free 1
        have hg5 := p3.lt
        simp at x0 x1
        clear k0 k1 kf hg4 P2 Q2 R2 I2 S2 A5 hr3 st3 ot3 hc5 p3 q3 Htk
        by_cases hce : cap1 = i + 1
        · obtain rfl : n1 = i + 1 := by have := Hni.out; have := Hcn.out; omega
          subst hce
          go_wp2_with (at_builtin; refine wpList_append_row _ rfl (.tmp 57) (.tmp 62) 103 rfl c5 k2 119 (.agg #[.int .i64 0, .int .i64 0]) 2 16 Try.underlying103 Try.infoRTimer rfl ao3 i cap3 ((M.take i).flatMap Tm.cells) (by simp [Act.eval]) R3.out _ 0 [] rfl (In.nil c5 k2 w3 2 _).src (by simp) (by simpa using d5.out) (by simpa using d6.out) ?_)
          intro ao4 cap4 w4 hr4 st4 _
          obtain ⟨c6, hc6, A6⟩ := st4.name
          rw [← hc6.out] at hr4
          have R4 := Lib.hid (show Row c6 k2 w4 119 2 ao4 (i) cap4 ((M.eraseIdx i).flatMap Tm.cells) by rw [List.eraseIdx_eq_take_drop_succ, List.drop_of_length_le (by rw [Hmn.out]; exact Nat.le_refl _), List.append_nil]; simpa using hr4)
          have hk23 : ¬ (k2 + 1 = k2) := by omega
          have hk24 : ¬ (kr = k2) := by omega
          have p4 := P3.out.stp A6.out hk23
          have P4 := Lib.hid p4
          have Q4 := Lib.hid (Q3.out.stp A6.out hk23)
          have O4 := Lib.hid (O3.out.stp A6.out hk24)
          have S4 := Lib.hid (S3.out.trans (A6.out.mono (J' := TJ k2 kr) fun _ h => .inl h))
          have u0 := p4.cell 0
          have u1 := p4.cell 1
          have uf := p4.free 1
          have ug := p4.lt
          simp at u0 u1
          clear x0 x1 f1 hg5 P3 Q3 O3 I3 S3 R3 A6 hr4 st4 hc6 p4
          go_wp2_with fail
          go_roundw
          case rel => exact tick_rel R4.out O4.out P4.out Q4.out S4.out (by have := HNn.out; have := Hni.out; omega) (by rw [List.length_eraseIdx, Hmn.out, if_pos (by have := Hni.out; omega)]; rfl) (by rw [Hsr.out, Hh.out, List.append_assoc]; rfl) (fun t ht => by
            rcases List.mem_append.1 ht with h | h
            · exact Hwk.out t h
            · simp at h; subst h; exact Hle.out)
          case measure => exact meas_tick HNn.out Hni.out
        · have hd := I3.out.drop (q := i + 1) Hni.out
          rw [← flat_drop, if_neg hce] at hd
          have hsrc := Lib.hid hd
          have hjc : i + 1 ≤ cap1 := by have := Hni.out; have := Hcn.out; omega
          have hjn : i + 1 ≤ n1 := Hni.out
          have hcn : n1 ≤ cap1 := Hcn.out
          have hjn2 : (i : Int) + 1 ≤ n1 := by omega
          have hjc2 : (i : Int) + 1 ≤ cap1 := by omega
          clear hd
          go_wp2_with (at_builtin; refine wpList_append_row _ rfl (.tmp 57) (.tmp 62) 103 rfl c5 k2 119 (.agg #[.int .i64 0, .int .i64 0]) 2 16 Try.underlying103 Try.infoRTimer rfl ao3 i cap3 ((M.take i).flatMap Tm.cells) (by simp [Act.eval]) R3.out _ (n1 - (i + 1)) ((M.drop (i + 1)).flatMap Tm.cells) rfl hsrc.out.src (tm_one _) d5.out d6.out ?_)
          have en : i + (n1 - (i + 1)) = n1 - 1 := by omega
          intro ao4 cap4 w4 hr4 st4 _
          obtain ⟨c6, hc6, A6⟩ := st4.name
          rw [← hc6.out] at hr4
          have R4 := Lib.hid (show Row c6 k2 w4 119 2 ao4 (n1 - 1) cap4 ((M.eraseIdx i).flatMap Tm.cells) by rw [List.eraseIdx_eq_take_drop_succ, List.flatMap_append]; rwa [show i + (n1 - (i + 1)) = n1 - 1 by omega] at hr4)
          have hk23 : ¬ (k2 + 1 = k2) := by omega
          have hk24 : ¬ (kr = k2) := by omega
          have p4 := P3.out.stp A6.out hk23
          have P4 := Lib.hid p4
          have Q4 := Lib.hid (Q3.out.stp A6.out hk23)
          have O4 := Lib.hid (O3.out.stp A6.out hk24)
          have S4 := Lib.hid (S3.out.trans (A6.out.mono (J' := TJ k2 kr) fun _ h => .inl h))
          have u0 := p4.cell 0
          have u1 := p4.cell 1
          have uf := p4.free 1
          have ug := p4.lt
          simp at u0 u1
          clear x0 x1 f1 hg5 P3 Q3 O3 I3 S3 R3 A6 hr4 st4 hc6 p4
          try rw [en]
          clear en
          go_wp2_with fail
          go_roundw
          case rel => exact tick_rel R4.out O4.out P4.out Q4.out S4.out (by have := HNn.out; have := Hni.out; omega) (by rw [List.length_eraseIdx, Hmn.out, if_pos (by have := Hni.out; omega)]) (by rw [Hsr.out, Hh.out, List.append_assoc]; rfl) (fun t ht => by
            rcases List.mem_append.1 ht with h | h
            · exact Hwk.out t h
            · simp at h; subst h; exact Hle.out)
          case measure => exact meas_tick HNn.out Hni.out
      · have z2 : decide (now' < y.at_) = true := by simpa using hle
        have Hle := Lib.hid (show ¬ y.at_ ≤ now' from hle)
        clear hle
        go_wp2_with fail
        go_quiet (fail)
        go_wp2_with fail
        refine bodyPost_ret (v := .tuple #[.agg #[.int .i64 now', .slice (some a) n1 cap1], .slice oo N oc, .int .i64 0]) (by simp [results, Try.results70, go_sem, y0, y1]) rfl ?_
        exact tick_fin hk4 HK.out R1.out I1.out Q1.out (St.out.trans (S1.out.mono fun _ h => h.elim)) Hmn.out Hsr.out Hwk.out (by
          rw [Hh.out]
          intro y' r' e
          cases e
          have := Hle.out; omega) nq
end Go.Proofs.Ytmhhhiegioniaaa
