/- The contract of the document's Drop for clocks. No condition beyond the contract's own. -/
import Derived.Test.YtmhhhiegioniaaaClock10
namespace Go.Proofs.Ytmhhhiegioniaaa
open Go.RowKit

def RDropRel (c : Nat → Nat) (k k2 : Nat) (w : World) (b0 b1 : Nat) (now : Int) (ao : Option Addr) (n cap : Nat) (m : List Tm) (x : Int) (v iv : Value) (wr : World) : Prop :=
  ∃ (c' : Nat → Nat) (oo : Option Addr) (oc N j : Nat), v = .slice oo N oc ∧ iv = .int .i64 j ∧ j ≤ n ∧ N = ((m.take j).filter (stays x)).length ∧ Row c' k2 wr 119 2 oo N oc (((m.take j).filter (stays x)).flatMap Tm.cells) ∧
    Blk c' (k2 + 1) wr b0 [.int .i64 now, .slice ao n cap] 105 ∧ Blk c' (k2 + 1) wr b1 [.int .i64 0, .slice none 0 0] 105 ∧ In c' k wr 2 ao n cap (m.flatMap Tm.cells) ∧ Stp (· = k2) c c' w wr

set_option maxRecDepth 100000 in
set_option maxHeartbeats 2000000 in
theorem r04drop_any {c : Nat → Nat} {k : Nat} {w : World} {ao : Option Addr} {n cap : Nat} {m : List Tm} (h : In c k w 2 ao n cap (m.flatMap Tm.cells)) (hln : m.length = n) (k2 : Nat) (hk : k ≠ k2) (hn : n ≤ 1000) (now x : Int) :
    Calls Try.prog 68 #[.agg #[.int .i64 now, .slice ao n cap], .int .i64 x] w fun e w' => ∃ ao' N cap', e = .returned (.tuple #[.agg #[.int .i64 now, .slice ao' N cap'], .int .i64 ((n : Int) - N)]) ∧ N = (m.filter (stays x)).length ∧ ∃ c', Stp (· = k2) c c' w w' ∧ Row c' k2 w' 119 2 ao' N cap' ((m.filter (stays x)).flatMap Tm.cells) := by
  obtain ⟨c2, hc2, A2⟩ := (((Stp.refl (fun _ => False) c w).alloc (.cells #[.int .i64 now, .slice ao n cap] 105) (k2 + 1)).alloc (.cells #[.int .i64 0, .slice none 0 0] 105) (k2 + 1)).name
  have P2 := Lib.hid (show Blk c2 (k2 + 1) ((w.alloc (.cells #[.int .i64 now, .slice ao n cap] 105)).alloc (.cells #[.int .i64 0, .slice none 0 0] 105)) w.heap.size [.int .i64 now, .slice ao n cap] 105 by rw [hc2.out]; exact (Blk.new c (k2 + 1) w _ _).alloc _ (k2 + 1))
  have Q2 := Lib.hid (show Blk c2 (k2 + 1) ((w.alloc (.cells #[.int .i64 now, .slice ao n cap] 105)).alloc (.cells #[.int .i64 0, .slice none 0 0] 105)) (w.heap.size + 1) [.int .i64 0, .slice none 0 0] 105 by rw [hc2.out]; simpa using (Blk.new (paint c w.heap.size (k2 + 1)) (k2 + 1) (w.alloc (.cells #[.int .i64 now, .slice ao n cap] 105)) [.int .i64 0, .slice none 0 0] 105))
  have H2 := Lib.hid (h.stp A2.out (fun hh => hh))
  have Hn := Lib.hid hn
  have Hln := Lib.hid hln
  clear h hln hc2 hn
  go_enter Try.func68, Try.ntmps68
  go_wp2_with fail
  go_loopw [6, 7] (fun v iv wr => RDropRel c k k2 w w.heap.size (w.heap.size + 1) now ao n cap m x v iv wr) (fun _ iv _ => n - (intOf iv).toNat)
  case atStart => exact ⟨c2, none, 0, 0, 0, rfl, rfl, Nat.zero_le _, rfl, Row.nil _ _ _ _ _, P2.out, Q2.out, H2.out, A2.out.mono (fun _ h => h.elim)⟩
  case round =>
    obtain ⟨c3, oo, oc, N, j, rfl, rfl, hj, hN, hrow, hp, hq, hin, st⟩ := hrel
    have R := Lib.hid hrow
    have P := Lib.hid hp
    have Q := Lib.hid hq
    have I := Lib.hid hin
    have St := Lib.hid st
    have HN := Lib.hid hN
    have b0 := hp.cell 0
    have b1 := hp.cell 1
    have hlt1 := hp.lt
    have hlt2 := hq.lt
    simp at b0 b1
    clear hrow hp hq hin st hN P2 Q2 H2 A2
    by_cases hlt : j < n
    · obtain ⟨y, hy⟩ : ∃ y, m[j]? = some y := ⟨_, List.getElem?_eq_getElem (by rw [Hln.out]; exact hlt)⟩
      obtain ⟨a, rfl, y0, y1⟩ := I.out.tm hy
      have Hf : Hid ((m.take (j + 1)).filter (stays x) = (m.take j).filter (stays x) ++ (if stays x y then [y] else [])) := Lib.hid (by
        rw [List.take_add_one, hy, List.filter_append]
        by_cases hs : stays x y = true <;> simp [hs])
      have hNj : Hid (N ≤ 1000) := Lib.hid (by
        rw [HN.out]
        have h1 := List.length_filter_le (stays x) (m.take j)
        have h2 : (m.take j).length ≤ j := by rw [List.length_take]; omega
        have := Hn.out
        omega)
      clear hy
      by_cases hs : y.who = x
      · have t1 : (y.who != x) = false := by simpa using hs
        have Hs := Lib.hid (show stays x y = false by simp [stays, hs])
        clear hs
        have hn9 : n ≤ 1000 := Hn.out
        go_wp2
        go_roundw
        case rel => exact ⟨c3, oo, oc, N, j + 1, rfl, by go_num, by omega, by rw [Hf.out, Hs.out]; simpa using HN.out, by rw [Hf.out, Hs.out]; simpa using R.out, P.out, Q.out, I.out, St.out⟩
        case measure => simp [intOf]; omega
      · have t1 : (y.who != x) = true := by simpa using hs
        have Hs := Lib.hid (show stays x y = true by simp [stays, hs])
        have d1 : Hid (N + 1 ≤ maxLen) := Lib.hid (by have := hNj.out; unfold maxLen; omega)
        have d2 : Hid ((N + 1) * 16 ≤ 140737488355328) := Lib.hid (by have := hNj.out; omega)
        clear hs
        go_wp2_with (at_builtin; refine wpList_append_row _ rfl (.tmp 23) (.tmp 29) 103 rfl (paint c3 wr.heap.size k2) k2 119 (.agg #[.int .i64 0, .int .i64 0]) 2 16 Try.underlying103 Try.infoRTimer rfl oo N oc (((m.take j).filter (stays x)).flatMap Tm.cells) rfl (R.out.alloc _ k2) (.slice (some ⟨wr.heap.size, 0, none⟩) 1 1) 1 [.int .i64 y.at_, .int .i64 y.who] rfl (Src.new wr 2 1 [.int .i64 y.at_, .int .i64 y.who] 119 rfl) (by simp [Value.oneCell']) d1.out d2.out ?_)
        intro oo2 oc2 w2 hr2 st2 _
        have R2 := Lib.hid hr2
        have s2 := ((Stp.refl (· = k2) c3 wr).alloc (.cells #[.int .i64 y.at_, .int .i64 y.who] 119) k2).trans st2
        have S2 := Lib.hid s2
        clear hr2 st2 y0 y1 b0 b1 s2
        have hn9 : n ≤ 1000 := Hn.out
        go_wp2
        go_roundw
        case rel => exact ⟨_, oo2, oc2, N + 1, j + 1, rfl, by go_num, by omega, by rw [Hf.out, Hs.out, List.length_append, ← HN.out]; rfl, by rw [Hf.out, Hs.out]; simpa [Tm.cells] using R2.out, P.out.stp S2.out (by omega), Q.out.stp S2.out (by omega), I.out.stp S2.out hk, St.out.trans S2.out⟩
        case measure => simp [intOf]; omega
    · obtain rfl : j = n := by omega
      have e : (m.take j).filter (stays x) = m.filter (stays x) := by rw [List.take_of_length_le (by rw [Hln.out]; exact Nat.le_refl _)]
      have He := Lib.hid e
      have z0 := Q.out.cell 0
      have z1 := Q.out.cell 1
      have f0 := Q.out.free 0
      have f1 := Q.out.free 1
      simp at z0 z1
      have HNj : N ≤ j := by
        rw [HN.out, e, ← Hln.out]
        exact List.length_filter_le _ _
      have W : wrap64 ((j : Int) - N) = (j : Int) - N := IntWalk.wrap64_in _ (by have := Hn.out; constructor <;> omega)
      clear e
      go_wp2_with fail
      go_region
      all_goals
        go_wp2
        refine bodyPost_ret (v := .tuple #[.agg #[.int .i64 now, .slice oo N oc], .int .i64 ((j : Int) - N)]) (by simp [results, Try.results68, go_sem, z0, z1, W]) rfl ⟨oo, N, oc, rfl, by rw [HN.out, He.out], c3, ((St.out.setNew (p := ⟨w.heap.size + 1, 0, none⟩) _ (by simp)).setNew (p := ⟨w.heap.size + 1, 1, none⟩) _ (by simp)).drew, ?_⟩
        have r := (R.out.other (p := ⟨w.heap.size + 1, 0, none⟩) (.int .i64 now) (R.out.ne_blk Q.out (by decide)) rfl).other (p := ⟨w.heap.size + 1, 1, none⟩) (.slice oo N oc) (R.out.ne_blk Q.out (by decide)) rfl
        rw [He.out] at r
        exact r
end Go.Proofs.Ytmhhhiegioniaaa
