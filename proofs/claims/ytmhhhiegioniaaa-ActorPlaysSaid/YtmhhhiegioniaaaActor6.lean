/- The contract of the document's Runnable for actors: the ready ones' numbers, rising, in new memory. No condition but that the table is such. -/
import Derived.Test.YtmhhhiegioniaaaActor5
namespace Go.Proofs.Ytmhhhiegioniaaa
open Go.RowKit

def RRunRel (c : Nat → Nat) (kr : Nat) (w : World) (l : List One) (out i : Value) (wr : World) : Prop :=
  ∃ c' j ao cap, i = .int .i64 (j : Nat) ∧ j ≤ l.length ∧ out = .slice ao (readyTo l j).length cap ∧ Row c' kr wr 3 1 ao (readyTo l j).length cap ((readyTo l j).map (Value.int .i64)) ∧ Stp (· = kr) c c' w wr

set_option maxHeartbeats 400000 in
theorem r05runnable_any {c : Nat → Nat} {w : World} {p : Nat} {l : List One} (h : RTabAt c w p l) (kr : Nat) (hk : 7 ≤ kr) (hl : (l.length : Int) ≤ 1000000) :
    Calls Try.prog 57 #[.pointer (some ⟨p, 0, none⟩)] w fun e w' => ∃ ao cap, e = .returned (.slice ao (readyTo l l.length).length cap) ∧ ∃ c', Stp (· = kr) c c' w w' ∧ Row c' kr w' 3 1 ao (readyTo l l.length).length cap ((readyTo l l.length).map (Value.int .i64)) := by
  obtain ⟨sa, ta, wa, sc, tc, wc, h⟩ := h
  have H := Lib.hid h
  have Hl := Lib.hid hl
  clear h
  go_enter Try.func57, Try.ntmps57
  go_wp2
  go_loopw [3, 4] (fun out i wr => RRunRel c kr w l out i wr) (fun _ i _ => l.length - (intOf i).toNat)
  case atStart => exact ⟨c, 0, none, 0, rfl, Nat.zero_le _, rfl, Row.nil _ _ _ _ _, Stp.refl _ _ _⟩
  case round =>
    obtain ⟨c1, j, ro, rcap, rfl, hj, rfl, hrow, st⟩ := hrel
    have Ht := Lib.hid (H.out.stp st (by omega) (by omega) (by omega) (by omega))
    have Hrow := Lib.hid hrow
    have Hst := Lib.hid st
    clear hrow st
    have hrl := readyTo_len l j
    have b0 := Ht.out.hb.cell 0
    simp at b0
    by_cases hlt : j < l.length
    · have hx : l[j]? = some l[j] := List.getElem?_eq_getElem hlt
      obtain ⟨g, off, rfl, d0, -, -⟩ := Ht.out.rs.open1 hx
      simp only [stOf] at d0
      generalize hxx : l[j] = x at *
      have Hx := Lib.hid hx
      clear hx hxx
      by_cases hs : x.state = 0
      · have hs' : (x.state == 0) = true := by simpa using hs
        have hrt : readyTo l (j + 1) = readyTo l j ++ [(j : Int)] := by rw [readyTo, Hx.out]; simp [hs]
        have Hrt := Lib.hid hrt
        clear hrt hs
        go_wp2_with (at_builtin; refine wpList_append_row _ rfl (.tmp 22) (.tmp 24) 40 rfl _ kr 3 (.int .i64 0) 1 8 Try.underlying40 Try.infoInt rfl ro (readyTo l j).length rcap ((readyTo l j).map (Value.int .i64)) rfl (Hrow.out.alloc _ kr) _ 1 [.int .i64 (j : Int)] rfl ?c0 ?c1 ?c2 ?c3 ?_)
        case c0 => exact Src.oneAt (by simp)
        case c1 => simp [Value.oneCell']
        case c2 => unfold maxLen; omega
        case c3 => omega
        intro ao' cap' w1 hr1 st1 _
        have Hr1 := Lib.hid hr1
        have Hst1 := Lib.hid st1
        clear hr1 st1
        go_wp2
        go_roundw
        case rel =>
          refine ⟨_, j + 1, ao', cap', by go_num, by omega, ?_, ?_, Hst1.out.behind (Stp.allocG Hst.out rfl)⟩
          · rw [Hrt.out]; simp
          · rw [Hrt.out]; simpa using Hr1.out
        case measure => simp [intOf]; omega
      · have hs' : (x.state == 0) = false := by simpa using hs
        have hrt : readyTo l (j + 1) = readyTo l j := by rw [readyTo, Hx.out]; simp [hs]
        have Hrt := Lib.hid hrt
        clear hrt hs
        go_wp2
        go_roundw
        case rel =>
          refine ⟨_, j + 1, ro, rcap, by go_num, by omega, ?_, ?_, Hst.out⟩
          · rw [Hrt.out]
          · rw [Hrt.out]; exact Hrow.out
        case measure => simp [intOf]; omega
    · have hjl : j = l.length := by omega
      subst hjl
      go_wp2
      go_ret
      exact ⟨ro, rcap, rfl, c1, Hst.out, Hrow.out⟩
end Go.Proofs.Ytmhhhiegioniaaa
