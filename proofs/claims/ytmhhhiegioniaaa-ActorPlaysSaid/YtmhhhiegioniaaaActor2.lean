/- The contract of Runnable of an actor table: the ready ones' numbers, rising, in new memory. No condition but that the table is such. -/
import Derived.Test.YtmhhhiegioniaaaActor
namespace Go.Proofs.Ytmhhhiegioniaaa
open Go.RowKit

theorem Try.infoInt : (Try.prog.info? 3).map (fun i => (i.zero, i.size, i.bytes)) = some (some (.int .i64 0), 1, 8) := by kernel_rfl

/-- The ready ones among the first `n`. -/
def readyTo (l : List One) : Nat → List Int
  | 0 => []
  | n + 1 => readyTo l n ++ (match l[n]? with | some x => if x.state = 0 then [(n : Int)] else [] | none => [])

theorem readyTo_len (l : List One) (n : Nat) : (readyTo l n).length ≤ n := by
  induction n with
  | zero => simp [readyTo]
  | succ n ih =>
    rw [readyTo, List.length_append]
    split
    · split <;> simp <;> omega
    · simp; omega

def RunRel (c : Nat → Nat) (kr : Nat) (w : World) (l : List One) (out i : Value) (wr : World) : Prop :=
  ∃ c' j ao cap, i = .int .i64 (j : Nat) ∧ j ≤ l.length ∧ out = .slice ao (readyTo l j).length cap ∧ Row c' kr wr 3 1 ao (readyTo l j).length cap ((readyTo l j).map (Value.int .i64)) ∧ Stp (· = kr) c c' w wr

set_option maxHeartbeats 400000 in
theorem arunnable_any {c : Nat → Nat} {k : Nat} {w : World} {p : Nat} {l : List One} (h : TableAt c k w p l) (kr : Nat) (hk : k ≠ kr) (hl : (l.length : Int) ≤ 1000000) :
    Calls Try.prog 30 #[.pointer (some ⟨p, 0, none⟩)] w fun e w' => ∃ ao cap, e = .returned (.slice ao (readyTo l l.length).length cap) ∧ ∃ c', Stp (· = kr) c c' w w' ∧ Row c' kr w' 3 1 ao (readyTo l l.length).length cap ((readyTo l l.length).map (Value.int .i64)) := by
  have H := Lib.hid h
  obtain ⟨ao, cap, hb, hr⟩ := h
  have c0 := hb.cell 0
  simp at c0
  clear hb hr
  go_enter Try.func30, Try.ntmps30
  go_wp2
  go_loopw [3, 13] (fun out i wr => RunRel c kr w l out i wr) (fun _ i _ => l.length - (intOf i).toNat)
  case atStart => exact ⟨c, 0, none, 0, rfl, Nat.zero_le _, rfl, Row.nil _ _ _ _ _, Stp.refl _ _ _⟩
  case round =>
    obtain ⟨c1, j, ro, rcap, rfl, hj, rfl, hrow, st⟩ := hrel
    have Ht := Lib.hid (H.out.stp st (by exact hk))
    have Hrow := Lib.hid hrow
    have Hst := Lib.hid st
    clear hrow st
    have hrl := readyTo_len l j
    by_cases hlt : j < l.length
    · have hx : l[j]? = some l[j] := List.getElem?_eq_getElem hlt
      obtain ⟨g, off, cp, hb, hr, d0, d1, d2, _, _, _, hne, _⟩ := Ht.out.open_one hx
      have e0 := hb.cell 0
      obtain ⟨_, _, hb', _⟩ := H.out
      have e1 := (hb'.stp Hst.out (by exact hk)).cell 0
      have e2 := hb'.cell 0
      rw [e1] at e0
      rw [c0] at e2
      simp only [List.getElem?_cons_zero, Option.some.injEq, Value.slice.injEq] at e0 e2
      obtain ⟨rfl, _, rfl⟩ := e2
      obtain ⟨rfl, _, rfl⟩ := e0
      generalize hxx : l[j] = x at *
      have Hx := Lib.hid hx
      clear hb hr hb' e1 hx hxx
      by_cases hs : x.state = 0
      · have hs' : (x.state == 0) = true := by simpa using hs
        have hrt : readyTo l (j + 1) = readyTo l j ++ [(j : Int)] := by rw [readyTo, Hx.out]; simp [hs]
        have Hrt := Lib.hid hrt
        have Hs := Lib.hid hs
        clear hrt hs
        go_wp2_with (at_builtin; refine wpList_append_row _ rfl (.tmp 21) (.tmp 23) 40 rfl _ kr 3 (.int .i64 0) 1 8 Try.underlying40 Try.infoInt rfl ro (readyTo l j).length rcap ((readyTo l j).map (Value.int .i64)) rfl ((Hrow.out.alloc _ kr).alloc _ kr) _ 1 [.int .i64 (j : Int)] rfl ?c0 ?c1 ?c2 ?c3 ?_)
        case c0 => exact Src.oneAt (by simp)
        case c1 => simp [Value.oneCell']
        case c2 => unfold maxLen; omega
        case c3 => omega
        intro ao' cap' w1 hr1 st1 _
        have Hr1 := Lib.hid hr1
        have Hst1 := Lib.hid st1
        clear hr1 st1
        go_wp2
        go_roundw
        case rel =>
          refine ⟨_, j + 1, ao', cap', by go_num, by omega, ?_, ?_, Hst1.out.behind (Stp.allocG (Stp.allocG Hst.out rfl) (by simp))⟩
          · rw [Hrt.out]; simp
          · rw [Hrt.out]; simpa using Hr1.out
        case measure => simp [intOf]; omega
      · have hs' : (x.state == 0) = false := by simpa using hs
        have hrt : readyTo l (j + 1) = readyTo l j := by rw [readyTo, Hx.out]; simp [hs]
        have Hrt := Lib.hid hrt
        clear hrt hs
        go_wp2
        go_roundw
        case rel =>
          refine ⟨_, j + 1, ro, rcap, by go_num, by omega, ?_, ?_, (Hst.out.alloc _ kr)⟩
          · rw [Hrt.out]
          · rw [Hrt.out]; exact Hrow.out.alloc _ kr
        case measure => simp [intOf]; omega
    · have hjl : j = l.length := by omega
      subst hjl
      go_wp2
      go_ret
      exact ⟨ro, rcap, rfl, c1, Hst.out, Hrow.out⟩
end Go.Proofs.Ytmhhhiegioniaaa
