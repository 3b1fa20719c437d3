/- Contracts of the clock's Tick and Next: for every clock that is such (ClockAt). No condition beyond each contract's own. -/
import Derived.Test.YtiphdedfbafhkaaGreatDoorClock
namespace Go.Proofs.YtiphdedfbafhkaaGreatDoor
open Go.RowKit

theorem Row.zero {c : Nat → Nat} {k : Nat} {w : World} {e : TypeId} {size : Nat} {a : Addr} {n cap : Nat} {xs : List Value} (h : Row c k w e size (some a) n cap xs) : Row c k w e size (some a) 0 0 [] := by
  obtain ⟨h1, h2, h3, hs, hc, cur, hb, hl, hx⟩ := h
  exact ⟨by simp, Nat.le_refl _, Nat.zero_le _, hs, hc, cur, hb, by omega, by simp⟩

theorem ktick_bad {c : Nat → Nat} {k : Nat} {w : World} {p : Nat} {now : Int} {l : List Tm} (h : ClockAt c k w p now l) (d : Int) (hn : 0 ≤ now ∧ now ≤ 1099511627776) (er : Int) (he : (d < 1 ∧ er = 1) ∨ (1 ≤ d ∧ 1099511627776 - now < d ∧ er = 5)) :
    Calls Tryz.prog 65 #[.pointer (some ⟨p, 0, none⟩), .int .i64 d] w fun e w' => ∃ ev, e = .returned (.tuple #[.slice none 0 0, ev]) ∧ ∃ c', Stp (fun _ => False) c c' w w' ∧ ErrAt c' w' ev er := by
  obtain ⟨n, ao, cap, hb, hr, hl⟩ := h
  have c0 := hb.cell 0
  simp at c0
  have W : wrap64 (1099511627776 - now) = 1099511627776 - now := IntWalk.wrap64_in _ ⟨by omega, by omega⟩
  rcases (show (decide (d < 1) = true ∧ er = 1) ∨ (decide (d < 1) = false ∧ decide (1099511627776 - now < d) = true ∧ er = 5) by
    rcases he with ⟨h1, h2⟩ | ⟨h1, h2, h3⟩
    · exact .inl ⟨by simpa using h1, h2⟩
    · exact .inr ⟨by simp; omega, by simpa using h2, h3⟩) with ⟨t1, e⟩ | ⟨t1, t2, e⟩
  all_goals
    subst e
    clear hb hr hl he hn
    go_enter Tryz.func65, Tryz.ntmps65
    go_wp2_with (go_at_call 50; refine (wrap_some _ _ _ _ _).mono ?_; rintro e w' ⟨rfl, rfl⟩)
    go_ret2
    exact ⟨_, rfl, _, (Stp.refl _ c w).alloc _ 1, ErrAt.new _ _ _ _ _⟩

def lenOfV : Value → Nat
  | .slice _ n _ => n
  | _ => 0

def KJ (k kr : Nat) (j : Nat) : Prop := j = k ∨ j = kr

def TickRel (c : Nat → Nat) (k kr : Nat) (w : World) (p : Nat) (now : Int) (l : List Tm) (v : Value) (wr : World) : Prop :=
  ∃ (c' : Nat → Nat) (t n : Nat) (ao : Option Addr) (cap : Nat) (oo : Option Addr) (oc : Nat), v = .slice oo t oc ∧ t ≤ l.length ∧ (∀ x ∈ l.take t, x.at_ ≤ now) ∧ ClockIs c' k wr p now (l.drop t) n ao cap ∧
    Row c' kr wr 3 1 oo t oc ((l.take t).map fun x => .int .i64 x.who) ∧ Stp (KJ k kr) c c' w wr

theorem while_split {l : List Tm} {now : Int} {t : Nat} (h1 : ∀ x ∈ l.take t, x.at_ ≤ now) (h2 : ∀ x, l[t]? = some x → ¬ x.at_ ≤ now) :
    l.takeWhile (fun x => decide (x.at_ ≤ now)) = l.take t ∧ l.dropWhile (fun x => decide (x.at_ ≤ now)) = l.drop t := by
  have hd : (l.drop t).takeWhile (fun x => decide (x.at_ ≤ now)) = [] ∧ (l.drop t).dropWhile (fun x => decide (x.at_ ≤ now)) = l.drop t := by
    cases hq : l.drop t with
    | nil => simp
    | cons y r =>
      have hy : l[t]? = some y := by rw [← List.head?_drop, hq]; rfl
      simp [h2 y hy]
  have ht : ∀ x ∈ l.take t, decide (x.at_ ≤ now) = true := fun x hx => by simpa using h1 x hx
  have e : l = l.take t ++ l.drop t := (List.take_append_drop t l).symm
  constructor
  · conv => lhs; rw [e]
    rw [List.takeWhile_append_of_pos ht, hd.1, List.append_nil]
  · conv => lhs; rw [e]
    rw [List.dropWhile_append_of_pos ht, hd.2]

set_option maxRecDepth 100000 in
set_option maxHeartbeats 2000000 in
theorem ktick_ok {c : Nat → Nat} {k : Nat} {w : World} {p : Nat} {now : Int} {l : List Tm} (h : ClockAt c k w p now l) (kr : Nat) (hk : kr ≠ k) (hk1 : kr ≠ k + 1) (d : Int) (hl : (l.length : Int) ≤ 1000) (hn : 0 ≤ now) (hd : 1 ≤ d) (hd2 : d ≤ 1099511627776 - now) :
    Calls Tryz.prog 65 #[.pointer (some ⟨p, 0, none⟩), .int .i64 d] w fun e w' => ∃ oo n oc, e = .returned (.tuple #[.slice oo n oc, .nilIface]) ∧ ∃ c', Stp (KJ k kr) c c' w w' ∧
      ClockAt c' k w' p (now + d) (l.dropWhile fun x => decide (x.at_ ≤ now + d)) ∧ Row c' kr w' 3 1 oo n oc ((l.takeWhile fun x => decide (x.at_ ≤ now + d)).map fun x => .int .i64 x.who) := by
  obtain ⟨n, ao, cap, hc⟩ := h
  have c0 := hc.hb.cell 0
  have f0 := hc.hb.free 0
  simp at c0
  have W : wrap64 (1099511627776 - now) = 1099511627776 - now := IntWalk.wrap64_in _ ⟨by omega, by omega⟩
  have W2 : wrap64 (now + d) = now + d := IntWalk.wrap64_in _ ⟨by omega, by omega⟩
  have t1 : decide (d < 1) = false := by simp; omega
  have t2 : decide (1099511627776 - now < d) = false := by simp; omega
  obtain ⟨now', hnow⟩ : ∃ x, x = now + d := ⟨_, rfl⟩
  have W3 : wrap64 (now + d) = now' := by rw [W2, hnow]
  rw [← hnow]
  clear W2
  have HC := Lib.hid (show ClockIs c k (w.setCell ⟨p, 0, none⟩ (.int .i64 now')) p now' l n ao cap from ⟨by simpa using hc.hb.set 0 (.int .i64 now'), hc.hr.stp ((Stp.refl (· = k) c w).setCell (p := ⟨p, 0, none⟩) (.int .i64 now') hc.hb.1) (by omega), hc.len⟩)
  have S0 := Lib.hid (show Stp (KJ k kr) c c w (w.setCell ⟨p, 0, none⟩ (.int .i64 now')) from (Stp.refl _ c w).setCell (p := ⟨p, 0, none⟩) (.int .i64 now') (.inl hc.hb.1))
  have Hl := Lib.hid hl
  clear hc hnow hn hd hd2 hl
  go_enter Tryz.func65, Tryz.ntmps65
  go_wp2_with fail
  try simp only [W3]
  clear W W3
  go_loopw [6] (fun v wr => TickRel c k kr w p now' l v wr) (fun v _ => l.length - lenOfV v)
  case atStart => exact ⟨c, 0, n, ao, cap, none, 0, rfl, Nat.zero_le _, by simp, by simpa using HC.out, Row.nil _ _ _ _ _, S0.out⟩
  case round =>
    obtain ⟨c1, t, n1, ao1, cap1, oo, oc, rfl, ht, hle, hci, hrow, st⟩ := hrel
    have C1 := Lib.hid hci
    have R1 := Lib.hid hrow
    have St := Lib.hid st
    have Hle := Lib.hid hle
    have b0 := hci.hb.cell 0
    have b1 := hci.hb.cell 1
    have g1 := hci.hb.free 1
    simp at b0 b1
    clear hci hrow st HC S0 c0 f0 hle
    by_cases hlt : t < l.length
    · obtain ⟨x, hx⟩ : ∃ x, l[t]? = some x := ⟨_, List.getElem?_eq_getElem hlt⟩
      have hd0 : (l.drop t)[0]? = some x := by rw [List.getElem?_drop]; simpa using hx
      have hn0 : 0 < n1 := by have := C1.out.len; rw [List.length_drop] at this; omega
      have hn1 : decide ((0 : Int) < (n1 : Int)) = true := by simpa using hn0
      have hcap := C1.out.hr.2.1
      obtain ⟨g, off, rfl, y0, -, -⟩ := C1.out.hr.field Tm.len hd0 (f := 0) (v := .int .i64 x.at_) rfl
      obtain ⟨g2, off2, e2, y1, -, -⟩ := C1.out.hr.field Tm.len hd0 (f := 1) (v := .int .i64 x.who) rfl
      cases e2
      simp at y0 y1
      have Hx := Lib.hid hx
      have hne : g ≠ p := C1.out.hr.ne_blk C1.out.hb (by decide) _ rfl
      have Hg := Lib.hid C1.out.hr.2.2.2.2.1
      clear hx hd0
      by_cases hw : x.at_ ≤ now'
      · have Hw := Lib.hid hw
        have tw : decide (x.at_ ≤ now') = true := by simpa using hw
        have hl9 := Hl.out
        have d2 : Hid (t + 1 ≤ maxLen) := Lib.hid (by unfold maxLen; omega)
        have d3 : Hid ((t + 1) * 8 ≤ 140737488355328) := Lib.hid (by omega)
        have Hall : Hid (∀ z ∈ l.take (t + 1), z.at_ ≤ now') := Lib.hid (by
          rw [List.take_add_one, Hx.out]
          intro z hz
          rcases List.mem_append.1 hz with hz | hz
          · exact Hle.out z hz
          · simp at hz; subst hz; exact Hw.out)
        have Htk : Hid (l.take (t + 1) = l.take t ++ [x]) := Lib.hid (by rw [List.take_add_one, Hx.out]; rfl)
        clear hw hl9
        go_wp2_with fail
        go_quiet (fail)
        by_cases hc1 : cap1 = 1
        · subst hc1
          obtain rfl : n1 = 1 := by omega
          go_wp2_with (at_builtin; refine wpList_append_row _ rfl (.tmp 56) (.tmp 64) 29 rfl (paint c1 wr.heap.size kr) kr 3 (.int .i64 0) 1 8 Tryz.underlying29 Tryz.infoIntK rfl oo t oc ((l.take t).map fun x : Tm => Value.int .i64 x.who) rfl (Row.allocG (n := wr.heap.size) (R1.out.drewN nq) rfl) _ 1 [.int .i64 x.who] rfl (Src.oneAt (by simp)) (by simp [Value.oneCell']) d2.out d3.out ?_)
          intro oo2 oc2 w2 hr2 st2 ot2
          have St2 := Lib.hid ((Stp.allocG (n := wr.heap.size) (j := kr) (o := .cells #[.int .i64 x.who] 3) ((Stp.refl (· = kr) c1 wr).drewN nq) rfl).trans st2)
          have R2 := Lib.hid hr2
          have hb2 := C1.out.hb.stp St2.out (Ne.symm hk)
          have e0 := hb2.cell 0
          have e1 := hb2.cell 1
          have h1 := hb2.free 1
          simp at e0 e1
          have Hb2 := Lib.hid hb2
          have Hr2 := Lib.hid (C1.out.hr.stp St2.out (Ne.symm hk1))
          clear hr2 st2 ot2 hb2 b0 b1 g1 y0 y1
          go_wp2
          have hl9 := Hl.out
          have S3 : Stp (KJ k kr) c _ w _ := (St.out.trans (St2.out.mono (fun _ h => .inr h))).setCell (p := ⟨p, 1, none⟩) (.slice (some ⟨g, off, none⟩) 0 0) (.inl Hb2.out.1)
          go_roundw
          case rel => exact ⟨_, t + 1, 0, some ⟨g, off, none⟩, 0, oo2, oc2, rfl, by omega, Hall.out, ⟨by simpa using Hb2.out.set 1 (.slice (some ⟨g, off, none⟩) 0 0), by
              have e : l.drop (t + 1) = [] := List.drop_of_length_le (by have := C1.out.len; rw [List.length_drop] at this; omega)
              rw [e]
              exact Hr2.out.zero.other _ (Hr2.out.ne_blk Hb2.out (by decide)) rfl, by have := C1.out.len; rw [List.length_drop] at this ⊢; omega⟩, by
              rw [Htk.out]
              simpa using R2.out.other (p := ⟨p, 1, none⟩) (.slice (some ⟨g, off, none⟩) 0 0) (R2.out.ne_blk Hb2.out (by decide)) rfl, S3⟩
          case measure => simp [lenOfV]; omega
        · have hc2 : (1 : Int) ≤ cap1 := by omega
          have hc3 : (1 : Int) ≤ n1 := by omega
          go_wp2_with (at_builtin; refine wpList_append_row _ rfl (.tmp 56) (.tmp 64) 29 rfl (paint c1 wr.heap.size kr) kr 3 (.int .i64 0) 1 8 Tryz.underlying29 Tryz.infoIntK rfl oo t oc ((l.take t).map fun x : Tm => Value.int .i64 x.who) rfl (Row.allocG (n := wr.heap.size) (R1.out.drewN nq) rfl) _ 1 [.int .i64 x.who] rfl (Src.oneAt (by simp)) (by simp [Value.oneCell']) d2.out d3.out ?_)
          intro oo2 oc2 w2 hr2 st2 ot2
          have St2 := Lib.hid ((Stp.allocG (n := wr.heap.size) (j := kr) (o := .cells #[.int .i64 x.who] 3) ((Stp.refl (· = kr) c1 wr).drewN nq) rfl).trans st2)
          have R2 := Lib.hid hr2
          have hb2 := C1.out.hb.stp St2.out (Ne.symm hk)
          have e0 := hb2.cell 0
          have e1 := hb2.cell 1
          have h1 := hb2.free 1
          simp at e0 e1
          have Hb2 := Lib.hid hb2
          have Hr2 := Lib.hid (C1.out.hr.stp St2.out (Ne.symm hk1))
          clear hr2 st2 ot2 hb2 b0 b1 g1 y0 y1
          go_wp2
          have hl9 := Hl.out
          have S3 : Stp (KJ k kr) c _ w _ := (St.out.trans (St2.out.mono (fun _ h => .inr h))).setCell (p := ⟨p, 1, none⟩) (.slice (some ⟨g, off + 2, none⟩) (n1 - 1) (cap1 - 1)) (.inl Hb2.out.1)
          go_roundw
          case rel => exact ⟨_, t + 1, n1 - 1, some ⟨g, off + 2, none⟩, cap1 - 1, oo2, oc2, rfl, by omega, Hall.out, ⟨by simpa using Hb2.out.set 1 (.slice (some ⟨g, off + 2, none⟩) (n1 - 1) (cap1 - 1)), by
              have q := Hr2.out.drop 1 (by omega)
              have e : (l.drop t).flatMap Tm.cells = x.cells ++ (l.drop (t + 1)).flatMap Tm.cells := by
                rw [List.drop_eq_getElem_cons hlt, List.flatMap_cons]
                have := Hx.out
                rw [List.getElem?_eq_getElem hlt] at this
                rw [Option.some.inj this]
              rw [e] at q
              simp [Tm.cells] at q
              have q2 := q.other (p := ⟨p, 1, none⟩) (.slice (some ⟨g, off + 2, none⟩) (n1 - 1) (cap1 - 1)) (q.ne_blk Hb2.out (by decide)) rfl
              exact q2, by have := C1.out.len; rw [List.length_drop] at this ⊢; omega⟩, by
              rw [Htk.out]
              simpa using R2.out.other (p := ⟨p, 1, none⟩) (.slice (some ⟨g, off + 2, none⟩) (n1 - 1) (cap1 - 1)) (R2.out.ne_blk Hb2.out (by decide)) rfl, S3⟩
          case measure => simp [lenOfV]; omega
      · have tw : decide (x.at_ ≤ now') = false := by simpa using hw
        have Hsp := Lib.hid (while_split Hle.out (fun z hz => by rw [Hx.out] at hz; cases hz; exact hw))
        clear hw
        go_wp2_with fail
        go_quiet (fail)
        go_wp2
        go_ret2
        refine ⟨oo, t, oc, rfl, c1, St.out.drewN nq, ?_, ?_⟩
        · rw [Hsp.out.2]; exact ⟨_, _, _, ⟨C1.out.hb, C1.out.hr, C1.out.len⟩⟩
        · rw [Hsp.out.1]; exact R1.out
    · have hn0 : ¬ 0 < n1 := by have := C1.out.len; rw [List.length_drop] at this; omega
      have hn1 : decide ((0 : Int) < (n1 : Int)) = false := by simp; omega
      have Hsp := Lib.hid (while_split (l := l) (t := t) Hle.out (fun z hz => absurd (List.getElem?_eq_some_iff.1 hz).1 hlt))
      go_wp2_with fail
      go_quiet (fail)
      go_wp2
      go_ret2
      refine ⟨oo, t, oc, rfl, c1, St.out.drewN nq, ?_, ?_⟩
      · rw [Hsp.out.2]; exact ⟨_, _, _, ⟨C1.out.hb, C1.out.hr, C1.out.len⟩⟩
      · rw [Hsp.out.1]; exact R1.out
end Go.Proofs.YtiphdedfbafhkaaGreatDoor
