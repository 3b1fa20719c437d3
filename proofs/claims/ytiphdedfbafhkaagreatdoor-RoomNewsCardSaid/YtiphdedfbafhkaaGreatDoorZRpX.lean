/- Contracts that the closing theorem wants (RpX). No condition beyond each law's own. -/
import Derived.Test.YtiphdedfbafhkaaGreatDoorZRgA
import Derived.Test.YtiphdedfbafhkaaGreatDoorZRoomX
namespace Go.Proofs.YtiphdedfbafhkaaGreatDoor
open Go.RowKit

/-- Wake in plain Lean: the actors behind it, whether one was parked, what is wrong. -/
def wakeT (l : List One) (id : Int) : List One × Bool × Int :=
  if wrongAt l id ≠ 0 then (l, false, wrongAt l id)
  else if (l.getD id.toNat ⟨0, false, 0⟩).state = 1 then (l.set id.toNat { l.getD id.toNat ⟨0, false, 0⟩ with state := 0, wakes := (l.getD id.toNat ⟨0, false, 0⟩).wakes + 1 }, true, 0)
  else (l.set id.toNat { l.getD id.toNat ⟨0, false, 0⟩ with token := true, wakes := (l.getD id.toNat ⟨0, false, 0⟩).wakes + 1 }, false, 0)
/-- Park in plain Lean. -/
def parkT (l : List One) (id : Int) : List One × Bool :=
  if (l.getD id.toNat ⟨0, false, 0⟩).token = true then (l.set id.toNat { l.getD id.toNat ⟨0, false, 0⟩ with token := false }, false)
  else (l.set id.toNat { l.getD id.toNat ⟨0, false, 0⟩ with state := 1 }, true)
def WakesOK (l : List One) (B : Int) : Prop := ∀ x ∈ l, 0 ≤ x.wakes ∧ x.wakes ≤ B
theorem wrong_at {l : List One} {j : Nat} {x : One} (hj : l[j]? = some x) : wrongAt l (j : Int) = if x.state = 2 then 17 else 0 := by
  have hlt : j < l.length := (List.getElem?_eq_some_iff.1 hj).1
  unfold wrongAt
  rw [if_neg (by omega), show ((j : Int)).toNat = j by omega, hj]
theorem right_of {l : List One} {id : Int} (h : wrongAt l id = 0) : ∃ (j : Nat) (x : One), id = (j : Int) ∧ l[j]? = some x ∧ x.state ≠ 2 ∧ l.getD id.toNat ⟨0, false, 0⟩ = x ∧ id.toNat = j := by
  by_cases h1 : id < 0 ∨ (l.length : Int) ≤ id
  · unfold wrongAt at h
    rw [if_pos h1] at h
    cases h
  · obtain ⟨j, rfl⟩ := Int.eq_ofNat_of_zero_le (show 0 ≤ id by omega)
    have hj : j < l.length := by omega
    rw [wrong_at (List.getElem?_eq_getElem hj)] at h
    refine ⟨j, l[j], rfl, List.getElem?_eq_getElem hj, ?_, ?_, by omega⟩
    · intro hx
      rw [if_pos hx] at h
      cases h
    · simp [List.getD, hj]

section
variable {c c' : Nat → Nat} {K : Nat} {w w' : World} {r ar ck tb : Nat} {rs : Value} {la : List Int} {now : Int} {tl : List Tm} {l : List One}
theorem rmwake_any (h : RM c K w r ar ck tb rs la now tl l) (who : Int) (hw : WakesOK l 4611686018427387903) (hl : (tl.length : Int) ≤ 1000) :
    Calls Tryz.prog 12 #[.pointer (some ⟨r, 0, none⟩), .int .i64 who] w fun e w' => ∃ ev, e = .returned (.tuple #[.bool (wakeT l who).2.1, ev]) ∧ ∃ c', Stp (JR K) c c' w w' ∧ RM c' K w' r ar ck tb rs la now (tl.filter (stays who)) (wakeT l who).1 ∧ Err c' w' ev (wakeT l who).2.2 := by
  by_cases he : wrongAt l who = 0
  · obtain ⟨j, x, rfl, hj, hx, hg, hn⟩ := right_of he
    have hb := hw x (List.mem_of_getElem? hj)
    by_cases h1 : x.state = 1
    · have e : wakeT l (j : Int) = (l.set j { x with state := 0, wakes := x.wakes + 1 }, true, 0) := by
        unfold wakeT
        rw [if_neg (by simp [he]), hg, if_pos h1, hn]
      rw [e]
      refine (rmwake_parked h hj h1 hb.1 (by omega) hl).mono ?_
      rintro e w1 ⟨rfl, c1, t1, r1⟩
      exact ⟨_, rfl, c1, t1, r1, Err.nil _ _⟩
    · have e : wakeT l (j : Int) = (l.set j { x with token := true, wakes := x.wakes + 1 }, false, 0) := by
        unfold wakeT
        rw [if_neg (by simp [he]), hg, if_neg h1, hn]
      rw [e]
      refine (rmwake_ready h hj hx h1 hb.1 (by omega) hl).mono ?_
      rintro e w1 ⟨rfl, c1, t1, r1⟩
      exact ⟨_, rfl, c1, t1, r1, Err.nil _ _⟩
  · have e : wakeT l who = (l, false, wrongAt l who) := by
      unfold wakeT
      rw [if_pos he]
    rw [e]
    have c1 := h.rb.cell 1
    simp at c1
    have H := Lib.hid h
    have He := Lib.hid he
    have Hl := Lib.hid hl
    clear h he hw hl e
    go_enter Tryz.func12, Tryz.ntmps12
    go_wp2_with fail
    refine (kdrop_any H.out.ca who Hl.out).mono ?_
    rintro e w2 ⟨rfl, k2, s2, t2⟩
    have R2 := Lib.hid (H.out.clock s2 t2)
    have S2 := Lib.hid (s2.mono (J' := JR K) JR.clk)
    have c2' := R2.out.rb.cell 2
    simp at c2'
    clear s2 t2 c1
    go_wp2_with fail
    refine (awake_bad R2.out.ta who He.out).mono ?_
    rintro e w3 ⟨ev, rfl, k3, s3, e3⟩
    have R3 := Lib.hid (R2.out.stpF s3)
    have S3 := Lib.hid (S2.out.trans (s3.mono (fun _ h => h.elim)))
    have E3 := Lib.hid (e3.err He.out)
    clear s3 e3 c2'
    go_wp2
    go_ret2
    exact ⟨ev, rfl, k3, S3.out, R3.out, E3.out⟩

theorem rmright_any (h : RM c K w r ar ck tb rs la now tl l) (who : Int) :
    Calls Tryz.prog 60 #[.pointer (some ⟨r, 0, none⟩), .int .i64 who] w fun e w' => ∃ ev, e = .returned ev ∧ ∃ c', Stp (fun _ => False) c c' w w' ∧ Err c' w' ev (wrongAt l who) := by
  by_cases he : wrongAt l who = 0
  · obtain ⟨j, x, rfl, hj, hx, hg, hn⟩ := right_of he
    rw [he]
    refine (rmright_c h hj hx).mono ?_
    rintro e w1 ⟨rfl, rfl⟩
    exact ⟨_, rfl, c, Stp.refl _ _ _, Err.nil _ _⟩
  · have c2 := h.rb.cell 2
    simp at c2
    have H := Lib.hid h
    clear h
    by_cases hn : who < 0
    · have e3 : wrongAt l who = 3 := by unfold wrongAt; rw [if_pos (.inl hn)]
      have g0 : decide (who < 0) = true := by simpa using hn
      rw [e3]
      clear hn he e3
      go_enter Tryz.func60, Tryz.ntmps60
      go_wp2_with (go_at_call 50; refine (wrap_some _ _ _ _ _).mono ?_; rintro e w' ⟨rfl, rfl⟩)
      go_ret
      exact ⟨_, rfl, _, (Stp.refl _ c w).alloc _ 1, (ErrAt.new _ _ _ _ _).err (by decide)⟩
    · have g0 : decide (who < 0) = false := by simpa using hn
      obtain ⟨j, rfl⟩ := Int.eq_ofNat_of_zero_le (show 0 ≤ who by omega)
      by_cases hj : j < l.length
      · have hw := wrong_at (List.getElem?_eq_getElem hj)
        have hx : l[j].state = 2 := by
          by_cases hx : l[j].state = 2
          · exact hx
          · rw [if_neg hx] at hw
            exact absurd hw he
        have e3 : wrongAt l (j : Int) = 17 := by rw [hw, if_pos hx]
        clear hw
        have g1 : decide (l.length ≤ j) = false := by simp; omega
        have g2 : (l[j].state == 2) = true := by simpa using hx
        have Hj := Lib.hid (List.getElem?_eq_getElem hj)
        rw [e3]
        generalize l[j] = x at *
        clear hn he e3 hx hj
        go_enter Tryz.func60, Tryz.ntmps60
        go_wp2_with fail
        refine (alen_any H.out.ta).mono ?_
        rintro e w1 ⟨rfl, rfl⟩
        go_wp2_with fail
        refine (astate_in H.out.ta j Hj.out).mono ?_
        rintro e w1 ⟨rfl, rfl⟩
        go_wp2_with (go_at_call 50; refine (wrap_some _ _ _ _ _).mono ?_; rintro e w' ⟨rfl, rfl⟩)
        go_ret
        exact ⟨_, rfl, _, (Stp.refl _ c _).alloc _ 1, (ErrAt.new _ _ _ _ _).err (by decide)⟩
      · have e3 : wrongAt l (j : Int) = 3 := by unfold wrongAt; rw [if_pos (.inr (by omega))]
        have g1 : decide (l.length ≤ j) = true := by simp; omega
        rw [e3]
        clear hn he e3 hj
        go_enter Tryz.func60, Tryz.ntmps60
        go_wp2_with fail
        refine (alen_any H.out.ta).mono ?_
        rintro e w1 ⟨rfl, rfl⟩
        go_wp2_with (go_at_call 50; refine (wrap_some _ _ _ _ _).mono ?_; rintro e w' ⟨rfl, rfl⟩)
        go_ret
        exact ⟨_, rfl, _, (Stp.refl _ c _).alloc _ 1, (ErrAt.new _ _ _ _ _).err (by decide)⟩

/-- Park with a deadline that is to come. -/
theorem rmpark_dl (h : RM c K w r ar ck tb rs la now tl l) {j : Nat} {x : One} (hj : l[j]? = some x) (hx : x.state ≠ 2) (ht : x.token = false) (d : Int) (h0 : 1 ≤ d) (h1 : d ≤ 1099511627776) (hd : now < d) (hl : tl.length ≤ 1000) (hf : (tl.filter (stays j)).length < 64) (hj64 : j < 64) :
    Calls Tryz.prog 11 #[.pointer (some ⟨r, 0, none⟩), .int .i64 j, .int .i64 d] w fun e w' => e = .returned (.tuple #[.bool true, .nilIface]) ∧ ∃ c', Stp (JR K) c c' w w' ∧ RM c' K w' r ar ck tb rs la now (insT ⟨d, j⟩ (tl.filter (stays j))) (l.set j { x with state := 1 }) := by
  have c1 := h.rb.cell 1
  have c2 := h.rb.cell 2
  simp at c1 c2
  have H := Lib.hid h
  have Hj := Lib.hid hj
  have Hx := Lib.hid hx
  have Ht := Lib.hid ht
  have g0 : decide (d < 0) = false := by simp; omega
  have g1 : decide ((1099511627776 : Int) < d) = false := by simp; omega
  have g2 : (d == 0) = false := by simp; omega
  have g2' : (d != 0) = true := by simp; omega
  have g3 : decide (d ≤ now) = false := by simpa using hd
  have Hd := Lib.hid (And.intro hd h1)
  have Hl := Lib.hid hl
  have Hf := Lib.hid hf
  have Hj64 := Lib.hid hj64
  clear h hj hx ht h0 h1 hd hl hf hj64
  go_enter Tryz.func11, Tryz.ntmps11
  go_wp2_with fail
  refine (rmright_c H.out Hj.out Hx.out).mono ?_
  rintro e w1 ⟨rfl, rfl⟩
  go_wp2_with fail
  refine (know_any H.out.ca).mono ?_
  rintro e w1 ⟨rfl, rfl⟩
  go_wp2_with fail
  refine (apark_yes H.out.ta j Hj.out Hx.out Ht.out).mono ?_
  rintro e w1 ⟨rfl, k1, s1, t1⟩
  have R1 := Lib.hid (H.out.table s1 t1)
  have S1 := Lib.hid (s1.mono (J' := JR K) JR.t)
  have c1' := R1.out.rb.cell 1
  simp at c1'
  clear s1 t1 c2 c1
  go_wp2_with fail
  refine (kdrop_any R1.out.ca j (by have := Hl.out; omega)).mono ?_
  rintro e w2 ⟨rfl, k2, s2, t2⟩
  have R2 := Lib.hid (R1.out.clock s2 t2)
  have S2 := Lib.hid (S1.out.trans (s2.mono JR.clk))
  have c2' := R2.out.rb.cell 1
  simp at c2'
  clear s2 t2 c1'
  go_wp2_with fail
  refine (kset_any R2.out.ca d j Hd.out.1 Hd.out.2 (by omega) (by have := Hj64.out; omega) Hf.out).mono ?_
  rintro e w3 ⟨rfl, k3, s3, t3⟩
  have R3 := Lib.hid (R2.out.clock s3 t3)
  have S3 := Lib.hid (S2.out.trans (s3.mono JR.clk))
  clear s3 t3 c2'
  go_wp2
  go_ret2
  exact ⟨rfl, k3, S3.out, R3.out⟩

/-- Park of who has a token: it is used up. -/
theorem rmpark_tok (h : RM c K w r ar ck tb rs la now tl l) {j : Nat} {x : One} (hj : l[j]? = some x) (hx : x.state ≠ 2) (ht : x.token = true) (d : Int) (h0 : 0 ≤ d) (h1 : d ≤ 1099511627776) (hd : d = 0 ∨ now < d) :
    Calls Tryz.prog 11 #[.pointer (some ⟨r, 0, none⟩), .int .i64 j, .int .i64 d] w fun e w' => e = .returned (.tuple #[.bool false, .nilIface]) ∧ ∃ c', Stp (JR K) c c' w w' ∧ RM c' K w' r ar ck tb rs la now tl (l.set j { x with token := false }) := by
  have c1 := h.rb.cell 1
  have c2 := h.rb.cell 2
  simp at c1 c2
  have H := Lib.hid h
  have Hj := Lib.hid hj
  have Hx := Lib.hid hx
  have Ht := Lib.hid ht
  have g0 : decide (d < 0) = false := by simp; omega
  have g1 : decide ((1099511627776 : Int) < d) = false := by simp; omega
  by_cases hz : d = 0
  · subst hz
    clear h hj hx ht h0 h1 hd
    go_enter Tryz.func11, Tryz.ntmps11
    go_wp2_with fail
    refine (rmright_c H.out Hj.out Hx.out).mono ?_
    rintro e w1 ⟨rfl, rfl⟩
    go_wp2_with fail
    refine (apark_token H.out.ta j Hj.out Hx.out Ht.out).mono ?_
    rintro e w1 ⟨rfl, k1, s1, t1⟩
    have R1 := Lib.hid (H.out.table s1 t1)
    have S1 := Lib.hid (s1.mono (J' := JR K) JR.t)
    clear s1 t1
    go_wp2
    go_ret2
    exact ⟨rfl, k1, S1.out, R1.out⟩
  · have g2 : (d == 0) = false := by simp; omega
    have g2' : (d != 0) = true := by simp; omega
    have g3 : decide (d ≤ now) = false := by simp; omega
    clear h hj hx ht h0 h1 hd hz
    go_enter Tryz.func11, Tryz.ntmps11
    go_wp2_with fail
    refine (rmright_c H.out Hj.out Hx.out).mono ?_
    rintro e w1 ⟨rfl, rfl⟩
    go_wp2_with fail
    refine (know_any H.out.ca).mono ?_
    rintro e w1 ⟨rfl, rfl⟩
    go_wp2_with fail
    refine (apark_token H.out.ta j Hj.out Hx.out Ht.out).mono ?_
    rintro e w1 ⟨rfl, k1, s1, t1⟩
    have R1 := Lib.hid (H.out.table s1 t1)
    have S1 := Lib.hid (s1.mono (J' := JR K) JR.t)
    clear s1 t1
    go_wp2
    go_ret2
    exact ⟨rfl, k1, S1.out, R1.out⟩

/-- Park in plain Lean: the timers, the actors, whether one is parked, what is wrong. -/
def parkR (now : Int) (tl : List Tm) (l : List One) (who d : Int) : List Tm × List One × Bool × Int :=
  if d < 0 ∨ 1099511627776 < d then (tl, l, false, 5)
  else if wrongAt l who ≠ 0 then (tl, l, false, wrongAt l who)
  else if d ≠ 0 ∧ d ≤ now then (tl, l, false, 0)
  else if (l.getD who.toNat ⟨0, false, 0⟩).token = true then (tl, l.set who.toNat { l.getD who.toNat ⟨0, false, 0⟩ with token := false }, false, 0)
  else (if d = 0 then tl else insT ⟨d, who.toNat⟩ (tl.filter (stays who)), l.set who.toNat { l.getD who.toNat ⟨0, false, 0⟩ with state := 1 }, true, 0)

theorem rmpark_any (h : RM c K w r ar ck tb rs la now tl l) (who d : Int) (hl : tl.length ≤ 1000) (hl64 : l.length ≤ 64) (hf : wrongAt l who = 0 → (tl.filter (stays who)).length < 64) :
    Calls Tryz.prog 11 #[.pointer (some ⟨r, 0, none⟩), .int .i64 who, .int .i64 d] w fun e w' => ∃ ev, e = .returned (.tuple #[.bool (parkR now tl l who d).2.2.1, ev]) ∧ ∃ c', Stp (JR K) c c' w w' ∧ RM c' K w' r ar ck tb rs la now (parkR now tl l who d).1 (parkR now tl l who d).2.1 ∧ Err c' w' ev (parkR now tl l who d).2.2.2 := by
  by_cases h5 : d < 0 ∨ 1099511627776 < d
  · have e : parkR now tl l who d = (tl, l, false, 5) := by unfold parkR; rw [if_pos h5]
    rw [e]
    have H := Lib.hid h
    clear h hl hf e
    by_cases hn : d < 0
    · have g0 : decide (d < 0) = true := by simpa using hn
      clear hn h5
      go_enter Tryz.func11, Tryz.ntmps11
      go_wp2_with (go_at_call 50; refine (wrap_some _ _ _ _ _).mono ?_; rintro e w' ⟨rfl, rfl⟩)
      go_ret2
      have t := (Stp.refl (fun _ => False) c w).alloc (.cells #[.string ⟨#[112, 97, 114, 107]⟩, .int .i64 d, .iface 98 (.int .i64 5)] 181) 1
      exact ⟨_, rfl, _, t.mono (fun _ h => h.elim), H.out.stpF t, (ErrAt.new _ _ _ _ _).err (by decide)⟩
    · have g0 : decide (d < 0) = false := by simpa using hn
      have g1 : decide ((1099511627776 : Int) < d) = true := by simp; omega
      clear hn h5
      go_enter Tryz.func11, Tryz.ntmps11
      go_wp2_with (go_at_call 50; refine (wrap_some _ _ _ _ _).mono ?_; rintro e w' ⟨rfl, rfl⟩)
      go_ret2
      have t := (Stp.refl (fun _ => False) c w).alloc (.cells #[.string ⟨#[112, 97, 114, 107]⟩, .int .i64 d, .iface 98 (.int .i64 5)] 181) 1
      exact ⟨_, rfl, _, t.mono (fun _ h => h.elim), H.out.stpF t, (ErrAt.new _ _ _ _ _).err (by decide)⟩
  · by_cases he : wrongAt l who = 0
    · obtain ⟨j, x, rfl, hj, hx, hg, hn⟩ := right_of he
      have hj64 : j < 64 := by have := (List.getElem?_eq_some_iff.1 hj).1; omega
      by_cases hp : d ≠ 0 ∧ d ≤ now
      · have e : parkR now tl l (j : Int) d = (tl, l, false, 0) := by unfold parkR; rw [if_neg h5, if_neg (by simp [he]), if_pos hp]
        rw [e]
        refine (rmpark_past h hj hx d (by omega) (by omega) hp.2).mono ?_
        rintro e w1 ⟨rfl, rfl⟩
        exact ⟨_, rfl, c, Stp.refl _ _ _, h, Err.nil _ _⟩
      · by_cases ht : x.token = true
        · have e : parkR now tl l (j : Int) d = (tl, l.set j { x with token := false }, false, 0) := by unfold parkR; rw [if_neg h5, if_neg (by simp [he]), if_neg hp, hg, if_pos ht, hn]
          rw [e]
          refine (rmpark_tok h hj hx ht d (by omega) (by omega) (by omega)).mono ?_
          rintro e w1 ⟨rfl, c1, t1, r1⟩
          exact ⟨_, rfl, c1, t1, r1, Err.nil _ _⟩
        · have ht' : x.token = false := by simpa using ht
          have e : parkR now tl l (j : Int) d = (if d = 0 then tl else insT ⟨d, j⟩ (tl.filter (stays (j : Int))), l.set j { x with state := 1 }, true, 0) := by unfold parkR; rw [if_neg h5, if_neg (by simp [he]), if_neg hp, hg, if_neg ht, hn]
          rw [e]
          by_cases hz : d = 0
          · subst hz
            rw [if_pos rfl]
            refine (rmpark0_c h hj hx ht').mono ?_
            rintro e w1 ⟨rfl, c1, t1, r1⟩
            exact ⟨_, rfl, c1, t1, r1, Err.nil _ _⟩
          · rw [if_neg hz]
            refine (rmpark_dl h hj hx ht' d (by omega) (by omega) (by omega) hl (hf he) hj64).mono ?_
            rintro e w1 ⟨rfl, c1, t1, r1⟩
            exact ⟨_, rfl, c1, t1, r1, Err.nil _ _⟩
    · have e : parkR now tl l who d = (tl, l, false, wrongAt l who) := by unfold parkR; rw [if_neg h5, if_pos he]
      rw [e]
      have g0 : decide (d < 0) = false := by simp; omega
      have g1 : decide ((1099511627776 : Int) < d) = false := by simp; omega
      have H := Lib.hid h
      have HE := Lib.hid he
      clear h hl hf e h5 he
      go_enter Tryz.func11, Tryz.ntmps11
      go_wp2_with fail
      refine (rmright_any H.out who).mono ?_
      rintro e w1 ⟨ev, rfl, c1, t1, e1⟩
      have S1 := Lib.hid t1
      have E1 := Lib.hid e1
      obtain ⟨tt, vv, rfl⟩ : ∃ tt vv, ev = .iface tt vv := by
        rcases e1 with ⟨h, -⟩ | ⟨-, h⟩
        · exact absurd h HE.out
        · rcases h with h | ⟨_, _, _, h, -⟩
          · exact ⟨_, _, h⟩
          · exact ⟨_, _, h⟩
      clear t1 e1
      go_wp2
      go_ret2
      exact ⟨_, rfl, c1, S1.out.mono (fun _ h => h.elim), H.out.stpF S1.out, E1.out⟩
end
end Go.Proofs.YtiphdedfbafhkaaGreatDoor

namespace Go.Proofs.YtiphdedfbafhkaaGreatDoor
open Go.RowKit

section
variable {c c' : Nat → Nat} {K : Nat} {w w' : World} {r ar ck tb : Nat} {la : List Int} {now : Int} {tl : List Tm} {l : List One} {D : List RD} {ao : Option Addr} {cap i : Nat} {d : RD}
theorem rat_bad (h : RMs c K w r ar ck tb la now tl l D ao cap) (n : Int) (hn : n < 0 ∨ (D.length : Int) ≤ n) :
    Calls Tryz.prog 55 #[.pointer (some ⟨r, 0, none⟩), .int .i64 n] w fun e w' => ∃ t v, e = .returned (.tuple #[.pointer none, .iface t v]) ∧ ∃ c', Stp (fun _ => False) c c' w w' ∧ ErrAt c' w' (.iface t v) 3 := by
  have c3 := h.rm.rb.cell 3
  simp at c3
  clear h
  by_cases h0 : n < 0
  · have g0 : decide (n < 0) = true := by simpa using h0
    clear hn h0
    go_enter Tryz.func55, Tryz.ntmps55
    go_wp2_with (go_at_call 50; refine (wrap_some _ _ _ _ _).mono ?_; rintro e w' ⟨rfl, rfl⟩)
    go_ret2
    exact ⟨_, _, rfl, _, (Stp.refl _ c w).alloc _ 1, ErrAt.new _ _ _ _ _⟩
  · have g0 : decide (n < 0) = false := by simpa using h0
    have g1 : decide ((D.length : Int) ≤ n) = true := by simp; omega
    have g2 : (D.length : Int) ≤ n := by omega
    clear hn h0
    go_enter Tryz.func55, Tryz.ntmps55
    go_wp2_with (go_at_call 50; refine (wrap_some _ _ _ _ _).mono ?_; rintro e w' ⟨rfl, rfl⟩)
    go_ret2
    exact ⟨_, _, rfl, _, (Stp.refl _ c w).alloc _ 1, ErrAt.new _ _ _ _ _⟩

/-- Who waits is changed. -/
theorem RMs.wait {J : Nat → Prop} {wl : List Int} {wo : Option Addr} {wcap : Nat} (h : RMs c K w r ar ck tb la now tl l D ao cap) (hd : D[i]? = some d) (t : Stp J c c' w w') (hJ : ∀ j, J j → j = kb K i ∨ j = kb K i + 1)
    (gb : Blk c' (kb K i) w' d.g [.int .i64 d.kind, d.sl, d.one, d.two, .slice wo wl.length wcap] 107) (wr : Row c' (kb K i + 1) w' 3 1 wo wl.length wcap (wl.map (Value.int .i64))) :
    RMs c' K w' r ar ck tb la now tl l (D.set i { d with wl := wl, wo := wo, wcap := wcap }) ao cap := by
  have g : ∀ j, j ≠ kb K i → j ≠ kb K i + 1 → ¬ J j := fun j h1 h2 h3 => (hJ j h3).elim h1 h2
  have hi : i < D.length := (List.getElem?_eq_some_iff.1 hd).1
  have em : (D.set i { d with wl := wl, wo := wo, wcap := wcap }).map (fun d => Value.pointer (some ⟨d.g, 0, none⟩)) = D.map fun d => Value.pointer (some ⟨d.g, 0, none⟩) := by
    rw [List.map_set]
    apply List.ext_getElem?
    intro j
    by_cases hj : i = j
    · subst hj
      rw [List.getElem?_set_self (by rw [List.length_map]; exact hi), List.getElem?_map, hd]
      rfl
    · rw [List.getElem?_set_ne hj]
  refine ⟨⟨?_, h.rm.aa.imp fun _ a => a.stp t (g _ (by unfold kb; omega) (by unfold kb; omega)), h.rm.ca.stp t (g _ (by unfold kb; omega) (by unfold kb; omega)) (g _ (by unfold kb; omega) (by unfold kb; omega)), h.rm.ta.stp t (g _ (by unfold kb; omega) (by unfold kb; omega))⟩, ?_, fun j y hy => ?_⟩
  · rw [List.length_set]; exact h.rm.rb.stp t (g _ (by unfold kb; omega) (by unfold kb; omega))
  · rw [em, List.length_set]; exact h.rr.stp t (g _ (by unfold kb; omega) (by unfold kb; omega))
  · by_cases hj : i = j
    · subst hj
      rw [List.getElem?_set_self hi] at hy
      cases hy
      have h0 := h.rg i d hd
      exact ⟨gb, wr, fun e => (h0.sq e).stp t (g _ (by unfold kb; omega) (by unfold kb; omega)) (g _ (by unfold kb; omega) (by unfold kb; omega)) (g _ (by unfold kb; omega) (by unfold kb; omega)), fun e => (h0.sn e).stp t (g _ (by unfold kb; omega) (by unfold kb; omega)) (g _ (by unfold kb; omega) (by unfold kb; omega))⟩
    · rw [List.getElem?_set_ne hj] at hy
      exact (h.rg j y hy).stp t (g _ (by unfold kb; omega) (by unfold kb; omega)) (g _ (by unfold kb; omega) (by unfold kb; omega)) (g _ (by unfold kb; omega) (by unfold kb; omega)) (g _ (by unfold kb; omega) (by unfold kb; omega)) (g _ (by unfold kb; omega) (by unfold kb; omega)) (g _ (by unfold kb; omega) (by unfold kb; omega)) (g _ (by unfold kb; omega) (by unfold kb; omega))
theorem RMs.w4 (h : RMs c K w r ar ck tb la now tl l D ao cap) (hd : D[i]? = some d) : w.cell? ⟨d.g, 4, none⟩ = some (.slice d.wo d.wl.length d.wcap) ∧ w.frozen? ⟨d.g, 4, none⟩ = false ∧ d.g < w.heap.size := by
  obtain ⟨-, -, -, -, h4, h5⟩ := ring_cells (h.rg i d hd).gb
  exact ⟨h4, (h.rg i d hd).gb.free 4, h5⟩

set_option maxRecDepth 100000 in
set_option maxHeartbeats 2000000 in
/-- Enlist of one who isn't there yet. -/
theorem renlist_new (h : RMs c K w r ar ck tb la now tl l D ao cap) (hd : D[i]? = some d) {j : Nat} {x : One} (hj : l[j]? = some x) (hx : x.state ≠ 2) (hno : ∀ z ∈ d.wl, (((j : Nat) : Int) == z) = false) (hlen : d.wl.length ≤ 100) :
    Calls Tryz.prog 16 #[.pointer (some ⟨r, 0, none⟩), .int .i64 (i : Int), .int .i64 j] w fun e w' => e = .returned .nilIface ∧ ∃ wo' wcap' c', Stp (fun j => j = kb K i ∨ j = kb K i + 1) c c' w w' ∧ RMs c' K w' r ar ck tb la now tl l (D.set i { d with wl := d.wl ++ [(j : Int)], wo := wo', wcap := wcap' }) ao cap := by
  have H := Lib.hid h
  have HD := Lib.hid hd
  have Hj := Lib.hid hj
  have Hx := Lib.hid hx
  have Hno := Lib.hid hno
  have d2 := Lib.hid (show d.wl.length + 1 ≤ maxLen by simp only [maxLen]; omega)
  have d3 := Lib.hid (show (d.wl.length + 1) * 8 ≤ 140737488355328 by omega)
  have HR := Lib.hid (h.rg i d hd)
  obtain ⟨g4, f4, gl⟩ := h.w4 hd
  clear h hd hj hx hno hlen
  go_enter Tryz.func16, Tryz.ntmps16
  go_wp2_with fail
  refine (rat_c H.out HD.out).mono ?_
  rintro e w1 ⟨rfl, rfl⟩
  go_wp2_with fail
  refine (rmright_c H.out.rm Hj.out Hx.out).mono ?_
  rintro e w1 ⟨rfl, rfl⟩
  go_wp2_with fail
  refine (scontains_no HR.out.wr.toIn (j : Int) Hno.out).mono ?_
  rintro e w1 ⟨rfl, rfl⟩
  go_wp2_with (at_builtin; refine wpList_append_row _ rfl (.tmp 36) (.tmp 38) 29 rfl (paint c w1.heap.size (kb K i + 1)) (kb K i + 1) 3 (.int .i64 0) 1 8 Tryz.underlying29 Tryz.infoIntK rfl d.wo d.wl.length d.wcap (d.wl.map (Value.int .i64)) rfl (HR.out.wr.alloc _ (kb K i + 1)) _ 1 [.int .i64 (j : Int)] rfl (Src.one _ _ _) (by simp [Value.oneCell']) d2.out d3.out ?_)
  rintro so2 sc2 w6 r6 s6 -
  have T7 := Lib.hid (((Stp.refl (· = kb K i + 1) c w1).alloc (.cells #[.int .i64 (j : Int)] 3) (kb K i + 1)).trans s6)
  obtain ⟨c7, hc7⟩ : ∃ c7, c7 = paint (paint c w1.heap.size (kb K i + 1)) (w1.heap.size + 1) (kb K i + 1) := ⟨_, rfl⟩
  rw [← hc7] at T7 r6
  have R7 := Lib.hid r6
  have G7 := Lib.hid (HR.out.gb.stp T7.out (by omega))
  have g4' := G7.out.cell 4
  have f4' := G7.out.free 4
  simp at g4'
  clear r6 s6 hc7 g4 f4 gl
  go_wp2
  go_ret
  have T8 := (Stp.refl (· = kb K i) c7 w6).setCell (p := ⟨d.g, 4, none⟩) (.slice so2 (d.wl.length + 1) sc2) G7.out.1
  have T := T7.out.mono (J' := fun j => j = kb K i ∨ j = kb K i + 1) (fun j hj => .inr hj) |>.trans (T8.mono (fun j hj => .inl hj))
  refine ⟨rfl, so2, sc2, c7, T, H.out.wait HD.out T (fun _ h => h) ?_ ?_⟩
  · simpa using G7.out.set 4 (.slice so2 (d.wl.length + 1) sc2)
  · simpa using R7.out.stp T8 (by omega)
end
end Go.Proofs.YtiphdedfbafhkaaGreatDoor

namespace Go.Proofs.YtiphdedfbafhkaaGreatDoor
open Go.RowKit

section
variable {c c' : Nat → Nat} {K : Nat} {w w' : World} {r ar ck tb : Nat} {rs : Value} {la : List Int} {now : Int} {tl tl' : List Tm} {l l' : List One}

theorem RM.clockT {now' : Int} (h : RM c K w r ar ck tb rs la now tl l) (s : Stp (KJ (K + 1) (K + 4)) c c' w w') (t : ClockAt c' (K + 1) w' ck now' tl') : RM c' K w' r ar ck tb rs la now' tl' l :=
  ⟨h.rb.stp s (by unfold KJ; omega), h.aa.imp fun _ a => a.stp s (by unfold KJ; omega), t, h.ta.stp s (by unfold KJ; omega)⟩
theorem JR.kj : ∀ j, KJ (K + 1) (K + 4) j → JR K j := fun _ h => h.elim .inl (fun h => .inr (.inr (.inr h)))

end
end Go.Proofs.YtiphdedfbafhkaaGreatDoor

namespace Go.Proofs.YtiphdedfbafhkaaGreatDoor
open Go.RowKit

theorem sindex_yes {c : Nat → Nat} {k : Nat} {w : World} {ao : Option Addr} {n cap : Nat} {l : List Int} (h : In c k w 1 ao n cap (l.map (Value.int .i64))) (v : Int) (hy : v ∈ l) :
    Calls Tryz.prog 116 #[.slice ao n cap, .int .i64 v] w fun e w' => ∃ z : Nat, z ≤ 9223372036854775807 ∧ e = .returned (.int .i64 z) ∧ w' = w := by
  have H := Lib.hid h
  have Hy := Lib.hid hy
  have Hl := Lib.hid (show l.length = n by simpa using h.1)
  have hcap : n ≤ 9223372036854775807 := by have h1 := h.2.1; have h2 := h.2.2.1; simp only [maxLen] at h2; omega
  clear h hy
  go_enter Tryz.func116, Tryz.ntmps116
  go_wp2
  go_loopg [8] n (fun gh i wr => wr = w ∧ ∃ j : Nat, i = .int .i64 j ∧ j + gh = n ∧ Hid (∀ m, m < j → l.getD m 0 ≠ v))
  case atStart => exact ⟨rfl, 0, rfl, by omega, Lib.hid (fun m hm => by omega)⟩
  case round =>
    obtain ⟨hw, j, rfl, hj, HN⟩ := hrel
    subst hw
    by_cases hlt : j < n
    · obtain ⟨a, ha, y0⟩ := H.out.ints (j := j) hlt
      subst ha
      obtain ⟨y, hy⟩ : ∃ y, y = l.getD j 0 := ⟨_, rfl⟩
      rw [← hy] at y0
      by_cases hv : v = y
      · have hb : (v == y) = true := by simpa using hv
        have HLT := Lib.hid hlt
        clear hv hy
        go_wp2
        go_ret
        exact ⟨j, by have := HLT.out; omega, rfl, rfl⟩
      · have hb : (v == y) = false := by simpa using hv
        have HN2 := Lib.hid (show ∀ m, m < j + 1 → l.getD m 0 ≠ v from fun m hm => by
          by_cases h1 : m = j
          · subst h1; rw [← hy]; exact fun h => hv h.symm
          · exact HN.out m (by omega))
        clear hv hy
        go_wp2
        go_roundg (gk - 1)
        case rel => exact ⟨rfl, j + 1, by go_num, by omega, HN2⟩
        case measure => omega
    · exfalso
      obtain ⟨m, hm, he⟩ := List.mem_iff_getElem.1 Hy.out
      exact HN.out m (by have := Hl.out; omega) (by simp [List.getD, hm, he])

theorem scontains_yes {c : Nat → Nat} {k : Nat} {w : World} {ao : Option Addr} {n cap : Nat} {l : List Int} (h : In c k w 1 ao n cap (l.map (Value.int .i64))) (v : Int) (hy : v ∈ l) :
    Calls Tryz.prog 68 #[.slice ao n cap, .int .i64 v] w fun e w' => e = .returned (.bool true) ∧ w' = w := by
  have H := Lib.hid h
  have Hy := Lib.hid hy
  clear h hy
  go_enter Tryz.func68, Tryz.ntmps68
  go_wp2_with fail
  refine (sindex_yes H.out v Hy.out).mono ?_
  rintro e w1 ⟨z, hz, rfl, rfl⟩
  go_wp2
  go_ret
  exact ⟨rfl, rfl⟩

/-- Enlist in plain Lean: who waits behind it, what is wrong. -/
def enlT (l : List One) (wl : List Int) (who : Int) : List Int × Int :=
  if wrongAt l who ≠ 0 then (wl, wrongAt l who) else if who ∈ wl then (wl, 0) else (wl ++ [who], 0)
/-- Signal in plain Lean. -/
def sigT : List Int → List Tm → List One → Nat → List Tm × List One × Nat
  | [], tl, l, n => (tl, l, n)
  | who :: ws, tl, l, n => sigT ws (tl.filter (stays who)) (wakeT l who).1 (n + if (wakeT l who).2.1 = true then 1 else 0)
/-- Tick's wakes in plain Lean. -/
def wakesT : List Int → List One → List One
  | [], l => l
  | who :: ws, l => wakesT ws (wakeT l who).1
theorem WakesOK.wake {l : List One} {B : Int} (h : WakesOK l B) (who : Int) (_hB : 0 ≤ B) : WakesOK (wakeT l who).1 (B + 1) := by
  have up : WakesOK l (B + 1) := fun x hx => ⟨(h x hx).1, by have := (h x hx).2; omega⟩
  unfold wakeT
  split
  · exact up
  · next he =>
    obtain ⟨j, x, rfl, hj, hx, hg, hn⟩ := right_of (show wrongAt l who = 0 by simpa using he)
    have hb := h x (List.mem_of_getElem? hj)
    rw [hg, hn]
    split <;> exact fun y hy => by
      rcases List.mem_or_eq_of_mem_set hy with hy | rfl
      · exact up y hy
      · exact ⟨by simp only; omega, by simp only; omega⟩
theorem WakesOK.mono {l : List One} {B B' : Int} (h : WakesOK l B) (hB : B ≤ B') : WakesOK l B' := fun x hx => ⟨(h x hx).1, by have := (h x hx).2; omega⟩
theorem wake_ok {l : List One} {who : Int} (h : (wakeT l who).2.1 = true) : (wakeT l who).2.2 = 0 := by
  unfold wakeT at h ⊢
  split
  · next he => rw [if_pos he] at h; cases h
  · split <;> rfl

section
variable {c c' : Nat → Nat} {K : Nat} {w w' : World} {r ar ck tb : Nat} {la : List Int} {now : Int} {tl : List Tm} {l : List One} {D : List RD} {ao : Option Addr} {cap i : Nat} {d : RD}
theorem renlist_any (h : RMs c K w r ar ck tb la now tl l D ao cap) (hd : D[i]? = some d) (who : Int) (hlen : d.wl.length ≤ 100) :
    Calls Tryz.prog 16 #[.pointer (some ⟨r, 0, none⟩), .int .i64 (i : Int), .int .i64 who] w fun e w' => ∃ ev, e = .returned ev ∧ ∃ wo' wcap' c', Stp (fun j => j = kb K i ∨ j = kb K i + 1) c c' w w' ∧ RMs c' K w' r ar ck tb la now tl l (D.set i { d with wl := (enlT l d.wl who).1, wo := wo', wcap := wcap' }) ao cap ∧ Err c' w' ev (enlT l d.wl who).2 := by
  have hs : D.set i { d with wl := d.wl, wo := d.wo, wcap := d.wcap } = D := by
    apply List.ext_getElem?
    intro j
    by_cases hj : i = j
    · subst hj; rw [List.getElem?_set_self (List.getElem?_eq_some_iff.1 hd).1, hd]
    · rw [List.getElem?_set_ne hj]
  by_cases he : wrongAt l who = 0
  · obtain ⟨j, x, rfl, hj, hx, -, -⟩ := right_of he
    by_cases hm : (j : Int) ∈ d.wl
    · have e : enlT l d.wl (j : Int) = (d.wl, 0) := by unfold enlT; rw [if_neg (by simp [he]), if_pos hm]
      rw [e]
      have H := Lib.hid h
      have HD := Lib.hid hd
      have Hj := Lib.hid hj
      have Hx := Lib.hid hx
      have Hm := Lib.hid hm
      have HS := Lib.hid hs
      have HR := Lib.hid (h.rg i d hd)
      obtain ⟨g4, f4, gl⟩ := h.w4 hd
      clear h hd hj hx hm he e hs hlen
      go_enter Tryz.func16, Tryz.ntmps16
      go_wp2_with fail
      refine (rat_c H.out HD.out).mono ?_
      rintro e w1 ⟨rfl, rfl⟩
      go_wp2_with fail
      refine (rmright_c H.out.rm Hj.out Hx.out).mono ?_
      rintro e w1 ⟨rfl, rfl⟩
      go_wp2_with fail
      refine (scontains_yes HR.out.wr.toIn (j : Int) Hm.out).mono ?_
      rintro e w1 ⟨rfl, rfl⟩
      go_wp2
      go_ret
      exact ⟨_, rfl, d.wo, d.wcap, c, Stp.refl _ _ _, by first | (rw [HS.out]; exact H.out) | (simp only; rw [HS.out]; exact H.out), Err.nil _ _⟩
    · have e : enlT l d.wl (j : Int) = (d.wl ++ [(j : Int)], 0) := by unfold enlT; rw [if_neg (by simp [he]), if_neg hm]
      rw [e]
      refine (renlist_new h hd hj hx (fun z hz => by simp; intro h; exact hm (h ▸ hz)) hlen).mono ?_
      rintro e w1 ⟨rfl, wo', wcap', c1, t1, r1⟩
      exact ⟨_, rfl, wo', wcap', c1, t1, r1, Err.nil _ _⟩
  · have e : enlT l d.wl who = (d.wl, wrongAt l who) := by unfold enlT; rw [if_pos he]
    rw [e]
    have H := Lib.hid h
    have HD := Lib.hid hd
    have HE := Lib.hid he
    have HS := Lib.hid hs
    clear h hd he e hs hlen
    go_enter Tryz.func16, Tryz.ntmps16
    go_wp2_with fail
    refine (rat_c H.out HD.out).mono ?_
    rintro e w1 ⟨rfl, rfl⟩
    go_wp2_with fail
    refine (rmright_any H.out.rm who).mono ?_
    rintro e w1 ⟨ev, rfl, c1, t1, e1⟩
    have S1 := Lib.hid t1
    have E1 := Lib.hid e1
    obtain ⟨tt, vv, rfl⟩ : ∃ tt vv, ev = .iface tt vv := by
      rcases e1 with ⟨h, -⟩ | ⟨-, h⟩
      · exact absurd h HE.out
      · rcases h with h | ⟨_, _, _, h, -⟩
        · exact ⟨_, _, h⟩
        · exact ⟨_, _, h⟩
    clear t1 e1
    go_wp2
    go_ret
    exact ⟨_, rfl, d.wo, d.wcap, c1, S1.out.mono (fun _ h => h.elim), by first | (rw [HS.out]; exact H.out.stpF S1.out) | (simp only; rw [HS.out]; exact H.out.stpF S1.out), E1.out⟩

theorem RMs.go {now' : Int} {tl' : List Tm} {l' : List One} (h : RMs c K w r ar ck tb la now tl l D ao cap) (s : Stp (JR K) c c' w w') (m : RM c' K w' r ar ck tb (.slice ao D.length cap) la now' tl' l') : RMs c' K w' r ar ck tb la now' tl' l' D ao cap :=
  ⟨m, h.rr.stp s (by unfold JR; omega), fun i d hd => (h.rg i d hd).stp s (by unfold JR kb; omega) (by unfold JR kb; omega) (by unfold JR kb; omega) (by unfold JR kb; omega) (by unfold JR; omega) (by unfold JR; omega) (by unfold JR; omega)⟩

set_option maxRecDepth 100000 in
set_option maxHeartbeats 2000000 in
theorem rsignal_any (h : RMs c K w r ar ck tb la now tl l D ao cap) (hd : D[i]? = some d) {B : Int} (hw : WakesOK l B) (hB : 0 ≤ B ∧ B ≤ 1099511627776) (hlen : d.wl.length ≤ 100) (hl : (tl.length : Int) ≤ 1000) :
    Calls Tryz.prog 10 #[.pointer (some ⟨r, 0, none⟩), .int .i64 (i : Int)] w fun e w' => e = .returned (.tuple #[.int .i64 ((sigT d.wl tl l 0).2.2 : Int), .nilIface]) ∧ ∃ c', Stp (fun j => JR K j ∨ j = kb K i ∨ j = kb K i + 1) c c' w w' ∧ RMs c' K w' r ar ck tb la now (sigT d.wl tl l 0).1 (sigT d.wl tl l 0).2.1 (D.set i { d with wl := [], wo := none, wcap := 0 }) ao cap := by
  obtain ⟨R, hR⟩ : ∃ R, R = sigT d.wl tl l 0 := ⟨_, rfl⟩
  obtain ⟨N, hN⟩ : ∃ N, N = d.wl.length := ⟨_, rfl⟩
  have H := Lib.hid h
  have HD := Lib.hid hd
  have HRR := Lib.hid hR
  have HW := Lib.hid hw
  have HB := Lib.hid hB
  have HL := Lib.hid hl
  have HN := Lib.hid hN
  have HN1 := Lib.hid (show N ≤ 100 by rw [hN]; exact hlen)
  obtain ⟨g4, f4, gl⟩ := h.w4 hd
  rw [← hR]
  rw [← hN] at g4
  obtain ⟨wo, hwo⟩ : ∃ x, x = d.wo := ⟨_, rfl⟩
  rw [← hwo] at g4
  have HWO := Lib.hid hwo
  clear hwo h hd hw hB hlen hl hR hN
  go_enter Tryz.func10, Tryz.ntmps10
  go_wp2_with fail
  refine (rat_c H.out HD.out).mono ?_
  rintro e w1 ⟨rfl, hw1⟩
  subst hw1
  go_wp2
  go_loopg [8, 27] N (fun gh nv iv wr => ∃ (c1 : Nat → Nat) (j n : Nat) (tl1 : List Tm) (l1 : List One), nv = .int .i64 n ∧ iv = .int .i64 j ∧ j + gh = N ∧ Hid (n ≤ j) ∧ Hid (sigT (d.wl.drop j) tl1 l1 n = R) ∧ Hid (WakesOK l1 (B + j)) ∧ Hid ((tl1.length : Int) ≤ 1000) ∧ Hid (RMs c1 K wr r ar ck tb la now tl1 l1 D ao cap) ∧ Hid (Stp (JR K) c c1 w wr))
  case atStart => exact ⟨c, 0, 0, tl, l, rfl, rfl, by omega, Lib.hid (Nat.le_refl _), Lib.hid HRR.out.symm, Lib.hid (by simpa using HW.out), HL, H, Lib.hid (Stp.refl _ _ _)⟩
  case round =>
    obtain ⟨c1, j, n, tl1, l1, rfl, rfl, hj, Hn, HS, HW1, HL1, HM1, ST1⟩ := hrel
    clear H HW HL HRR
    by_cases hlt : j < N
    · have hjl : j < d.wl.length := by rw [← HN.out]; exact hlt
      obtain ⟨a, ha, y0⟩ := ((HM1.out.rg i d HD.out).wr.toIn).ints (j := j) hjl
      obtain ⟨who, hwho⟩ : ∃ z, z = d.wl.getD j 0 := ⟨_, rfl⟩
      rw [← hwho] at y0
      have hdrop : d.wl.drop j = who :: d.wl.drop (j + 1) := by
        rw [List.drop_eq_getElem_cons hjl, hwho]
        simp [List.getD, hjl]
      rw [hdrop] at HS
      have g3 : (j : Int) < (N : Int) := by omega
      have ha' : wo = some a := by rw [HWO.out]; exact ha
      subst ha'
      have HJ := Lib.hid (show j + 1 + (gk - 1) = N ∧ gk - 1 < gk by omega)
      have W1 : wrap64 ((n : Int) + 1) = ((n + 1 : Nat) : Int) := by rw [IntWalk.wrap64_in _ ⟨by omega, by have := Hn.out; have := HN1.out; omega⟩]; omega
      have hj9 : j ≤ 100 := by have := HN1.out; omega
      clear hjl hdrop hwho hlt hj ha
      go_wp2_with fail
      refine (rmwake_any HM1.out.rm who (HW1.out.mono (by have := HB.out; have := HN1.out; omega)) HL1.out).mono ?_
      rintro e w2 ⟨ev, rfl, c2, t2, m2, e2⟩
      have HM2 := Lib.hid (HM1.out.go t2 m2)
      have ST2 := Lib.hid (ST1.out.trans t2)
      have HW2 := Lib.hid (HW1.out.wake who (by have := HB.out; omega))
      have HL2 := Lib.hid (show (((tl1.filter (stays who)).length : Nat) : Int) ≤ 1000 by have := List.length_filter_le (stays who) tl1; have := HL1.out; omega)
      have HO := Lib.hid (wake_ok (l := l1) (who := who))
      have HS2 := Lib.hid (show sigT (d.wl.drop (j + 1)) (tl1.filter (stays who)) (wakeT l1 who).1 (n + if (wakeT l1 who).2.1 = true then 1 else 0) = R from HS.out)
      clear t2 m2 HM1 ST1 HW1 HL1 HS y0
      rcases hW : wakeT l1 who with ⟨l2, b, er⟩
      rw [hW] at HM2 HW2 HO HS2 e2
      simp only at HM2 HW2 HO HS2 e2
      cases b with
      | true =>
        have hev : ev = .nilIface := by
          rcases e2 with ⟨-, h⟩ | ⟨h, -⟩
          · exact h
          · exact absurd (HO.out rfl) h
        subst hev
        clear e2 HO hW
        go_wp2
        go_roundg (gk - 1)
        case rel => exact ⟨c2, j + 1, n + 1, _, l2, by first | rfl | rw [W1], by go_num, HJ.out.1, Lib.hid (by have := Hn.out; omega), Lib.hid (by simpa using HS2.out), Lib.hid (HW2.out.mono (by omega)), HL2, HM2, ST2⟩
        case measure => exact HJ.out.2
      | false =>
        clear HO hW
        have hev : ev = .nilIface ∨ ∃ tt vv, ev = .iface tt vv := by
          rcases e2 with ⟨-, h⟩ | ⟨-, h⟩
          · exact .inl h
          · rcases h with h | ⟨_, _, _, h, -⟩
            · exact .inr ⟨_, _, h⟩
            · exact .inr ⟨_, _, h⟩
        clear e2
        rcases hev with rfl | ⟨tt, vv, rfl⟩
        all_goals
          go_wp2
          go_roundg (gk - 1)
          case rel => exact ⟨c2, j + 1, n, _, l2, rfl, by go_num, HJ.out.1, Lib.hid (by have := Hn.out; omega), Lib.hid (by simpa using HS2.out), Lib.hid (HW2.out.mono (by omega)), HL2, HM2, ST2⟩
          case measure => exact HJ.out.2
    · have hjn : j = N := by omega
      subst hjn
      have hE : R = (tl1, l1, n) := by
        rw [← HS.out, HN.out, List.drop_length]
        rfl
      obtain ⟨g4', f4', gl'⟩ := HM1.out.w4 HD.out
      rw [← HN.out] at g4'
      have HE := Lib.hid hE
      have g3 : ¬ (j : Int) < (j : Int) := Int.lt_irrefl _
      clear hE hlt hj g4 f4 gl HS
      go_wp2
      go_ret2
      have T8 := (Stp.refl (· = kb K i) c1 wr).setCell (p := ⟨d.g, 4, none⟩) (.slice none 0 0) (HM1.out.rg i d HD.out).gb.1
      rw [HE.out]
      refine ⟨rfl, c1, (ST1.out.mono (J' := fun j => JR K j ∨ j = kb K i ∨ j = kb K i + 1) (fun j h => Or.inl h)).trans (T8.mono (fun j h => Or.inr (Or.inl h))), HM1.out.wait HD.out T8 (fun j h => Or.inl h) ?_ (Row.nil _ _ _ _ _)⟩
      simpa using (HM1.out.rg i d HD.out).gb.set 4 (.slice none 0 0)
end
end Go.Proofs.YtiphdedfbafhkaaGreatDoor

namespace Go.Proofs.YtiphdedfbafhkaaGreatDoor
open Go.RowKit

theorem awake_any {c : Nat → Nat} {k : Nat} {w : World} {p : Nat} {l : List One} (h : TableAt c k w p l) (who : Int) (hw : WakesOK l 4611686018427387903) :
    Calls Tryz.prog 64 #[.pointer (some ⟨p, 0, none⟩), .int .i64 who] w fun e w' => ∃ ev, e = .returned (.tuple #[.bool (wakeT l who).2.1, ev]) ∧ ∃ c', Stp (· = k) c c' w w' ∧ TableAt c' k w' p (wakeT l who).1 := by
  by_cases he : wrongAt l who = 0
  · obtain ⟨j, x, rfl, hj, hx, hg, hn⟩ := right_of he
    have hb := hw x (List.mem_of_getElem? hj)
    by_cases h1 : x.state = 1
    · have e : wakeT l (j : Int) = (l.set j { x with state := 0, wakes := x.wakes + 1 }, true, 0) := by
        unfold wakeT
        rw [if_neg (by simp [he]), hg, if_pos h1, hn]
      rw [e]
      refine (awake_parked h j hj h1 hb.1 (by omega)).mono ?_
      rintro e w1 ⟨rfl, c1, t1, r1⟩
      exact ⟨_, rfl, c1, t1, r1⟩
    · have e : wakeT l (j : Int) = (l.set j { x with token := true, wakes := x.wakes + 1 }, false, 0) := by
        unfold wakeT
        rw [if_neg (by simp [he]), hg, if_neg h1, hn]
      rw [e]
      refine (awake_ready h j hj hx h1 hb.1 (by omega)).mono ?_
      rintro e w1 ⟨rfl, c1, t1, r1⟩
      exact ⟨_, rfl, c1, t1, r1⟩
  · have e : wakeT l who = (l, false, wrongAt l who) := by
      unfold wakeT
      rw [if_pos he]
    rw [e]
    refine (awake_bad h who he).mono ?_
    rintro e w1 ⟨ev, rfl, c1, t1, -⟩
    exact ⟨ev, rfl, c1, t1.mono (fun _ h => h.elim), h.stp t1 id⟩

/-- Tick in plain Lean: the time, the timers, the actors, who is woken, what is wrong. -/
def tickT (now : Int) (tl : List Tm) (l : List One) (d : Int) : Int × List Tm × List One × List Int × Int :=
  if d < 1 then (now, tl, l, [], 1)
  else if 1099511627776 - now < d then (now, tl, l, [], 5)
  else (now + d, tl.dropWhile (fun x => decide (x.at_ ≤ now + d)), wakesT ((tl.takeWhile fun x => decide (x.at_ ≤ now + d)).map Tm.who) l, (tl.takeWhile fun x => decide (x.at_ ≤ now + d)).map Tm.who, 0)

section
variable {c c' : Nat → Nat} {K : Nat} {w w' : World} {r ar ck tb : Nat} {rs : Value} {la : List Int} {now : Int} {tl : List Tm} {l : List One}
set_option maxRecDepth 100000 in
set_option maxHeartbeats 2000000 in
theorem rtick_ok (h : RM c K w r ar ck tb rs la now tl l) (d : Int) (hn : 0 ≤ now) (hd : 1 ≤ d) (hd2 : d ≤ 1099511627776 - now) (hl : (tl.length : Int) ≤ 1000) {B : Int} (hw : WakesOK l B) (hB : 0 ≤ B ∧ B ≤ 1099511627776) :
    Calls Tryz.prog 13 #[.pointer (some ⟨r, 0, none⟩), .int .i64 d] w fun e w' => ∃ oo n oc, e = .returned (.tuple #[.slice oo n oc, .nilIface]) ∧ ∃ c', Stp (JR K) c c' w w' ∧ RM c' K w' r ar ck tb rs la (now + d) (tl.dropWhile fun x => decide (x.at_ ≤ now + d)) (wakesT ((tl.takeWhile fun x => decide (x.at_ ≤ now + d)).map Tm.who) l) ∧
      Row c' (K + 4) w' 3 1 oo n oc (((tl.takeWhile fun x => decide (x.at_ ≤ now + d)).map Tm.who).map (Value.int .i64)) := by
  obtain ⟨ws, hws⟩ : ∃ ws, ws = (tl.takeWhile fun x => decide (x.at_ ≤ now + d)).map Tm.who := ⟨_, rfl⟩
  obtain ⟨R, hR⟩ : ∃ R, R = wakesT ws l := ⟨_, rfl⟩
  have hlen : ws.length ≤ 1000 := by
    rw [hws, List.length_map]
    have := (List.takeWhile_sublist (l := tl) (fun x => decide (x.at_ ≤ now + d))).length_le
    omega
  have c1 := h.rb.cell 1
  simp at c1
  have H := Lib.hid h
  have HWS := Lib.hid (show (tl.takeWhile fun x => decide (x.at_ ≤ now + d)).map (fun x => Value.int .i64 x.who) = ws.map (Value.int .i64) by rw [hws, List.map_map]; rfl)
  rw [← hws, ← hR]
  have HR := Lib.hid hR
  have HW := Lib.hid hw
  have HB := Lib.hid hB
  have HLN := Lib.hid hlen
  have Hd := Lib.hid (And.intro hn (And.intro hd (And.intro hd2 hl)))
  clear h hws hR hw hB hlen hn hd hd2 hl
  go_enter Tryz.func13, Tryz.ntmps13
  go_wp2_with fail
  refine (ktick_ok H.out.ca (K + 4) (by omega) (by omega) d Hd.out.2.2.2 Hd.out.1 Hd.out.2.1 Hd.out.2.2.1).mono ?_
  rintro e w1 ⟨oo, n, oc, rfl, k1, s1, t1, r1⟩
  rw [HWS.out] at r1
  have M1 := Lib.hid (H.out.clockT s1 t1)
  have S1 := Lib.hid (s1.mono (J' := JR K) JR.kj)
  have R1 := Lib.hid r1
  have HN := Lib.hid (show ws.length = n by simpa using r1.1)
  clear s1 t1 r1 c1
  go_wp2
  go_loopg [24] n (fun gh iv wr => ∃ (c1 : Nat → Nat) (j : Nat) (l1 : List One), iv = .int .i64 j ∧ j + gh = n ∧ Hid (wakesT (ws.drop j) l1 = R) ∧ Hid (WakesOK l1 (B + j)) ∧ Hid (RM c1 K wr r ar ck tb rs la (now + d) (tl.dropWhile fun x => decide (x.at_ ≤ now + d)) l1) ∧ Hid (Row c1 (K + 4) wr 3 1 oo n oc (ws.map (Value.int .i64))) ∧ Hid (Stp (JR K) c c1 w wr))
  case atStart => exact ⟨k1, 0, l, rfl, by omega, Lib.hid HR.out.symm, Lib.hid (by simpa using HW.out), M1, R1, S1⟩
  case round =>
    obtain ⟨c1, j, l1, rfl, hj, HS, HW1, HM1, HR1, ST1⟩ := hrel
    clear H HW HR M1 R1 S1
    by_cases hlt : j < n
    · have hjl : j < ws.length := by rw [HN.out]; exact hlt
      obtain ⟨a, ha, y0⟩ := HR1.out.toIn.ints (j := j) hlt
      obtain ⟨who, hwho⟩ : ∃ z, z = ws.getD j 0 := ⟨_, rfl⟩
      rw [← hwho] at y0
      have hdrop : ws.drop j = who :: ws.drop (j + 1) := by
        rw [List.drop_eq_getElem_cons hjl, hwho]
        simp [List.getD, hjl]
      rw [hdrop] at HS
      have g3 : (j : Int) < (n : Int) := by omega
      subst ha
      have HJ := Lib.hid (show j + 1 + (gk - 1) = n ∧ gk - 1 < gk by omega)
      have hj9 : j ≤ 1000 := by have := HLN.out; omega
      have c2 := HM1.out.rb.cell 2
      simp at c2
      clear hjl hdrop hwho hlt hj
      go_wp2_with fail
      refine (awake_any HM1.out.ta who (HW1.out.mono (by have := HB.out; omega))).mono ?_
      rintro e w2 ⟨ev, rfl, c2, t2, m2⟩
      have HM2 := Lib.hid (HM1.out.table t2 m2)
      have HR2 := Lib.hid (HR1.out.stp t2 (by omega))
      have ST2 := Lib.hid (ST1.out.trans (t2.mono JR.t))
      have HW2 := Lib.hid (HW1.out.wake who (by have := HB.out; omega))
      have HS2 := Lib.hid (show wakesT (ws.drop (j + 1)) (wakeT l1 who).1 = R from HS.out)
      clear t2 m2 HM1 HR1 ST1 HW1 HS y0
      generalize (wakeT l1 who).1 = l2 at *
      go_wp2
      go_roundg (gk - 1)
      case rel => exact ⟨c2, j + 1, l2, by go_num, HJ.out.1, HS2, Lib.hid (HW2.out.mono (by omega)), HM2, HR2, ST2⟩
      case measure => exact HJ.out.2
    · have hjn : j = n := by omega
      subst hjn
      have hE : R = l1 := by
        rw [← HS.out, ← HN.out, List.drop_length]
        rfl
      have HE := Lib.hid hE
      have g3 : ¬ (j : Int) < (j : Int) := Int.lt_irrefl _
      clear hE hlt hj HS
      go_wp2
      go_ret2
      rw [HE.out]
      exact ⟨oo, j, oc, rfl, c1, ST1.out, HM1.out, HR1.out⟩

set_option maxRecDepth 100000 in
theorem rtick_bad (h : RM c K w r ar ck tb rs la now tl l) (d er : Int) (hn : 0 ≤ now ∧ now ≤ 1099511627776) (he : (d < 1 ∧ er = 1) ∨ (1 ≤ d ∧ 1099511627776 - now < d ∧ er = 5)) :
    Calls Tryz.prog 13 #[.pointer (some ⟨r, 0, none⟩), .int .i64 d] w fun e w' => ∃ ev, e = .returned (.tuple #[.slice none 0 0, ev]) ∧ ∃ c', Stp (fun _ => False) c c' w w' ∧ ErrAt c' w' ev er := by
  have c1 := h.rb.cell 1
  simp at c1
  have H := Lib.hid h
  have HE := Lib.hid he
  have HN := Lib.hid hn
  clear h he hn
  go_enter Tryz.func13, Tryz.ntmps13
  go_wp2_with fail
  refine (ktick_bad H.out.ca d HN.out er HE.out).mono ?_
  rintro e w1 ⟨ev, rfl, c2, t2, e2⟩
  have S2 := Lib.hid t2
  have E2 := Lib.hid e2
  clear t2 e2 c1
  go_wp2
  refine wp_loop_rounds 1 ?_
  rw [rounds_succ]
  go_wp2
  go_ret2
  exact ⟨ev, rfl, c2, S2.out, E2.out⟩

theorem rmhalt_any (h : RM c K w r ar ck tb rs la now tl l) (who : Int) (hl : (tl.length : Int) ≤ 1000) :
    Calls Tryz.prog 15 #[.pointer (some ⟨r, 0, none⟩), .int .i64 who] w fun e w' => ∃ ev, e = .returned ev ∧ ∃ c', Stp (JR K) c c' w w' ∧ RM c' K w' r ar ck tb rs la now (tl.filter (stays who)) (if wrongAt l who = 0 then l.set who.toNat { l.getD who.toNat ⟨0, false, 0⟩ with state := 2, token := false } else l) ∧ Err c' w' ev (wrongAt l who) := by
  by_cases he : wrongAt l who = 0
  · rw [if_pos he]
    obtain ⟨j, x, rfl, hj, hx, hg, hn⟩ := right_of he
    rw [hg, hn, he]
    have Hj := Lib.hid hj
    have Hx := Lib.hid hx
    clear hj hx hg hn
    have c1 := h.rb.cell 1
    simp at c1
    have H := Lib.hid h
    have Hl := Lib.hid hl
    have HE := Lib.hid he
    clear h hl he
    go_enter Tryz.func15, Tryz.ntmps15
    go_wp2_with fail
    refine (kdrop_any H.out.ca (j : Int) Hl.out).mono ?_
    rintro e w1 ⟨rfl, k1, s1, t1⟩
    have M1 := Lib.hid (H.out.clock s1 t1)
    have S1 := Lib.hid (s1.mono (J' := JR K) JR.clk)
    have c2 := M1.out.rb.cell 2
    simp at c2
    clear s1 t1 c1
    go_wp2_with fail
    refine (ahalt_ok M1.out.ta j Hj.out Hx.out).mono ?_
    rintro e w2 ⟨rfl, k2, s2, t2⟩
    have M2 := Lib.hid (M1.out.table s2 t2)
    have S2 := Lib.hid (S1.out.trans (s2.mono JR.t))
    clear s2 t2 c2
    go_wp2
    go_ret
    exact ⟨_, rfl, k2, S2.out, M2.out, Err.nil _ _⟩
  · rw [if_neg he]
    have c1 := h.rb.cell 1
    simp at c1
    have H := Lib.hid h
    have Hl := Lib.hid hl
    have HE := Lib.hid he
    clear h hl he
    go_enter Tryz.func15, Tryz.ntmps15
    go_wp2_with fail
    refine (kdrop_any H.out.ca who Hl.out).mono ?_
    rintro e w1 ⟨rfl, k1, s1, t1⟩
    have M1 := Lib.hid (H.out.clock s1 t1)
    have S1 := Lib.hid (s1.mono (J' := JR K) JR.clk)
    have c2 := M1.out.rb.cell 2
    simp at c2
    clear s1 t1 c1
    go_wp2_with fail
    refine (ahalt_bad M1.out.ta who HE.out).mono ?_
    rintro e w2 ⟨ev, rfl, k2, s2, e2⟩
    have M2 := Lib.hid (M1.out.stpF s2)
    have S2 := Lib.hid (S1.out.trans (s2.mono (fun _ h => h.elim)))
    have E2 := Lib.hid (e2.err HE.out)
    clear s2 e2 c2
    go_wp2
    go_ret
    exact ⟨ev, rfl, k2, S2.out, M2.out, E2.out⟩

end
end Go.Proofs.YtiphdedfbafhkaaGreatDoor

namespace Go.Proofs.YtiphdedfbafhkaaGreatDoor
open Go.RowKit

def S8z (yb : Nat) (w : World) : Prop := w.cell? ⟨yb, 0, none⟩ = some (.pointer none) ∧ w.cell? ⟨yb, 1, none⟩ = some (.int .i64 0) ∧ w.cell? ⟨yb, 2, none⟩ = some (.int .i64 0) ∧ w.cell? ⟨yb, 3, none⟩ = some (.int .i64 0) ∧ w.cell? ⟨yb, 4, none⟩ = some (.int .i64 0) ∧ w.cell? ⟨yb, 5, none⟩ = some (.slice none 0 0) ∧ w.cell? ⟨yb, 6, none⟩ = some (.int .i64 0)

noncomputable def Tryz.crc8e : Code := (Tryz.f8.body.bind (regionN 8)).getD .skip

set_option maxRecDepth 1000000 in
set_option maxHeartbeats 100000000 in
theorem Tryz.rrc8e {yb rb : Nat} {tt : TypeId} {vv : Value} {c9 : Nat → Nat} {w9 : World} (HB : Hid (Blk c9 0 w9 rb [.bool false, .pointer none, .int .i64 0, .slice none 0 0, .int .i64 0, .bool false, .bool false, .bool false, .pointer none, .int .i64 0, .int .i64 0, .int .i64 0, .int .i64 0, .slice none 0 0, .int .i64 0] 38)) (HY : Hid (Blk c9 1 w9 yb [.pointer none, .int .i64 0, .int .i64 0, .int .i64 0, .int .i64 0, .slice none 0 0, .int .i64 0] 36)) {fr0 fr1 fr2 fr3 fr4 fr5 fr7 fr8 fr10 fr11 fr13 fr14 fr15 fr16 fr17 fr18 fr19 fr20 fr21 fr22 fr23 fr24 fr25 fr26 fr27 fr28 fr29 fr30 fr31 fr32 fr33 fr34 fr35 fr36 fr37 fr38 fr39 fr40 fr41 fr42 fr43 fr44 fr45 fr46 fr47 fr48 fr49 fr50 fr51 fr52 fr53 : Value} {Q0 : Exit → Act → World → Prop}
    (hQ : ∀ (w' : World), ∀ g49 g50 g51 g52 g53 : Value, Hid (Stp (· = 0) c9 c9 w9 w') → Hid (∀ (cA : Nat → Nat) (wA : World), wA.heap.size ≤ rb → Stp (fun _ => False) cA c9 wA w9 → Stp (fun _ => False) cA c9 wA w') → Hid (Blk c9 0 w' rb [.bool false, .pointer none, .int .i64 0, .slice none 0 0, .int .i64 0, .bool false, .bool false, .bool false, .pointer none, .int .i64 0, .int .i64 0, .int .i64 0, .int .i64 0, .slice none 0 0, .int .i64 0] 38) → Q0 .normal ⟨#[fr0, fr1, fr2, fr3, fr4, fr5, .pointer (some ⟨rb, 0, none⟩), .iface tt vv, fr8, .iface tt vv, fr10, fr11, .pointer (some ⟨yb, 0, none⟩), fr13, fr14, fr15, fr16, fr17, fr18, fr19, fr20, fr21, fr22, fr23, fr24, fr25, fr26, fr27, fr28, fr29, fr30, fr31, fr32, fr33, fr34, fr35, fr36, fr37, fr38, fr39, fr40, fr41, fr42, fr43, fr44, fr45, fr46, fr47, fr48, g49, g50, g51, g52, g53], []⟩ w') : Code.wp Tryz.prog Tryz.crc8e Q0 ⟨#[fr0, fr1, fr2, fr3, fr4, fr5, .pointer (some ⟨rb, 0, none⟩), fr7, fr8, .iface tt vv, fr10, fr11, .pointer (some ⟨yb, 0, none⟩), fr13, fr14, fr15, fr16, fr17, fr18, fr19, fr20, fr21, fr22, fr23, fr24, fr25, fr26, fr27, fr28, fr29, fr30, fr31, fr32, fr33, fr34, fr35, fr36, fr37, fr38, fr39, fr40, fr41, fr42, fr43, fr44, fr45, fr46, fr47, fr48, fr49, fr50, fr51, fr52, fr53], []⟩ w9 := by
  conv => arg 2; whnf
  refine wp_region_noPanic ?_
  have HQ := Lib.hid hQ
  clear hQ
  have B0 := Lib.hid (HB.out.stp (Stp.refl (fun _ => False) c9 w9).drew id)
  have Y0 := Lib.hid (HY.out.stp (Stp.refl (fun _ => False) c9 w9).drew id)
  have T0 := Lib.hid ((Stp.refl (· = 0) c9 w9).drew)
  have U0 := Lib.hid ((Stp.refl (fun _ => False) c9 w9).drew)
  refine wp_region_held_drew (S := S8z yb) (by kernel_rfl) (cl_7 Y0.out) (fun hS0 => ?_)
  have hS := Lib.hid hS0
  clear hS0
  generalize w9.drew = wq0 at B0 Y0 T0 U0 hS ⊢
  refine wpH_takeL (i := 0) (v := ?_) rfl (by kernel_rfl) (by kernel_rfl) (by kernel_rfl) (fun _ _ _ h => h) (Or.inl ⟨by rfl, ?_⟩) hS.out ?_
  rotate_left
  · intro wy hSy
    clear hSy
    go_simp
    try with_reducible rfl
  try simp only [Act.put, List.setIfInBounds_toArray, List.set_cons_zero, List.set_cons_succ]
  refine wpH_takeL (i := 1) (v := ?_) rfl (by kernel_rfl) (by kernel_rfl) (by kernel_rfl) (fun _ _ _ h => h) (Or.inl ⟨by rfl, ?_⟩) hS.out ?_
  rotate_left
  · intro wy hSy
    clear hSy
    go_simp
    try with_reducible rfl
  try simp only [Act.put, List.setIfInBounds_toArray, List.set_cons_zero, List.set_cons_succ]
  refine wpH_takeL (i := 2) (v := ?_) rfl (by kernel_rfl) (by kernel_rfl) (by kernel_rfl) (fun _ _ _ h => h) (Or.inl ⟨by rfl, ?_⟩) hS.out ?_
  rotate_left
  · intro wy hSy
    obtain ⟨s0, s1, s2, s3, s4, s5, s6⟩ := hSy
    go_simp
    try with_reducible rfl
  try simp only [Act.put, List.setIfInBounds_toArray, List.set_cons_zero, List.set_cons_succ]
  refine wpH_takeL (i := 3) (v := ?_) rfl (by kernel_rfl) (by kernel_rfl) (by kernel_rfl) (fun _ _ _ h => h) (Or.inl ⟨by rfl, ?_⟩) hS.out ?_
  rotate_left
  · intro wy hSy
    clear hSy
    go_simp
    try with_reducible rfl
  try simp only [Act.put, List.setIfInBounds_toArray, List.set_cons_zero, List.set_cons_succ]
  refine wpH_takeL (i := 4) (v := ?_) rfl (by kernel_rfl) (by kernel_rfl) (by kernel_rfl) (fun _ _ _ h => h) (Or.inl ⟨by rfl, ?_⟩) hS.out ?_
  rotate_left
  · intro wy hSy
    clear hSy
    go_simp
    try with_reducible rfl
  try simp only [Act.put, List.setIfInBounds_toArray, List.set_cons_zero, List.set_cons_succ]
  refine wpAnyH_ready (rs := [5]) (by kernel_rfl) (by simp) (readyH_consL rfl (fun K hK => ?_) AllReadyH.nil)
  obtain ⟨y0, y1, y2, y3, y4, y5, y6, y7, y8, y9, y10, y11, y12, y13, y14⟩ := cells15 B0.out
  obtain ⟨z0, z1, z2, z3, z4, z5, z6, z7, z8, z9, z10, z11, z12, z13, z14⟩ := frees15 B0.out
  have lb := B0.out.lt
  go_simp
  have T1 := Lib.hid (put15_stp (Stp.refl (· = 0) c9 wq0) (.bool false) (.pointer none) (.int .i64 0) (.slice none 0 0) (.int .i64 0) (.bool false) (.bool false) (.bool false) (.pointer none) (.int .i64 0) (.int .i64 0) (.int .i64 0) (.int .i64 0) (.slice none 0 0) (.int .i64 0) B0.out.1)
  have B1 := Lib.hid (put15_blk B0.out (.bool false) (.pointer none) (.int .i64 0) (.slice none 0 0) (.int .i64 0) (.bool false) (.bool false) (.bool false) (.pointer none) (.int .i64 0) (.int .i64 0) (.int .i64 0) (.int .i64 0) (.slice none 0 0) (.int .i64 0))
  have Y1 := Lib.hid (Y0.out.stp T1.out (by decide))
  refine hK.out _ _ (cl_7 Y1.out) (fun hS1 => ?_)
  clear hK K hS y0 y1 y2 y3 y4 y5 y6 y7 y8 y9 y10 y11 y12 y13 y14 z0 z1 z2 z3 z4 z5 z6 z7 z8 z9 z10 z11 z12 z13 z14 lb
  have hS := Lib.hid hS1
  clear hS1
  try simp only [Act.put, List.setIfInBounds_toArray, List.set_cons_zero, List.set_cons_succ]
  refine wpH_takeL (i := 6) (v := ?_) rfl (by kernel_rfl) (by kernel_rfl) (by kernel_rfl) (fun _ _ _ h => h) (Or.inl ⟨by rfl, ?_⟩) hS.out ?_
  rotate_left
  · intro wy hSy
    clear hSy
    go_simp
    try with_reducible rfl
  try simp only [Act.put, List.setIfInBounds_toArray, List.set_cons_zero, List.set_cons_succ]
  refine wpAnyH_done (by kernel_rfl) ?_ _
  exact HQ.out _ _ _ _ _ _ (Lib.hid (T0.out.trans T1.out)) (Lib.hid (fun cA wA hA h => put15_new (h.trans U0.out) (.bool false) (.pointer none) (.int .i64 0) (.slice none 0 0) (.int .i64 0) (.bool false) (.bool false) (.bool false) (.pointer none) (.int .i64 0) (.int .i64 0) (.int .i64 0) (.int .i64 0) (.slice none 0 0) (.int .i64 0) hA)) B1

section
variable {c c' : Nat → Nat} {k K : Nat} {w w' : World} {p q gp sh cid : Nat} {cl ca sc : Int} {ids : List Int} {la : List Int}
theorem sntry_low (_h : SnAt c k w p q gp sh cid cl ca sc ids) (n : Int) (h1 : n < 1) :
    Calls Tryz.prog 56 #[.pointer (some ⟨p, 0, none⟩), .int .i64 n] w fun e w' => ∃ et ev, e = .returned (.tuple #[.agg #[.pointer none, .int .i64 0, .slice none 0 0, .int .i64 0, .bool false, .bool false, .bool false], .iface et ev]) ∧ ∃ c', Stp (fun _ => False) c c' w w' ∧ ErrAt c' w' (.iface et ev) 1 := by
  have t1 : decide (n < 1) = true := by simpa using h1
  obtain ⟨c1, hc1, T⟩ := ((Stp.refl (fun _ => False) c w).alloc (.cells #[.pointer none, .int .i64 0, .slice none 0 0, .int .i64 0, .bool false, .bool false, .bool false] 33) 0).name
  have T2 := Lib.hid (T.out.alloc (.cells #[.string ⟨#[99, 108, 97, 105, 109]⟩, .int .i64 n, .iface 98 (.int .i64 1)] 181) 1)
  have E2 := Lib.hid (ErrAt.new c1 (w.alloc (.cells #[.pointer none, .int .i64 0, .slice none 0 0, .int .i64 0, .bool false, .bool false, .bool false] 33)) ⟨#[99, 108, 97, 105, 109]⟩ n 1)
  clear h1 hc1 T
  go_enter Tryz.func56, Tryz.ntmps56
  go_wp2_with (go_at_call 50; refine (wrap_some _ _ _ _ _).mono ?_; rintro e w' ⟨rfl, rfl⟩)
  exact bodyPost_ret (v := .tuple #[.agg #[.pointer none, .int .i64 0, .slice none 0 0, .int .i64 0, .bool false, .bool false, .bool false], _]) (by simp [results, Tryz.results56, go_sem]) rfl ⟨_, _, rfl, _, T2.out, E2.out⟩

theorem sntry_high (h : SnAt c k w p q gp sh cid cl ca sc ids) (hsh : sh < 21) (n : Int) (h1 : 1 ≤ n) (h2 : 2 ^ sh < n) :
    Calls Tryz.prog 56 #[.pointer (some ⟨p, 0, none⟩), .int .i64 n] w fun e w' => ∃ et ev, e = .returned (.tuple #[.agg #[.pointer none, .int .i64 0, .slice none 0 0, .int .i64 0, .bool false, .bool false, .bool false], .iface et ev]) ∧ ∃ c', Stp (fun _ => False) c c' w w' ∧ ErrAt c' w' (.iface et ev) 1 := by
  have t1 : decide (n < 1) = false := by simp; omega
  have t2 : decide ((2 : Int) ^ sh < n) = true := by simpa using h2
  have Hsh := Lib.hid hsh
  obtain ⟨x0, x1, x2, x3, x4, x5, x6⟩ := h.cs
  have lp := h.st.lt
  obtain ⟨c1, hc1, T⟩ := (((Stp.refl (fun _ => False) c w).alloc (.cells #[.pointer none, .int .i64 0, .slice none 0 0, .int .i64 0, .bool false, .bool false, .bool false] 33) 0).alloc (.cells #[.int .i64 sh] 65) 0).name
  have T2 := Lib.hid (T.out.alloc (.cells #[.string ⟨#[99, 108, 97, 105, 109]⟩, .int .i64 n, .iface 98 (.int .i64 1)] 181) 1)
  have E2 := Lib.hid (ErrAt.new c1 ((w.alloc (.cells #[.pointer none, .int .i64 0, .slice none 0 0, .int .i64 0, .bool false, .bool false, .bool false] 33)).alloc (.cells #[.int .i64 sh] 65)) ⟨#[99, 108, 97, 105, 109]⟩ n 1)
  clear h h1 h2 hc1 T hsh
  go_enter Tryz.func56, Tryz.ntmps56
  go_wp2_with (first
    | (go_at_call 30; refine (slots_k sh Hsh.out _).mono ?_; rintro e w' ⟨rfl, rfl⟩)
    | (go_at_call 50; refine (wrap_some _ _ _ _ _).mono ?_; rintro e w' ⟨rfl, rfl⟩))
  exact bodyPost_ret (v := .tuple #[.agg #[.pointer none, .int .i64 0, .slice none 0 0, .int .i64 0, .bool false, .bool false, .bool false], _]) (by simp [results, Tryz.results56, go_sem]) rfl ⟨_, _, rfl, _, T2.out, E2.out⟩

theorem sntry_bad (h : SnAt c k w p q gp sh cid cl ca sc ids) (hsh : sh < 21) (n : Int) (hb : n < 1 ∨ 2 ^ sh < n) :
    Calls Tryz.prog 56 #[.pointer (some ⟨p, 0, none⟩), .int .i64 n] w fun e w' => ∃ et ev, e = .returned (.tuple #[.agg #[.pointer none, .int .i64 0, .slice none 0 0, .int .i64 0, .bool false, .bool false, .bool false], .iface et ev]) ∧ ∃ c', Stp (fun _ => False) c c' w w' ∧ ErrAt c' w' (.iface et ev) 1 := by
  by_cases h1 : n < 1
  · exact sntry_low h n h1
  · exact sntry_high h hsh n (by omega) (by omega)

set_option maxRecDepth 100000 in
theorem snpublish_bad (h : SnAt c k w p q gp sh cid cl ca sc ids) (ha : ArenaS c K w q la) (hk : k ≠ K) (hk1 : k + 1 ≠ K) (hc : cid < la.length) (hi : Int) (hb : hi ≤ la.getD cid 0 ∨ cl < hi) :
    Calls Tryz.prog 58 #[.pointer (some ⟨p, 0, none⟩), .int .i64 hi] w fun e w' => ∃ tt vv, e = .returned (.iface tt vv) ∧ ∃ c', Stp (· = K) c c' w w' ∧ ArenaS c' K w' q la ∧ ErrAt c' w' (.iface tt vv) 1 := by
  have hl := fun (W : World) (hW : Stp (fun _ => False) c c w W) => snload h ha hk hk1 hc hW
  obtain ⟨x0, x1, x2, x3, x4, x5, x6⟩ := h.cs
  have HL := Lib.hid hl
  have t : decide (hi ≤ la.getD cid 0) = true ∨ (decide (hi ≤ la.getD cid 0) = false ∧ decide (cl < hi) = true) := by
    simp only [decide_eq_true_eq, decide_eq_false_iff_not]; omega
  clear hl h ha hk hk1 hc x1 x3 x4 x5 x6 hb
  generalize la.getD cid 0 = v at *
  rcases t with t1 | ⟨t1, t2⟩
  all_goals
    go_enter Tryz.func58, Tryz.ntmps58
    go_wp2
    go_region_held3 (fun w' => w'.cell? ⟨p, 0, none⟩ = some (.pointer (some ⟨q, 0, none⟩)) ∧ w'.cell? ⟨p, 2, none⟩ = some (.int .i64 cid))
      (first | exact ⟨by assumption, by assumption⟩ | go_keep)
      (first | (go_at_call 37; refine (HL.out _ (by first | exact (Stp.refl _ _ _).drew | exact Stp.refl _ _ _)).mono ?_; rintro e w2 ⟨rfl, c2, T2, A2, N2, x0, x2⟩))
    obtain ⟨y0, y1, y2, y3, y4, y5, y6⟩ := N2.out.cs
    have T3 := Lib.hid ((Stp.refl (fun _ => False) c2 w2).alloc (.cells #[.string ⟨#[112, 117, 98, 108, 105, 115, 104]⟩, .int .i64 hi, .iface 98 (.int .i64 1)] 181) 1)
    have E3 := Lib.hid (ErrAt.new c2 w2 ⟨#[112, 117, 98, 108, 105, 115, 104]⟩ hi 1)
    clear y1 y4 y5 y6 y0 y2
    go_wp2_with (go_at_call 50; refine (wrap_some _ _ _ _ _).mono ?_; rintro e w' ⟨rfl, rfl⟩)
    go_ret
    exact ⟨_, _, rfl, _, T2.out.trans (T3.out.mono (fun _ h => h.elim)), A2.out.stp T3.out id, E3.out⟩
end

section
variable {c c' : Nat → Nat} {K : Nat} {w w' : World} {r ar ck tb : Nat} {la : List Int} {now : Int} {tl : List Tm} {l : List One} {D : List RD} {ao : Option Addr} {cap i : Nat} {d : RD}
set_option maxRecDepth 100000 in
/-- A claim of too few or too many of a multi ring. -/
theorem rclaim_mbad (hK : 2 ≤ K) (h : RMs c K w r ar ck tb la now tl l D ao cap) (hd : D[i]? = some d) (hm : d.many = true) (n : Int) (hb : n < 1 ∨ 2 ^ d.sh < n) :
    Calls Tryz.prog 8 #[.pointer (some ⟨r, 0, none⟩), .int .i64 (i : Int), .int .i64 n] w fun e w' => ∃ tt vv, e = .returned (.tuple #[.agg #[.bool false, .pointer none, .int .i64 0, .slice none 0 0, .int .i64 0, .bool false, .bool false, .bool false, .pointer none, .int .i64 0, .int .i64 0, .int .i64 0, .int .i64 0, .slice none 0 0, .int .i64 0], .iface tt vv]) ∧ ∃ c', Stp (fun _ => False) c c' w w' ∧
      RMs c' K w' r ar ck tb la now tl l D ao cap ∧ ErrAt c' w' (.iface tt vv) 1 := by
  obtain ⟨rb, hrb⟩ : ∃ x, x = w.heap.size := ⟨_, rfl⟩
  have HRB := Lib.hid (show w.heap.size ≤ rb by omega)
  obtain ⟨c1, hc1, t1⟩ := ((Stp.refl (fun _ => False) c w).alloc (.cells #[.bool false, .pointer none, .int .i64 0, .slice none 0 0, .int .i64 0, .bool false, .bool false, .bool false, .pointer none, .int .i64 0, .int .i64 0, .int .i64 0, .int .i64 0, .slice none 0 0, .int .i64 0] 38) 0).name
  have H1 := Lib.hid (h.stpF t1.out)
  have B1 := Lib.hid (show Blk c1 0 (w.alloc (.cells #[.bool false, .pointer none, .int .i64 0, .slice none 0 0, .int .i64 0, .bool false, .bool false, .bool false, .pointer none, .int .i64 0, .int .i64 0, .int .i64 0, .int .i64 0, .slice none 0 0, .int .i64 0] 38)) rb [.bool false, .pointer none, .int .i64 0, .slice none 0 0, .int .i64 0, .bool false, .bool false, .bool false, .pointer none, .int .i64 0, .int .i64 0, .int .i64 0, .int .i64 0, .slice none 0 0, .int .i64 0] 38 by rw [hc1.out, hrb]; exact Blk.new c 0 w _ _)
  have HD := Lib.hid hd
  have HM := Lib.hid hm
  have HS := Lib.hid (mtry_bad ((H1.out.rg i d hd).sq hm) n hb)
  obtain ⟨k0, k3, kl⟩ := H1.out.two hd hm
  clear h hd hm hb hc1
  go_enter Tryz.func8, Tryz.ntmps8
  go_upto_region 1 with fail
  rw [← hrb]
  generalize w.alloc (.cells #[.bool false, .pointer none, .int .i64 0, .slice none 0 0, .int .i64 0, .bool false, .bool false, .bool false, .pointer none, .int .i64 0, .int .i64 0, .int .i64 0, .int .i64 0, .slice none 0 0, .int .i64 0] 38) = w1 at t1 H1 B1 HS k0 k3 kl ⊢
  clear hrb
  go_wp2_with fail
  refine (rat_c H1.out HD.out).mono ?_
  rintro e w1' ⟨rfl, rfl⟩
  go_wp2_with fail
  refine HS.out.mono ?_
  rintro e w2 ⟨tt, vv, rfl, c2, t2, e2⟩
  have R2 := Lib.hid (H1.out.stpF t2)
  have B2 := Lib.hid (B1.out.stp t2 id)
  have S2 := Lib.hid (t1.out.trans t2)
  have E2 := Lib.hid e2
  clear t2 e2 k0 k3 kl HS H1 B1 t1
  obtain ⟨yb, hyb⟩ : ∃ x, x = w2.heap.size := ⟨_, rfl⟩
  obtain ⟨c3, hc3, t3⟩ := ((Stp.refl (fun _ => False) c2 w2).alloc (.cells #[.pointer none, .int .i64 0, .int .i64 0, .int .i64 0, .int .i64 0, .slice none 0 0, .int .i64 0] 36) 1).name
  have R3 := Lib.hid (R2.out.stpF t3.out)
  have B3 := Lib.hid (B2.out.stp t3.out id)
  have S3 := Lib.hid (S2.out.trans t3.out)
  have E3 := Lib.hid (E2.out.stp t3.out id)
  have Y3 := Lib.hid (show Blk c3 1 (w2.alloc (.cells #[.pointer none, .int .i64 0, .int .i64 0, .int .i64 0, .int .i64 0, .slice none 0 0, .int .i64 0] 36)) yb [.pointer none, .int .i64 0, .int .i64 0, .int .i64 0, .int .i64 0, .slice none 0 0, .int .i64 0] 36 by rw [hc3.out, hyb]; exact Blk.new c2 1 w2 _ _)
  clear R2 B2 S2 E2 hc3 t3
  go_upto_region 8 with fail
  rw [← hyb]
  generalize w2.alloc (.cells #[.pointer none, .int .i64 0, .int .i64 0, .int .i64 0, .int .i64 0, .slice none 0 0, .int .i64 0] 36) = w3 at R3 B3 S3 Y3 E3 ⊢
  clear hyb
  refine Tryz.rrc8e B3 Y3 (fun w4 _ _ _ _ _ T4 N4 B4 => ?_)
  have R4 := Lib.hid (R3.out.stp0 hK T4.out)
  have S4 := Lib.hid (N4.out _ _ HRB.out S3.out)
  have E4 := Lib.hid (E3.out.stp T4.out (by decide))
  obtain ⟨y0, y1, y2, y3, y4, y5, y6, y7, y8, y9, y10, y11, y12, y13, y14⟩ := cells15 B4.out
  clear R3 S3 Y3 B3 E3
  go_wp2
  exact bodyPost_ret (v := .tuple #[.agg #[.bool false, .pointer none, .int .i64 0, .slice none 0 0, .int .i64 0, .bool false, .bool false, .bool false, .pointer none, .int .i64 0, .int .i64 0, .int .i64 0, .int .i64 0, .slice none 0 0, .int .i64 0], .iface tt vv]) (by clear R4 S4 E4 HD HM HRB; simp [results, Tryz.results8, go_sem, *]) rfl ⟨tt, vv, rfl, c3, S4.out, R4.out, E4.out⟩

set_option maxRecDepth 100000 in
/-- A claim of too few or too many of a single ring. -/
theorem rclaim_sbad (hK : 2 ≤ K) (h : RMs c K w r ar ck tb la now tl l D ao cap) (hd : D[i]? = some d) (hm : d.many = false) (hsh : d.sh < 21) (n : Int) (hb : n < 1 ∨ 2 ^ d.sh < n) :
    Calls Tryz.prog 8 #[.pointer (some ⟨r, 0, none⟩), .int .i64 (i : Int), .int .i64 n] w fun e w' => ∃ tt vv, e = .returned (.tuple #[.agg #[.bool false, .pointer none, .int .i64 0, .slice none 0 0, .int .i64 0, .bool false, .bool false, .bool false, .pointer none, .int .i64 0, .int .i64 0, .int .i64 0, .int .i64 0, .slice none 0 0, .int .i64 0], .iface tt vv]) ∧ ∃ c', Stp (fun _ => False) c c' w w' ∧
      RMs c' K w' r ar ck tb la now tl l D ao cap ∧ ErrAt c' w' (.iface tt vv) 1 := by
  obtain ⟨rb, hrb⟩ : ∃ x, x = w.heap.size := ⟨_, rfl⟩
  have HRB := Lib.hid (show w.heap.size ≤ rb by omega)
  obtain ⟨c1, hc1, t1⟩ := ((Stp.refl (fun _ => False) c w).alloc (.cells #[.bool false, .pointer none, .int .i64 0, .slice none 0 0, .int .i64 0, .bool false, .bool false, .bool false, .pointer none, .int .i64 0, .int .i64 0, .int .i64 0, .int .i64 0, .slice none 0 0, .int .i64 0] 38) 0).name
  have H1 := Lib.hid (h.stpF t1.out)
  have B1 := Lib.hid (show Blk c1 0 (w.alloc (.cells #[.bool false, .pointer none, .int .i64 0, .slice none 0 0, .int .i64 0, .bool false, .bool false, .bool false, .pointer none, .int .i64 0, .int .i64 0, .int .i64 0, .int .i64 0, .slice none 0 0, .int .i64 0] 38)) rb [.bool false, .pointer none, .int .i64 0, .slice none 0 0, .int .i64 0, .bool false, .bool false, .bool false, .pointer none, .int .i64 0, .int .i64 0, .int .i64 0, .int .i64 0, .slice none 0 0, .int .i64 0] 38 by rw [hc1.out, hrb]; exact Blk.new c 0 w _ _)
  have HD := Lib.hid hd
  have HM := Lib.hid hm
  have HS := Lib.hid (sntry_bad ((H1.out.rg i d hd).sn hm) hsh n hb)
  obtain ⟨k0, k2, kl⟩ := H1.out.one hd hm
  clear h hd hm hb hc1 hsh
  go_enter Tryz.func8, Tryz.ntmps8
  go_upto_region 1 with fail
  rw [← hrb]
  generalize w.alloc (.cells #[.bool false, .pointer none, .int .i64 0, .slice none 0 0, .int .i64 0, .bool false, .bool false, .bool false, .pointer none, .int .i64 0, .int .i64 0, .int .i64 0, .int .i64 0, .slice none 0 0, .int .i64 0] 38) = w1 at t1 H1 B1 HS k0 k2 kl ⊢
  clear hrb
  go_wp2_with fail
  refine (rat_c H1.out HD.out).mono ?_
  rintro e w1' ⟨rfl, rfl⟩
  go_wp2_with fail
  refine HS.out.mono ?_
  rintro e w2 ⟨tt, vv, rfl, c2, t2, e2⟩
  have R2 := Lib.hid (H1.out.stpF t2)
  have B2 := Lib.hid (B1.out.stp t2 id)
  have S2 := Lib.hid (t1.out.trans t2)
  have E2 := Lib.hid e2
  clear t2 e2 k0 k2 kl HS H1 B1 t1
  obtain ⟨c3, hc3, t3⟩ := ((Stp.refl (fun _ => False) c2 w2).alloc (.cells #[.pointer none, .int .i64 0, .slice none 0 0, .int .i64 0, .bool false, .bool false, .bool false] 33) 0).name
  have R3 := Lib.hid (R2.out.stpF t3.out)
  have B3 := Lib.hid (B2.out.stp t3.out id)
  have S3 := Lib.hid (S2.out.trans t3.out)
  have E3 := Lib.hid (E2.out.stp t3.out id)
  have Y3 := Lib.hid (show Blk c3 0 (w2.alloc (.cells #[.pointer none, .int .i64 0, .slice none 0 0, .int .i64 0, .bool false, .bool false, .bool false] 33)) w2.heap.size [.pointer none, .int .i64 0, .slice none 0 0, .int .i64 0, .bool false, .bool false, .bool false] 33 by rw [hc3.out]; exact Blk.new c2 0 w2 _ _)
  clear R2 B2 S2 E2 hc3 t3
  obtain ⟨l0, l1, l2, l3, l4, l5, l6⟩ := cells7 Y3.out
  obtain ⟨y0, y1, y2, y3, y4, y5, y6, y7, y8, y9, y10, y11, y12, y13, y14⟩ := cells15 B3.out
  obtain ⟨z0, z1, z2, z3, z4, z5, z6, z7, z8, z9, z10, z11, z12, z13, z14⟩ := frees15 B3.out
  have lb := B3.out.lt
  have T4 := Lib.hid (put15_stp (Stp.refl (· = 0) c3 (w2.alloc (.cells #[.pointer none, .int .i64 0, .slice none 0 0, .int .i64 0, .bool false, .bool false, .bool false] 33))) (.bool false) (.pointer none) (.int .i64 0) (.slice none 0 0) (.int .i64 0) (.bool false) (.bool false) (.bool false) (.pointer none) (.int .i64 0) (.int .i64 0) (.int .i64 0) (.int .i64 0) (.slice none 0 0) (.int .i64 0) B3.out.1)
  have SF := Lib.hid (put15_new S3.out (.bool false) (.pointer none) (.int .i64 0) (.slice none 0 0) (.int .i64 0) (.bool false) (.bool false) (.bool false) (.pointer none) (.int .i64 0) (.int .i64 0) (.int .i64 0) (.int .i64 0) (.slice none 0 0) (.int .i64 0) HRB.out)
  have RF := Lib.hid (R3.out.stp0 hK T4.out)
  have EF := Lib.hid (E3.out.stp T4.out (by decide))
  clear T4 S3 R3 Y3 B3 E3
  go_wp2
  exact bodyPost_ret (v := .tuple #[.agg #[.bool false, .pointer none, .int .i64 0, .slice none 0 0, .int .i64 0, .bool false, .bool false, .bool false, .pointer none, .int .i64 0, .int .i64 0, .int .i64 0, .int .i64 0, .slice none 0 0, .int .i64 0], .iface tt vv]) (by clear SF RF EF HD HM HRB; simp [results, Tryz.results8, go_sem, *]) rfl ⟨tt, vv, rfl, c3, SF.out, RF.out, EF.out⟩

set_option maxRecDepth 100000 in
/-- A claim of a ring that is none. -/
theorem rclaim_none (hK : 2 ≤ K) (h : RMs c K w r ar ck tb la now tl l D ao cap) (k n : Int) (hk : k < 0 ∨ (D.length : Int) ≤ k) :
    Calls Tryz.prog 8 #[.pointer (some ⟨r, 0, none⟩), .int .i64 k, .int .i64 n] w fun e w' => ∃ tt vv, e = .returned (.tuple #[.agg #[.bool false, .pointer none, .int .i64 0, .slice none 0 0, .int .i64 0, .bool false, .bool false, .bool false, .pointer none, .int .i64 0, .int .i64 0, .int .i64 0, .int .i64 0, .slice none 0 0, .int .i64 0], .iface tt vv]) ∧ ∃ c', Stp (fun _ => False) c c' w w' ∧
      RMs c' K w' r ar ck tb la now tl l D ao cap ∧ ErrAt c' w' (.iface tt vv) 3 := by
  obtain ⟨rb, hrb⟩ : ∃ x, x = w.heap.size := ⟨_, rfl⟩
  have HRB := Lib.hid (show w.heap.size ≤ rb by omega)
  obtain ⟨c1, hc1, t1⟩ := ((Stp.refl (fun _ => False) c w).alloc (.cells #[.bool false, .pointer none, .int .i64 0, .slice none 0 0, .int .i64 0, .bool false, .bool false, .bool false, .pointer none, .int .i64 0, .int .i64 0, .int .i64 0, .int .i64 0, .slice none 0 0, .int .i64 0] 38) 0).name
  have H1 := Lib.hid (h.stpF t1.out)
  have B1 := Lib.hid (show Blk c1 0 (w.alloc (.cells #[.bool false, .pointer none, .int .i64 0, .slice none 0 0, .int .i64 0, .bool false, .bool false, .bool false, .pointer none, .int .i64 0, .int .i64 0, .int .i64 0, .int .i64 0, .slice none 0 0, .int .i64 0] 38)) rb [.bool false, .pointer none, .int .i64 0, .slice none 0 0, .int .i64 0, .bool false, .bool false, .bool false, .pointer none, .int .i64 0, .int .i64 0, .int .i64 0, .int .i64 0, .slice none 0 0, .int .i64 0] 38 by rw [hc1.out, hrb]; exact Blk.new c 0 w _ _)
  have HKK := Lib.hid hk
  clear h hk hc1
  go_enter Tryz.func8, Tryz.ntmps8
  go_upto_region 1 with fail
  rw [← hrb]
  generalize w.alloc (.cells #[.bool false, .pointer none, .int .i64 0, .slice none 0 0, .int .i64 0, .bool false, .bool false, .bool false, .pointer none, .int .i64 0, .int .i64 0, .int .i64 0, .int .i64 0, .slice none 0 0, .int .i64 0] 38) = w1 at t1 H1 B1 ⊢
  clear hrb
  go_wp2_with fail
  refine (rat_bad H1.out k HKK.out).mono ?_
  rintro e w2 ⟨tt, vv, rfl, c2, t2, e2⟩
  have R3 := Lib.hid (H1.out.stpF t2)
  have B3 := Lib.hid (B1.out.stp t2 id)
  have S3 := Lib.hid (t1.out.trans t2)
  have E3 := Lib.hid e2
  clear t2 e2 H1 B1 t1
  obtain ⟨y0, y1, y2, y3, y4, y5, y6, y7, y8, y9, y10, y11, y12, y13, y14⟩ := cells15 B3.out
  obtain ⟨z0, z1, z2, z3, z4, z5, z6, z7, z8, z9, z10, z11, z12, z13, z14⟩ := frees15 B3.out
  have lb := B3.out.lt
  have T4 := Lib.hid (put15_stp (Stp.refl (· = 0) c2 w2) (.bool false) (.pointer none) (.int .i64 0) (.slice none 0 0) (.int .i64 0) (.bool false) (.bool false) (.bool false) (.pointer none) (.int .i64 0) (.int .i64 0) (.int .i64 0) (.int .i64 0) (.slice none 0 0) (.int .i64 0) B3.out.1)
  have SF := Lib.hid (put15_new S3.out (.bool false) (.pointer none) (.int .i64 0) (.slice none 0 0) (.int .i64 0) (.bool false) (.bool false) (.bool false) (.pointer none) (.int .i64 0) (.int .i64 0) (.int .i64 0) (.int .i64 0) (.slice none 0 0) (.int .i64 0) HRB.out)
  have RF := Lib.hid (R3.out.stp0 hK T4.out)
  have EF := Lib.hid (E3.out.stp T4.out (by decide))
  clear T4 S3 R3 B3 E3
  go_wp2
  exact bodyPost_ret (v := .tuple #[.agg #[.bool false, .pointer none, .int .i64 0, .slice none 0 0, .int .i64 0, .bool false, .bool false, .bool false, .pointer none, .int .i64 0, .int .i64 0, .int .i64 0, .int .i64 0, .slice none 0 0, .int .i64 0], .iface tt vv]) (by clear SF RF EF HKK HRB; simp [results, Tryz.results8, go_sem, *]) rfl ⟨tt, vv, rfl, c2, SF.out, RF.out, EF.out⟩
end
end Go.Proofs.YtiphdedfbafhkaaGreatDoor

namespace Go.Proofs.YtiphdedfbafhkaaGreatDoor
open Go.RowKit

section
variable {c c' : Nat → Nat} {K : Nat} {w w' : World} {r ar ck tb : Nat} {la : List Int} {now : Int} {tl : List Tm} {l : List One} {D : List RD} {ao : Option Addr} {cap i : Nat} {d : RD}
theorem rshow_none (h : RMs c K w r ar ck tb la now tl l D ao cap) (k at0 hi : Int) (hk : k < 0 ∨ (D.length : Int) ≤ k) :
    Calls Tryz.prog 9 #[.pointer (some ⟨r, 0, none⟩), .int .i64 k, .int .i64 at0, .int .i64 hi] w fun e w' => ∃ ev, e = .returned (.tuple #[.int .i64 0, ev]) ∧ ∃ c', Stp (· = K + 10) c c' w w' ∧ RMs c' K w' r ar ck tb la now tl l D ao cap ∧ ErrAt c' w' ev 3 := by
  have H := Lib.hid h
  have HK := Lib.hid hk
  clear h hk
  go_enter Tryz.func9, Tryz.ntmps9
  go_wp2_with fail
  refine (rat_bad H.out k HK.out).mono ?_
  rintro e w1 ⟨tt, vv, rfl, c1, t1, e1⟩
  have S1 := Lib.hid t1
  have E1 := Lib.hid e1
  clear t1 e1
  go_wp2
  go_ret2
  exact ⟨_, rfl, c1, S1.out.mono (fun _ h => h.elim), H.out.stpF S1.out, E1.out⟩

theorem rshow_back (h : RMs c K w r ar ck tb la now tl l D ao cap) (hd : D[i]? = some d) (at0 hi : Int) (hb : hi < at0) :
    Calls Tryz.prog 9 #[.pointer (some ⟨r, 0, none⟩), .int .i64 (i : Int), .int .i64 at0, .int .i64 hi] w fun e w' => ∃ ev, e = .returned (.tuple #[.int .i64 0, ev]) ∧ ∃ c', Stp (· = K + 10) c c' w w' ∧ RMs c' K w' r ar ck tb la now tl l D ao cap ∧ ErrAt c' w' ev 1 := by
  have H := Lib.hid h
  have HD := Lib.hid hd
  have g0 : decide (hi < at0) = true := by simpa using hb
  clear h hd hb
  go_enter Tryz.func9, Tryz.ntmps9
  go_wp2_with fail
  refine (rat_c H.out HD.out).mono ?_
  rintro e w1 ⟨rfl, hw1⟩
  subst hw1
  have T := Lib.hid ((Stp.refl (fun _ => False) c w).alloc (.cells #[.string ⟨#[115, 104, 111, 119]⟩, .int .i64 at0, .iface 98 (.int .i64 1)] 181) 1)
  go_wp2_with (go_at_call 50; refine (wrap_some _ _ _ _ _).mono ?_; rintro e w' ⟨rfl, rfl⟩)
  go_ret2
  exact ⟨_, rfl, _, T.out.mono (fun _ h => h.elim), H.out.stpF T.out, ErrAt.new _ _ _ _ _⟩

set_option maxRecDepth 100000 in
theorem rshow_sbad (h : RMs c K w r ar ck tb la now tl l D ao cap) (hd : D[i]? = some d) (hm : d.many = false) (hc : d.cur < la.length) (at0 hi : Int) (h0 : at0 ≤ hi) (hb : hi ≤ la.getD d.cur 0 ∨ d.cl < hi) :
    Calls Tryz.prog 9 #[.pointer (some ⟨r, 0, none⟩), .int .i64 (i : Int), .int .i64 at0, .int .i64 hi] w fun e w' => ∃ ev, e = .returned (.tuple #[.int .i64 0, ev]) ∧ ∃ c', Stp (· = K + 10) c c' w w' ∧ RMs c' K w' r ar ck tb la now tl l D ao cap ∧ ErrAt c' w' ev 1 := by
  have H := Lib.hid h
  have HD := Lib.hid hd
  have HS := Lib.hid (snpublish_bad ((h.rg i d hd).sn hm) h.rm.aa (by unfold kb; omega) (by unfold kb; omega) hc hi hb)
  obtain ⟨k0, k2, kl⟩ := h.one hd hm
  have g0 : decide (hi < at0) = false := by simp; omega
  clear h hd hm hc h0 hb
  go_enter Tryz.func9, Tryz.ntmps9
  go_wp2_with fail
  refine (rat_c H.out HD.out).mono ?_
  rintro e w1 ⟨rfl, rfl⟩
  go_wp2_with fail
  refine HS.out.mono ?_
  rintro e w2 ⟨tt, vv, rfl, c2, t2, a2, e2⟩
  have T2 := Lib.hid t2
  have R2 := Lib.hid (H.out.arena t2 a2)
  have E2 := Lib.hid e2
  clear t2 a2 e2 k0 k2 kl HS
  go_wp2
  go_ret2
  exact ⟨_, rfl, c2, T2.out, R2.out, E2.out⟩

set_option maxRecDepth 100000 in
theorem rshow_mbad (h : RMs c K w r ar ck tb la now tl l D ao cap) (hd : D[i]? = some d) (hm : d.many = true) {v : Int} (hc : d.cur < la.length) (hv : la.getD d.cur 0 = v) (at0 hi : Int) (h0 : at0 ≤ hi) (hb : at0 < 0 ∨ v < at0) :
    Calls Tryz.prog 9 #[.pointer (some ⟨r, 0, none⟩), .int .i64 (i : Int), .int .i64 at0, .int .i64 hi] w fun e w' => ∃ ev, e = .returned (.tuple #[.int .i64 0, ev]) ∧ ∃ c', Stp (· = K + 10) c c' w w' ∧ RMs c' K w' r ar ck tb la now tl l D ao cap ∧ ErrAt c' w' ev 1 := by
  have H := Lib.hid h
  have HD := Lib.hid hd
  have HS := Lib.hid (mpublish_bad h.rm.aa ((h.rg i d hd).sq hm) hc hv at0 at0 (by omega))
  obtain ⟨k0, k3, kl⟩ := h.two hd hm
  have g0 : decide (hi < at0) = false := by simp; omega
  clear h hd hm hc h0 hb hv
  go_enter Tryz.func9, Tryz.ntmps9
  go_wp2_with fail
  refine (rat_c H.out HD.out).mono ?_
  rintro e w1 ⟨rfl, rfl⟩
  go_wp2_with fail
  refine HS.out.mono ?_
  rintro e w2 ⟨ev, rfl, c2, t2, a2, -, e2⟩
  obtain ⟨tt, vv, rfl⟩ : ∃ tt vv, ev = .iface tt vv := by
    rcases e2 with h | ⟨_, _, _, h, -⟩
    · exact ⟨_, _, h⟩
    · exact ⟨_, _, h⟩
  have T2 := Lib.hid t2
  have R2 := Lib.hid (H.out.arena t2 a2)
  have E2 := Lib.hid e2
  clear t2 a2 e2 k0 k3 kl HS
  go_wp2
  go_ret2
  exact ⟨_, rfl, c2, T2.out, R2.out, E2.out⟩

theorem rpub_none (h : RMs c K w r ar ck tb la now tl l D ao cap) (k lo : Int) (hk : k < 0 ∨ (D.length : Int) ≤ k) :
    Calls Tryz.prog 33 #[.pointer (some ⟨r, 0, none⟩), .int .i64 k, .int .i64 lo] w fun e w' => ∃ ev, e = .returned (.tuple #[.int .i64 0, ev]) ∧ ∃ c', Stp (· = K + 10) c c' w w' ∧ RMs c' K w' r ar ck tb la now tl l D ao cap ∧ ErrAt c' w' ev 3 := by
  have H := Lib.hid h
  have HK := Lib.hid hk
  clear h hk
  go_enter Tryz.func33, Tryz.ntmps33
  go_wp2_with fail
  refine (rat_bad H.out k HK.out).mono ?_
  rintro e w1 ⟨tt, vv, rfl, c1, t1, e1⟩
  have S1 := Lib.hid t1
  have E1 := Lib.hid e1
  clear t1 e1
  go_wp2
  go_ret2
  exact ⟨_, rfl, c1, S1.out.mono (fun _ h => h.elim), H.out.stpF S1.out, E1.out⟩

theorem rpub_range (h : RMs c K w r ar ck tb la now tl l D ao cap) (hd : D[i]? = some d) (lo : Int) (hb : lo < 0 ∨ 4611686018427387904 < lo) :
    Calls Tryz.prog 33 #[.pointer (some ⟨r, 0, none⟩), .int .i64 (i : Int), .int .i64 lo] w fun e w' => ∃ ev, e = .returned (.tuple #[.int .i64 0, ev]) ∧ ∃ c', Stp (· = K + 10) c c' w w' ∧ RMs c' K w' r ar ck tb la now tl l D ao cap ∧ ErrAt c' w' ev 5 := by
  have H := Lib.hid h
  have HD := Lib.hid hd
  have t : decide (lo < 0) = true ∨ (decide (lo < 0) = false ∧ decide ((4611686018427387904 : Int) < lo) = true) := by
    simp only [decide_eq_true_eq, decide_eq_false_iff_not]; omega
  clear h hd hb
  rcases t with t1 | ⟨t1, t2⟩
  all_goals
    go_enter Tryz.func33, Tryz.ntmps33
    go_wp2_with fail
    refine (rat_c H.out HD.out).mono ?_
    rintro e w1 ⟨rfl, hw1⟩
    subst hw1
    have T := Lib.hid ((Stp.refl (fun _ => False) c w).alloc (.cells #[.string ⟨#[112, 117, 98, 108, 105, 115, 104, 101, 100]⟩, .int .i64 lo, .iface 98 (.int .i64 5)] 181) 1)
    go_wp2_with (go_at_call 50; refine (wrap_some _ _ _ _ _).mono ?_; rintro e w' ⟨rfl, rfl⟩)
    go_ret2
    exact ⟨_, rfl, _, T.out.mono (fun _ h => h.elim), H.out.stpF T.out, ErrAt.new _ _ _ _ _⟩

set_option maxRecDepth 100000 in
theorem rpub_slow (h : RMs c K w r ar ck tb la now tl l D ao cap) (hd : D[i]? = some d) (hm : d.many = false) (hc : d.cur < la.length) (lo : Int) (h0 : 0 ≤ lo) (h1 : lo ≤ 4611686018427387904) (h2 : la.getD d.cur 0 < lo - 1) :
    Calls Tryz.prog 33 #[.pointer (some ⟨r, 0, none⟩), .int .i64 (i : Int), .int .i64 lo] w fun e w' => e = .returned (.tuple #[.int .i64 (lo - 1), .nilIface]) ∧ ∃ c', Stp (· = K + 10) c c' w w' ∧ RMs c' K w' r ar ck tb la now tl l D ao cap := by
  have H := Lib.hid h
  have HD := Lib.hid hd
  have HS := Lib.hid (snpublished_c ((h.rg i d hd).sn hm) h.rm.aa (by unfold kb; omega) (by unfold kb; omega) hc)
  obtain ⟨k0, k2, kl⟩ := h.one hd hm
  obtain ⟨v, hv⟩ : ∃ v, la.getD d.cur 0 = v := ⟨_, rfl⟩
  rw [hv] at HS h2
  have g0 : decide (lo < 0) = false := by simp; omega
  have g1 : decide ((4611686018427387904 : Int) < lo) = false := by simp; omega
  have v1 : wrap64 (lo - 1) = lo - 1 := IntWalk.wrap64_in _ (by constructor <;> omega)
  have v2 : IntKind.i64.wrap (lo - 1) = lo - 1 := (IntWalk.i64_left _).trans v1
  have hmax : max v (lo - 1) = lo - 1 := by omega
  have g2 : decide (v < lo - 1) = true := by simp; omega
  clear h hd hm hc h0 h1 hv h2
  go_enter Tryz.func33, Tryz.ntmps33
  go_wp2_with fail
  refine (rat_c H.out HD.out).mono ?_
  rintro e w1 ⟨rfl, rfl⟩
  go_wp2_with fail
  refine HS.out.mono ?_
  rintro e w2 ⟨rfl, c2, t2, a2, -⟩
  have T2 := Lib.hid t2
  have R2 := Lib.hid (H.out.arena t2 a2)
  clear t2 a2 k0 k2 kl HS
  go_wp2
  all_goals
    first
      | (go_ret2; exact ⟨rfl, c2, T2.out, R2.out⟩)
      | (exfalso; simp at *; omega)
      | (exfalso; omega)
end
end Go.Proofs.YtiphdedfbafhkaaGreatDoor
