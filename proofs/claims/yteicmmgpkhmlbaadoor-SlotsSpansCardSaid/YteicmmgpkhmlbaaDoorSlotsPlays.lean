/- The walk of the law SlotsPlays. No condition but that the table of math/bits holds what the program lays there. -/
import Derived.Test.YteicmmgpkhmlbaaDoorSlots3
namespace Go.Proofs.YteicmmgpkhmlbaaDoor
open Go.RowKit Go.ChangeShapes Go.WideShapes Go.Deep Go.Joins

theorem slotOf_same {sh : Nat} (hsh : sh < 21) {a b : Int} (h : slotOf sh a = slotOf sh b) : a % 2 ^ sh = b % 2 ^ sh := by
  rw [← (slotOf_lt sh a hsh).2, ← (slotOf_lt sh b hsh).2, h]

def RingIs (ring : List Ev) (put : List PutE) (sh : Nat) : Prop := ∀ seq : Int, ring[slotOf sh seq]? = some (getOf put (2 ^ sh) seq)

theorem RingIs.put {ring : List Ev} {put : List PutE} {sh : Nat} (hsh : sh < 21) (hl : ring.length = 2 ^ sh) (h : RingIs ring put sh) (k : PutE) : RingIs (ring.set (slotOf sh k.seq) k.x) (put ++ [k]) sh := by
  intro seq
  rw [getOf_snoc]
  have hj := (slotOf_lt sh k.seq hsh).1
  by_cases he : slotOf sh k.seq = slotOf sh seq
  · rw [if_pos (slotOf_same hsh he), he, List.getElem?_set_self (by omega)]
  · rw [if_neg (fun e => he (by unfold slotOf; rw [e])), List.getElem?_set_ne he, h seq]

structure SlInv (w0 : World) (p sh : Nat) (c : Nat → Nat) (wr : World) (ring : List Ev) (put : List PutE) (ao : Option Addr) (cap : Nat) : Prop where
  st : Stp (2 ≤ ·) (fun _ => 0) c w0 wr
  rg : RingAt c 2 wr p sh ring
  row : Row c 4 wr 54 3 ao put.length cap (put.flatMap PutE.cells)
  is : RingIs ring put sh
  pos : ∀ x ∈ put, 0 ≤ x.seq

theorem SlInv.stp {w0 : World} {p sh : Nat} {c c' : Nat → Nat} {wr w' : World} {ring : List Ev} {put : List PutE} {ao : Option Addr} {cap : Nat} (h : SlInv w0 p sh c wr ring put ao cap) (s : Stp (fun _ => False) c c' wr w') : SlInv w0 p sh c' w' ring put ao cap :=
  ⟨h.st.trans (s.mono (fun _ h => h.elim)), h.rg.stp s id, h.row.stp s id, h.is, h.pos⟩
theorem SlInv.clone {w0 : World} {p sh : Nat} {c c' : Nat → Nat} {wr w' : World} {ring : List Ev} {put : List PutE} {ao : Option Addr} {cap : Nat} (h : SlInv w0 p sh c wr ring put ao cap) (s : Stp (· = 3) c c' wr w') : SlInv w0 p sh c' w' ring put ao cap :=
  ⟨h.st.trans (s.up (by decide)), h.rg.stp s (by decide), h.row.stp s (by decide), h.is, h.pos⟩

theorem Tryd.infoPut : (Tryd.prog.info? 54).map (fun i => (i.zero, i.size, i.bytes)) = some (some (.agg #[.int .i64 0, .int .i64 0, .int .i64 0]), 3, 24) := by kernel_rfl

def PutsRel (w0 : World) (p sh n : Nat) (v i : Value) (wr : World) : Prop :=
  ∃ (c : Nat → Nat) (ring : List Ev) (put : List PutE) (ao : Option Addr) (cap j : Nat), v = .slice ao put.length cap ∧ i = .int .i64 j ∧ j ≤ n ∧ put.length ≤ j ∧ SlInv w0 p sh c wr ring put ao cap

/-- What holds through the comparison of a slot's event: the clone is a ring still, nothing else has turned. -/
def Held (c : Nat → Nat) (wb : World) (pc sh : Nat) (w' : World) : Prop := ∃ (c' : Nat → Nat) (lc : List Ev), Stp (· = 3) c c' wb w' ∧ RingAt c' 3 w' pc sh lc
theorem Held.drew {c : Nat → Nat} {wb w' : World} {pc sh : Nat} (h : Held c wb pc sh w') : Held c wb pc sh w'.drew := by
  obtain ⟨c', lc, s, r⟩ := h
  exact ⟨c', lc, s.drew, r⟩
theorem Held.below {c : Nat → Nat} {wb w' w2 : World} {pc sh : Nat} (h : Held c wb pc sh w') (hb : Below w'.heap.size w' w2) : Held c wb pc sh w2 := by
  obtain ⟨c', lc, s, r⟩ := h
  have s2 := Stp.ofBelow (c := c') hb 0
  exact ⟨_, lc, s.trans (s2.mono (fun _ h => h.elim)), r.stp s2 id⟩

def GetsRel (w0 : World) (p pc sh m : Nat) (ring : List Ev) (put : List PutE) (ao : Option Addr) (cap : Nat) (i : Value) (wr : World) : Prop :=
  ∃ (c : Nat → Nat) (lc : List Ev) (j : Nat), i = .int .i64 j ∧ j ≤ m ∧ SlInv w0 p sh c wr ring put ao cap ∧ RingAt c 3 wr pc sh lc

set_option maxRecDepth 100000 in
set_option maxHeartbeats 4000000 in
theorem slplays_in {w : World} (s sh : Nat) (ao bo : Option Addr) (n cap m bcap : Nat) (l : List PutE) (sq : List Int) (hs : s % 8 = sh)
    (hl : In (fun _ => 0) 0 w 3 ao n cap (l.flatMap PutE.cells)) (hlen : l.length = n) (hn : n ≤ 60)
    (hq : In (fun _ => 0) 0 w 1 bo m bcap (sq.map (Value.int .i64))) (hm : m ≤ 20) (ht : Tab w) :
    Calls Tryd.prog 6 #[.int .u8 s, .slice ao n cap, .slice bo m bcap] w fun e w' => e = .returned (.bool true) ∧ Below w.heap.size w w' := by
  have hsh : sh < 8 := by omega
  have hw := wrap_two_pow sh (by omega)
  have hbd := two_pow_bd sh (by omega)
  have b1 := hbd.1
  have b2 : (2 : Int) ^ sh ≤ 128 := by
    have : 2 ^ sh ≤ 2 ^ 7 := Nat.pow_le_pow_right (by decide) (by omega)
    have := two_pow_cast sh
    omega
  have Ht := Lib.hid ht
  have hN : wrap64 (2 ^ (s % 8)) = 2 ^ sh := by rw [hs, hw]
  have Hl := Lib.hid hl
  have Hq := Lib.hid hq
  have Hlen := Lib.hid hlen
  have g1 : decide ((60 : Int) < (n : Int)) = false := by simp; omega
  have g2 : decide ((20 : Int) < (m : Int)) = false := by simp; omega
  have hnew := slnew_n (fun _ => 0) 2 sh (2 ^ sh) (by omega) rfl w ht
  rw [two_pow_cast] at hnew
  have Hnew := Lib.hid hnew
  clear hs ht hw hbd hl hq hlen hnew
  go_enter Tryd.func6, Tryd.ntmps6
  go_wp2_with fail
  try simp only [hN]
  refine Hnew.out.mono ?_
  rintro e w1 ⟨p, rfl, c1, s1, h1⟩
  have S1 := Lib.hid (s1.mono (J' := (2 ≤ ·)) (fun _ h => h.elim))
  have H1 := Lib.hid h1
  clear s1 h1 Hnew
  go_wp2_with fail
  refine (slsize_any H1.out).mono ?_
  rintro e w2 ⟨rfl, b2'⟩
  have st2 := Stp.ofBelow (c := c1) b2' 0
  have S2 := Lib.hid (S1.out.trans (st2.mono (fun _ h => h.elim)))
  have H2 := Lib.hid (H1.out.stp st2 id)
  clear st2 b2' S1 H1
  go_wp2_with fail
  refine (slots_k sh (by omega) _).mono ?_
  rintro e w3 ⟨rfl, rfl⟩
  have I3 := Lib.hid (show SlInv w p sh _ _ (List.replicate (2 ^ sh) ⟨0, 0⟩) [] none 0 from ⟨S2.out.alloc (.cells #[.int .i64 sh] 24) 0, H2.out.stp ((Stp.refl (fun _ => False) _ w2).alloc (.cells #[.int .i64 sh] 24) 0) id, Row.nil _ _ _ _ _, fun seq => by
    have := (slotOf_lt sh seq (by omega)).1
    simp [getOf, this], by simp⟩)
  clear S2 H2
  go_wp2
  try simp only [hN]
  go_loopw [10, 52] (fun v i wr => PutsRel w p sh n v i wr) (fun _ i _ => n - (intOf i).toNat)
  case atStart => exact ⟨_, _, [], none, 0, 0, rfl, rfl, Nat.zero_le _, Nat.le_refl _, I3.out⟩
  case round =>
    obtain ⟨c, ring, put, ao2, cap2, i, rfl, rfl, hi, hpl, hinv⟩ := hrel
    have I := Lib.hid hinv
    clear hinv I3
    by_cases hlt : i < n
    · have hil : i < l.length := by rw [Hlen.out]; exact hlt
      obtain ⟨x, hx⟩ : ∃ x, l[i]? = some x := ⟨_, List.getElem?_eq_getElem hil⟩
      have hInr := Hl.out.stp I.out.st (by decide)
      obtain ⟨a, ha, y0⟩ := hInr.field PutE.len hx (f := 0) (v := .int .i64 x.seq) rfl
      obtain ⟨a1, ha1, y1⟩ := hInr.field PutE.len hx (f := 1) (v := .int .i64 x.x.key) rfl
      obtain ⟨a2, ha2, y2⟩ := hInr.field PutE.len hx (f := 2) (v := .int .i64 x.x.val) rfl
      subst ha
      cases ha1
      cases ha2
      have y1' : wr.cell? ⟨(a.add (i * 3)).block, (a.add (i * 3)).off + 1, none⟩ = some (.int .i64 x.x.key) := by rw [← add_add'] at y1; exact y1
      have y2' : wr.cell? ⟨(a.add (i * 3)).block, (a.add (i * 3)).off + 2, none⟩ = some (.int .i64 x.x.val) := by rw [← add_add'] at y2; exact y2
      rw [Nat.add_zero] at y0
      clear hInr hx y1 y2 hil
      obtain ⟨c5, hc5, A5⟩ := ((Stp.refl (fun _ => False) c wr).alloc (.cells #[.int .i64 x.seq, .int .i64 x.x.key, .int .i64 x.x.val] 54) 0).name
      have I5 := Lib.hid (I.out.stp A5.out)
      have X5 := Lib.hid (show Blk c5 0 _ wr.heap.size x.cells 54 by rw [hc5.out]; exact Blk.new c 0 wr x.cells 54)
      clear hc5 A5
      by_cases hbad : x.seq < 0 ∨ 4611686018427387904 < x.seq
      · have Hbad := Lib.hid hbad
        clear hbad
        rcases (show decide (x.seq < 0) = true ∨ (decide (x.seq < 0) = false ∧ decide ((4611686018427387904 : Int) < x.seq) = true) by
          rcases Hbad.out with h | h
          · exact .inl (by simpa using h)
          · exact .inr ⟨by simp; omega, by simpa using h⟩) with t1 | ⟨t1, t2⟩
        all_goals
          go_wp2_with fail
          refine (slput_bad c5 p x.seq _ _ Hbad.out).mono ?_
          rintro e w6 ⟨ev, rfl, c6, s6, e6⟩
          have I6 := Lib.hid (I5.out.stp s6)
          have E6 := Lib.hid (e6.err (by decide))
          clear s6 e6
          go_wp2_with (go_at_call 23; refine (lawis E6.out _).mono ?_; rintro e w' ⟨rfl, rfl⟩)
          go_roundw
          case rel => exact ⟨c6, ring, put, ao2, cap2, i + 1, rfl, by go_num, by omega, by omega, I6.out⟩
          case measure => simp [intOf]; omega
      · have k0 : 0 ≤ x.seq := by omega
        have k1 : x.seq ≤ 4611686018427387904 := by omega
        have t1 : decide (x.seq < 0) = false := by simp; omega
        have t2 : decide ((4611686018427387904 : Int) < x.seq) = false := by simp; omega
        clear hbad
        go_wp2_with (at_builtin; refine wpList_append_row _ rfl (.tmp 72) (.tmp 74) 45 rfl _ 4 54 (.agg #[.int .i64 0, .int .i64 0, .int .i64 0]) 3 24 Tryd.underlying45 Tryd.infoPut rfl ao2 put.length cap2 (put.flatMap PutE.cells) rfl (I5.out.row.alloc _ 4) (.slice (some ⟨wr.heap.size + 1, 0, none⟩) 1 1) 1 [.int .i64 x.seq, .int .i64 x.x.key, .int .i64 x.x.val] rfl (Src.newAt (cs := [.int .i64 x.seq, .int .i64 x.x.key, .int .i64 x.x.val]) (by simp) rfl) ?d1 ?d2 ?d3 ?_)
        case d1 => simp [Value.oneCell']
        case d2 => unfold maxLen; omega
        case d3 => omega
        intro ao3 cap3 w7 hr7 st7 ot7
        obtain ⟨c7, hc7, S7⟩ := ((Stp.allocG (n := wr.heap.size + 1) (j := 4) (Stp.refl (· = 4) c5 (wr.alloc (.cells #[.int .i64 x.seq, .int .i64 x.x.key, .int .i64 x.x.val] 54))) (by simp)).trans st7).name
        rw [← hc7.out] at hr7
        have R7 := Lib.hid hr7
        have G7 := Lib.hid (I5.out.rg.stp S7.out (by decide))
        have T7 := Lib.hid (I5.out.st.trans (S7.out.up (by decide)))
        have x7 := X5.out.stp S7.out (by decide)
        have d0 := x7.cell 0
        have d1 := x7.cell 1
        have d2 := x7.cell 2
        simp [PutE.cells] at d0 d1 d2
        have Is := Lib.hid I5.out.is
        have Pos := Lib.hid I5.out.pos
        have Rl := Lib.hid I5.out.rg.2.1
        clear hr7 st7 ot7 hc7 S7 x7 I5 X5
        go_wp2_with fail
        refine (slput_ok G7.out x.seq x.x k0 k1).mono ?_
        rintro e w8 ⟨rfl, c8, s8, g8⟩
        have I8 := Lib.hid (show SlInv w p sh c8 w8 (ring.set (slotOf sh x.seq) x.x) (put ++ [x]) ao3 cap3 from ⟨T7.out.trans (s8.up (by decide)), g8, by
          have := R7.out.stp s8 (by decide)
          simpa [PutE.cells] using this, Is.out.put (by omega) Rl.out x, fun z hz => by
          rcases List.mem_append.1 hz with hz | hz
          · exact Pos.out z hz
          · simp at hz; subst hz; exact k0⟩)
        clear s8 g8 T7 G7 R7
        go_wp2
        go_roundw
        case rel => exact ⟨c8, _, put ++ [x], ao3, cap3, i + 1, by simp, by go_num, by omega, by simp; omega, I8.out⟩
        case measure => simp [intOf]; omega
    · have t0 : decide ((i : Int) < (n : Int)) = false := by simp; omega
      clear hi hpl
      go_wp2_with fail
      refine (slclone_ok I.out.rg 3).mono ?_
      rintro e w5 ⟨pc, rfl, c5, s5, k5⟩
      have I5 := Lib.hid (I.out.stp s5)
      have K5 := Lib.hid k5
      clear s5 k5 I hlt t0
      go_wp2
      go_loopw [88] (fun i wr => GetsRel w p pc sh m ring put ao2 cap2 i wr) (fun i _ => m - (intOf i).toNat)
      case atStart => exact ⟨c5, _, 0, rfl, Nat.zero_le _, I5.out, K5.out⟩
      case round =>
        obtain ⟨c6, lc, j, rfl, hj, hinv, hrc⟩ := hrel
        have I6 := Lib.hid hinv
        have K6 := Lib.hid hrc
        clear hinv hrc I5 K5
        by_cases hlt : j < m
        · obtain ⟨b, hb, y0⟩ := (Hq.out.stp I6.out.st (by decide)).ints hlt
          subst hb
          generalize sq.getD j 0 = k at *
          by_cases hbad : k < 0 ∨ 4611686018427387904 < k
          · have Hbad := Lib.hid hbad
            clear hbad
            go_wp2_with fail
            refine (slget_bad c6 p k Hbad.out).mono ?_
            rintro e w7 ⟨ev, rfl, c7, s7, e7⟩
            obtain ⟨c8, hc8, A8⟩ := ((Stp.refl (fun _ => False) c7 w7).alloc (.cells #[.int .i64 0, .int .i64 0] 52) 0).name
            have I8 := Lib.hid ((I6.out.stp s7).stp A8.out)
            have K8 := Lib.hid ((K6.out.stp s7 id).stp A8.out id)
            have E8 := Lib.hid ((e7.stp A8.out id).err (by decide))
            clear s7 e7 hc8 A8
            rcases (show decide (k < 0) = true ∨ (decide (k < 0) = false ∧ decide ((4611686018427387904 : Int) < k) = true) by
              rcases Hbad.out with h | h
              · exact .inl (by simpa using h)
              · exact .inr ⟨by simp; omega, by simpa using h⟩) with t1 | ⟨t1, t2⟩
            all_goals
              go_wp2_with (go_at_call 23; refine (lawis E8.out _).mono ?_; rintro e w' ⟨rfl, rfl⟩)
              go_roundw
              case rel => exact ⟨c8, lc, j + 1, by go_num, by omega, I8.out, K8.out⟩
              case measure => simp [intOf]; omega
          · have k0 : 0 ≤ k := by omega
            have k1 : k ≤ 4611686018427387904 := by omega
            have t1 : decide (k < 0) = false := by simp; omega
            have t2 : decide ((4611686018427387904 : Int) < k) = false := by simp; omega
            clear hbad
            go_wp2_with fail
            refine (slget_ok I6.out.rg k k0 k1).mono ?_
            rintro e w7 ⟨x, hx, rfl, b7⟩
            have hxe : getOf put (2 ^ sh) k = x := by
              have := I6.out.is k
              rw [this] at hx
              exact Option.some.inj hx
            have Hxe := Lib.hid hxe
            have s7 := Stp.ofBelow (c := c6) b7 0
            obtain ⟨c8, hc8, A8⟩ := ((Stp.refl (fun _ => False) (paint c6 wr.heap.size 0) w7).alloc (.cells #[.int .i64 x.key, .int .i64 x.val] 52) 0).name
            have I8 := Lib.hid ((I6.out.stp s7).stp A8.out)
            have K8 := Lib.hid ((K6.out.stp s7 id).stp A8.out id)
            have X8 := Lib.hid (show Blk c8 0 _ w7.heap.size [.int .i64 x.key, .int .i64 x.val] 52 by rw [hc8.out]; exact Blk.new _ 0 w7 _ _)
            clear hx hxe s7 b7 hc8 A8
            obtain ⟨wb, hwb⟩ : ∃ wb : World, wb = w7.alloc (.cells #[.int .i64 x.key, .int .i64 x.val] 52) := ⟨_, rfl⟩
            rw [← hwb] at I8 K8 X8
            have key1 : ∀ w' : World, Held c8 wb pc sh w' → Calls Tryd.prog 34 #[.slice ao2 put.length cap2, .int .i64 (2 ^ sh), .int .i64 k] w' (fun e w'' => e = .returned (.agg #[.int .i64 x.key, .int .i64 x.val]) ∧ w''.cell? ⟨w7.heap.size, 0, none⟩ = some (.int .i64 x.key) ∧ w''.cell? ⟨w7.heap.size, 1, none⟩ = some (.int .i64 x.val) ∧ Held c8 wb pc sh w'') := fun w' hh => by
              have hh' := hh
              obtain ⟨c', lc', s, r⟩ := hh
              refine (r06get_any (I8.out.row.stp s (by decide)).toIn (2 ^ sh) k I8.out.pos k0 b1).mono ?_
              rintro e w'' ⟨he, hb⟩
              have bx := (X8.out.stp s (by decide)).stp (Stp.ofBelow (c := c') hb 0) id
              rw [Hxe.out] at he
              exact ⟨he, by simpa using bx.cell 0, by simpa using bx.cell 1, hh'.below hb⟩
            have key2 : ∀ w' : World, Held c8 wb pc sh w' → Calls Tryd.prog 31 #[.pointer (some ⟨pc, 0, none⟩), .int .i64 k, .agg #[.int .i64 77, .int .i64 0]] w' (fun e w'' => e = .returned .nilIface ∧ w''.cell? ⟨w7.heap.size, 0, none⟩ = some (.int .i64 x.key) ∧ w''.cell? ⟨w7.heap.size, 1, none⟩ = some (.int .i64 x.val) ∧ Held c8 wb pc sh w'') := fun w' hh => by
              obtain ⟨c', lc', s, r⟩ := hh
              refine (slput_ok r k ⟨77, 0⟩ k0 k1).mono ?_
              rintro e w'' ⟨he, c'', s2, r2⟩
              have bx := (X8.out.stp s (by decide)).stp s2 (by decide)
              exact ⟨he, by simpa using bx.cell 0, by simpa using bx.cell 1, c'', _, s.trans s2, r2⟩
            have key3 : ∀ w' : World, Held c8 wb pc sh w' → Calls Tryd.prog 33 #[.pointer (some ⟨p, 0, none⟩), .int .i64 k] w' (fun e w'' => e = .returned (.tuple #[.agg #[.int .i64 x.key, .int .i64 x.val], .nilIface]) ∧ w''.cell? ⟨w7.heap.size, 0, none⟩ = some (.int .i64 x.key) ∧ w''.cell? ⟨w7.heap.size, 1, none⟩ = some (.int .i64 x.val) ∧ w7.heap.size < w''.heap.size ∧ Held c8 wb pc sh w'') := fun w' hh => by
              have hh' := hh
              obtain ⟨c', lc', s, r⟩ := hh
              refine (slget_ok (I8.out.rg.stp s (by decide)) k k0 k1).mono ?_
              rintro e w'' ⟨x2, hx2, he, hb⟩
              obtain rfl : x = x2 := by
                have := I8.out.is k
                rw [this, Hxe.out] at hx2
                exact Option.some.inj hx2
              have bx := (X8.out.stp s (by decide)).stp (Stp.ofBelow (c := c') hb 0) id
              exact ⟨he, by simpa using bx.cell 0, by simpa using bx.cell 1, bx.lt, hh'.below hb⟩
            have Key3 := Lib.hid key3
            have Key1 := Lib.hid key1
            have Key2 := Lib.hid key2
            have d0 : wb.cell? ⟨w7.heap.size, 0, none⟩ = some (.int .i64 x.key) := by simpa using X8.out.cell 0
            have d1 : wb.cell? ⟨w7.heap.size, 1, none⟩ = some (.int .i64 x.val) := by simpa using X8.out.cell 1
            have hh : Held c8 wb pc sh wb := ⟨c8, lc, Stp.refl _ _ _, K8.out⟩
            clear key1 key2 key3 X8 K8 Hxe
            go_wp2
            rw [← hwb]
            clear hwb
            go_region_held3 (fun w' => w'.cell? ⟨w7.heap.size, 0, none⟩ = some (.int .i64 x.key) ∧ w'.cell? ⟨w7.heap.size, 1, none⟩ = some (.int .i64 x.val) ∧ Held c8 wb pc sh w')
              (first | assumption | (exact ⟨by assumption, by assumption, by assumption⟩) | (exact ⟨by assumption, by assumption, Held.drew (by assumption)⟩) | go_keep)
              (first
                | (go_at_call 34; refine (Key1.out _ (by first | assumption | exact Held.drew (by assumption))).mono ?_; rintro e w2 ⟨rfl, k0, k1, hh2⟩)
                | (go_at_call 31; refine (Key2.out _ (by first | assumption | exact Held.drew (by assumption))).mono ?_; rintro e w2 ⟨rfl, k0, k1, hh2⟩))
            go_wp2_with fail
            refine (Key3.out _ (by assumption)).mono ?_
            rintro e w9 ⟨rfl, q0, q1, q2, hH⟩
            have HH := Lib.hid hH
            clear hH Key1 Key2 Key3
            go_wp2
            go_roundw
            case rel =>
              obtain ⟨c', lc', s', r'⟩ := HH.out
              have A9 := (Stp.refl (fun _ => False) c' w9).alloc (.cells #[.int .i64 x.key, .int .i64 x.val] 52) 0
              exact ⟨_, lc', j + 1, by go_num, by omega, (I8.out.clone s').stp A9, r'.stp A9 id⟩
            case measure => simp [intOf]; omega
        · have t0 : decide ((j : Int) < (m : Int)) = false := by simp; omega
          go_wp2_with fail
          refine (awake6 c6 _ (Ht.out.stp I6.out.st (by decide))).mono ?_
          rintro e w9 ⟨rfl, c9, s9⟩
          have S9 := Lib.hid (I6.out.st.trans s9)
          clear s9
          go_wp2
          go_ret
          exact ⟨rfl, S9.out.fin⟩

set_option maxRecDepth 100000 in
theorem slplays_out {w : World} (s : Nat) (ao bo : Option Addr) (n cap m bcap : Nat) (h : 60 < n ∨ 20 < m) (ht : Tab w) :
    Calls Tryd.prog 6 #[.int .u8 s, .slice ao n cap, .slice bo m bcap] w fun e w' => e = .returned (.bool true) ∧ Below w.heap.size w w' := by
  have Ht := Lib.hid ht
  clear ht
  rcases (show decide ((60 : Int) < (n : Int)) = true ∨ (decide ((60 : Int) < (n : Int)) = false ∧ decide ((20 : Int) < (m : Int)) = true) by
    by_cases h1 : 60 < n
    · exact .inl (by simp; omega)
    · exact .inr ⟨by simp; omega, by simp; omega⟩) with t1 | ⟨t1, t2⟩
  all_goals
    clear h
    go_enter Tryd.func6, Tryd.ntmps6
    go_wp2_with fail
    refine (awake6 (fun _ => 0) _ Ht.out).mono ?_
    rintro e w2 ⟨rfl, c2, s2⟩
    have S2 := Lib.hid s2
    clear s2
    go_wp2
    go_ret
    exact ⟨rfl, S2.out.fin⟩

theorem Tryd.undEvent : Tryd.prog.cellsOf 52 = 2 := by kernel_rfl

set_option maxRecDepth 100000 in
theorem dec_put {H : Type} {enc : TypeId × Value → H} {w : World} {base : Nat} {spare : Nat → Bool} {held : Bool} (n : Nat) (cs : List Value) (y : DataW H × List MemPlace) (h : DataW.trod enc Tryd.prog w base spare held n 54 cs = some y) : ∃ x : PutE, cs = x.cells ∧ True := by
  obtain ⟨ys, n', _, _, hlen, hyl, hf⟩ := DataW.trod_struct Tryd.underlying54 h
  have h0 := hf 0 _ rfl
  have h1 := hf 1 _ rfl
  have k0 : Tryd.prog.cellsOf 2 = 1 := by kernel_rfl
  have k3 : Tryd.prog.cellsOf 54 = 3 := by kernel_rfl
  rw [k3] at hlen
  match cs, hlen with
  | [a, b, c], _ =>
    have hy : ys.length = 2 := hyl
    rw [List.getElem?_eq_getElem (show 0 < ys.length by omega)] at h0
    rw [List.getElem?_eq_getElem (show 1 < ys.length by omega)] at h1
    have h0' : DataW.trod enc Tryd.prog w base spare held n' 2 [a] = some (ys[0]'(by omega)) := by
      have : ([a, b, c].drop 0).take (Tryd.prog.cellsOf 2) = [a] := by rw [k0]; rfl
      rw [← this]; exact h0
    have h1' : DataW.trod enc Tryd.prog w base spare held n' 52 [b, c] = some (ys[1]'(by omega)) := by
      have : ([a, b, c].drop 1).take (Tryd.prog.cellsOf 52) = [b, c] := by rw [Tryd.undEvent]; rfl
      rw [← this]; exact h1
    obtain ⟨x0, e0, _, _⟩ := DataW.trod_int Tryd.underlying2 h0'
    obtain ⟨_, n2, hg⟩ := dec_fields Tryd.underlying52 (by kernel_rfl) (by kernel_rfl) h1'
    obtain ⟨v0, z0, c0, t0⟩ := hg 0 _ rfl
    obtain ⟨v1, z1, c1, t1⟩ := hg 1 _ rfl
    obtain ⟨x1, e1, _, _⟩ := DataW.trod_int Tryd.underlying2 t0
    obtain ⟨x2, e2, _, _⟩ := DataW.trod_int Tryd.underlying2 t1
    simp at e0 e1 e2 c0 c1
    subst e0 e1 e2 c0 c1
    exact ⟨⟨x0, ⟨x1, x2⟩⟩, rfl, trivial⟩

set_option maxRecDepth 100000 in
theorem slplays_walk {w : World} (s : Int) (ao bo : Option Addr) (n cap m bcap : Nat) (l : List PutE) (sq : List Int) (hs : 0 ≤ s ∧ s ≤ 255)
    (hl : In (fun _ => 0) 0 w 3 ao n cap (l.flatMap PutE.cells)) (hlen : l.length = n) (hq : In (fun _ => 0) 0 w 1 bo m bcap (sq.map (Value.int .i64))) (ht : Tab w) :
    Calls Tryd.prog 6 #[.int .u8 s, .slice ao n cap, .slice bo m bcap] w fun e w' => e = .returned (.bool true) ∧ Below w.heap.size w w' := by
  obtain ⟨s, rfl⟩ := Int.eq_ofNat_of_zero_le hs.1
  by_cases h : 60 < n ∨ 20 < m
  · exact slplays_out s ao bo n cap m bcap h ht
  · exact slplays_in s (s % 8) ao bo n cap m bcap l sq rfl hl hlen (by omega) hq (by omega) ht
end Go.Proofs.YteicmmgpkhmlbaaDoor
