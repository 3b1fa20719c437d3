/- The walk of the law ClockPlays. No condition. -/
import Derived.Test.YtmhhhiegioniaaaClock11
import Derived.Test.YtmhhhiegioniaaaClock12
import Derived.Test.YtmhhhiegioniaaaClockOnce
import Derived.Deep.DeepCutAuto
import Derived.Deep.CutBlock
namespace Go.Proofs.Ytmhhhiegioniaaa
open Go.RowKit Go.ChangeShapes Go.WideShapes Go.Deep Go.Joins

structure Op4 where
  kd : Int
  at_ : Int
  who : Int
def Op4.cells (x : Op4) : List Value := [.int .i64 x.kd, .int .i64 x.at_, .int .i64 x.who]
theorem Op4.len (x : Op4) : x.cells.length = 3 := rfl

theorem lawis_true8 {c : Nat → Nat} {w : World} {v : Value} {m : Int} (h : Err c w v m) :
    Calls Try.prog 49 #[v, .int .i64 m] w fun e w' => e = .returned (.bool true) ∧ w = w' :=
  (lawis h m).mono fun _ _ ⟨he, hw⟩ => ⟨by simpa using he, hw⟩

/-- The clock and the document's clock hold the same. -/
structure KPInv (w0 : World) (p q : Nat) (c : Nat → Nat) (wr : World) (now : Int) (M : List Tm) (n : Nat) (ao : Option Addr) (cap K : Nat) : Prop where
  st : Stp (2 ≤ ·) (fun _ => 0) c w0 wr
  ck : ClockAt c 2 wr p now (srt M)
  mb : Blk c 4 wr q [.int .i64 now, .slice ao n cap] 105
  row : In c K wr 2 ao n cap (M.flatMap Tm.cells)
  hK : K = 6 ∨ K = 8
  len : M.length = n
  le : n ≤ 64
  n0 : 0 ≤ now
  n1 : now ≤ 1099511627776

theorem KPInv.stp {J : Nat → Prop} {w0 : World} {p q : Nat} {c c' : Nat → Nat} {wr w' : World} {now : Int} {M : List Tm} {n : Nat} {ao : Option Addr} {cap K : Nat} (h : KPInv w0 p q c wr now M n ao cap K) (s : Stp J c c' wr w') (hJ : ∀ k, J k → 10 ≤ k) : KPInv w0 p q c' w' now M n ao cap K :=
  ⟨h.st.trans (s.mono (fun k hk => Nat.le_trans (by decide) (hJ k hk))), h.ck.stp s (fun h => by have := hJ _ h; omega) (fun h => by have := hJ _ h; omega), h.mb.stp s (fun h => by have := hJ _ h; omega), h.row.stp s (fun hh => by have := hJ _ hh; have := h.hK; omega), h.hK, h.len, h.le, h.n0, h.n1⟩

theorem KPInv.put {w0 : World} {p q : Nat} {c : Nat → Nat} {wr : World} {now now' : Int} {M' : List Tm} {n n' : Nat} {ao ao' : Option Addr} {cap cap' K' : Nat} (st : Stp (2 ≤ ·) (fun _ => 0) c w0 wr) (ck : ClockAt c 2 wr p now' (srt M'))
    (mb : Blk c 4 wr q [.int .i64 now, .slice ao n cap] 105) (row : In c K' wr 2 ao' n' cap' (M'.flatMap Tm.cells)) (hK : K' = 6 ∨ K' = 8) (len : M'.length = n') (le : n' ≤ 64) (n0 : 0 ≤ now') (n1 : now' ≤ 1099511627776) :
    KPInv w0 p q c ((wr.setCell ⟨q, 0, none⟩ (.int .i64 now')).setCell ⟨q, 1, none⟩ (.slice ao' n' cap')) now' M' n' ao' cap' K' := by
  have s2 := ((Stp.refl (· = 4) c wr).setCell (p := ⟨q, 0, none⟩) (.int .i64 now') mb.1).setCell (p := ⟨q, 1, none⟩) (.slice ao' n' cap') mb.1
  refine ⟨st.trans (s2.mono (fun k hk => by omega)), ck.stp s2 (by decide) (by decide), ?_, row.stp s2 (by omega), hK, len, le, n0, n1⟩
  simpa using (mb.set 0 (.int .i64 now')).set 1 (.slice ao' n' cap')

theorem set_why {now at_ who : Int} {mn : Nat} (hv : ¬ (now < at_ ∧ at_ ≤ 1099511627776 ∧ 0 ≤ who ∧ who < 64 ∧ mn < 64)) :
    ∃ er : Int, (((at_ ≤ now ∨ 1099511627776 < at_) ∧ er = 5) ∨ ((now < at_ ∧ at_ ≤ 1099511627776) ∧ (who < 0 ∨ 64 ≤ who) ∧ er = 1) ∨ ((now < at_ ∧ at_ ≤ 1099511627776) ∧ (0 ≤ who ∧ who < 64) ∧ 64 ≤ mn ∧ er = 8)) ∧ er ≠ 0 := by
  by_cases h1 : now < at_ ∧ at_ ≤ 1099511627776
  · by_cases h2 : 0 ≤ who ∧ who < 64
    · exact ⟨8, .inr (.inr ⟨h1, h2, by omega, rfl⟩), by decide⟩
    · exact ⟨1, .inr (.inl ⟨h1, by omega, rfl⟩), by decide⟩
  · exact ⟨5, .inl ⟨by omega, rfl⟩, by decide⟩

/-- Between the two ticks and the end of the step: both lists of the woken. -/
structure TkInv (w0 : World) (p q nb : Nat) (now : Int) (mo : Option Addr) (mn mcap : Nat) (nw : Int) (mm : List Tm) (n6 : Nat) (ao6 : Option Addr) (cap6 K6 : Nat) (wk : List Tm) (L : Nat) (oo6 : Option Addr) (oc6 : Nat) (oo8 : Option Addr) (oc8 : Nat) (c : Nat → Nat) (wb wr : World) : Prop where
  st : Stp (2 ≤ ·) (fun _ => 0) c w0 wr
  ck : ClockAt c 2 wr p nw (srt mm)
  mb : Blk c 4 wr q [.int .i64 now, .slice mo mn mcap] 105
  nb : Blk c 5 wr nb [.int .i64 nw, .slice ao6 n6 cap6] 105
  row : In c K6 wr 2 ao6 n6 cap6 (mm.flatMap Tm.cells)
  r6 : Row c 11 wr 3 1 oo6 L oc6 (wk.map fun x : Tm => Value.int .i64 x.who)
  r8 : Row c 10 wr 3 1 oo8 L oc8 (wk.map fun x : Tm => Value.int .i64 x.who)
  len : L = wk.length
  s0 : Stp (fun _ => False) c c wb wr

theorem TkInv.stp {w0 wb : World} {p q nb : Nat} {now : Int} {mo : Option Addr} {mn mcap : Nat} {nw : Int} {mm : List Tm} {n6 : Nat} {ao6 : Option Addr} {cap6 K6 : Nat} {wk : List Tm} {L : Nat} {oo6 : Option Addr} {oc6 : Nat} {oo8 : Option Addr} {oc8 : Nat} {c : Nat → Nat} {wr wx : World}
    (h : TkInv w0 p q nb now mo mn mcap nw mm n6 ao6 cap6 K6 wk L oo6 oc6 oo8 oc8 c wb wr) (s : Stp (fun _ => False) c c wr wx) : TkInv w0 p q nb now mo mn mcap nw mm n6 ao6 cap6 K6 wk L oo6 oc6 oo8 oc8 c wb wx :=
  ⟨h.st.trans (s.mono (fun _ h => h.elim)), h.ck.stp s id id, h.mb.stp s id, h.nb.stp s id, h.row.stp s id, h.r6.stp s id, h.r8.stp s id, h.len, h.s0.trans s⟩

theorem who_cell {c : Nat → Nat} {k : Nat} {w : World} {oo : Option Addr} {L oc t : Nat} {wk : List Tm} (h : Row c k w 3 1 oo L oc (wk.map fun x : Tm => Value.int .i64 x.who)) (ht : t < wk.length) :
    ∃ g off, oo = some ⟨g, off, none⟩ ∧ w.cell? ⟨g, off + t, none⟩ = some (.int .i64 (wk.getD t ⟨0, 0⟩).who) := by
  obtain ⟨b, rfl, hs, hc, -, ha, -⟩ := h.cell (j := t) (v := .int .i64 (wk.getD t ⟨0, 0⟩).who) (by simp [List.getD, ht])
  obtain ⟨g, off, sp⟩ := b
  simp only at hs
  subst hs
  rw [ha] at hc
  exact ⟨g, off, rfl, hc⟩

def KPRel (w0 : World) (p q n : Nat) (i : Value) (wr : World) : Prop :=
  ∃ (c : Nat → Nat) (now : Int) (M : List Tm) (mn : Nat) (ao : Option Addr) (cap K j : Nat), i = .int .i64 j ∧ j ≤ n ∧ KPInv w0 p q c wr now M mn ao cap K

set_option maxRecDepth 100000 in
set_option maxHeartbeats 4000000 in
theorem kplays_in {w : World} (ao : Option Addr) (n cap : Nat) (ops : List Op4) (hl : In (fun _ => 0) 0 w 3 ao n cap (ops.flatMap Op4.cells)) (hlen : ops.length = n) (hn : n ≤ 150) :
    Calls Try.prog 11 #[.slice ao n cap] w fun e w' => e = .returned (.bool true) ∧ Below w.heap.size w w' := by
  have Hl := Lib.hid hl
  have Hlen := Lib.hid hlen
  have g1 : decide ((150 : Int) < (n : Int)) = false := by simp; omega
  obtain ⟨c2, hc2, A2⟩ := (((Stp.refl (2 ≤ ·) (fun _ => 0) w).alloc (.cells #[.int .i64 0, .slice none 0 0] 102) 2).alloc (.cells #[.int .i64 0, .slice none 0 0] 105) 4).name
  have I2 := Lib.hid (show KPInv w w.heap.size (w.heap.size + 1) c2 ((w.alloc (.cells #[.int .i64 0, .slice none 0 0] 102)).alloc (.cells #[.int .i64 0, .slice none 0 0] 105)) 0 [] 0 none 0 6 from
    ⟨A2, ⟨0, none, 0, by rw [hc2.out]; exact (Blk.new _ 2 w _ _).alloc _ 4, Row.nil _ _ _ _ _, rfl⟩, by rw [hc2.out]; simpa using (Blk.new (paint (fun _ => 0) w.heap.size 2) 4 (w.alloc (.cells #[.int .i64 0, .slice none 0 0] 102)) [.int .i64 0, .slice none 0 0] 105), In.nil _ _ _ _ _, .inl rfl, rfl, by decide, by decide, by decide⟩)
  clear hl hlen hc2 A2
  go_enter Try.func11, Try.ntmps11
  go_wp2_with fail
  go_loopw [26] (fun i wr => KPRel w w.heap.size (w.heap.size + 1) n i wr) (fun i _ => n - (intOf i).toNat)
  case atStart => exact ⟨c2, 0, [], 0, none, 0, 6, 0, rfl, Nat.zero_le _, I2.out⟩
  case round =>
    obtain ⟨c, now, M, mn, mo, mcap, K, j, rfl, hj, hinv⟩ := hrel
    have I := Lib.hid hinv
    clear hinv I2
    by_cases hlt : j < n
    · have hil : j < ops.length := by rw [Hlen.out]; exact hlt
      obtain ⟨x, hx⟩ : ∃ x, ops[j]? = some x := ⟨_, List.getElem?_eq_getElem hil⟩
      have hInr := Hl.out.stp I.out.st (by decide)
      obtain ⟨a, ha, y0⟩ := hInr.field Op4.len hx (f := 0) (v := .int .i64 x.kd) rfl
      obtain ⟨a1, ha1, y1⟩ := hInr.field Op4.len hx (f := 1) (v := .int .i64 x.at_) rfl
      obtain ⟨a2, ha2, y2⟩ := hInr.field Op4.len hx (f := 2) (v := .int .i64 x.who) rfl
      subst ha
      cases ha1
      cases ha2
      have y1' : wr.cell? ⟨(a.add (j * 3)).block, (a.add (j * 3)).off + 1, none⟩ = some (.int .i64 x.at_) := by rw [← add_add'] at y1; exact y1
      have y2' : wr.cell? ⟨(a.add (j * 3)).block, (a.add (j * 3)).off + 2, none⟩ = some (.int .i64 x.who) := by rw [← add_add'] at y2; exact y2
      rw [Nat.add_zero] at y0
      clear hInr hx y1 y2 hil
      obtain ⟨kd, at_, who⟩ := x
      obtain ⟨c5, hc5, A5⟩ := ((Stp.refl (fun _ => False) c wr).alloc (.cells #[.int .i64 kd, .int .i64 at_, .int .i64 who] 107) 0).name
      have I5 := Lib.hid (I.out.stp A5.out (fun _ h => h.elim))
      have X5 := Lib.hid (show Blk c5 0 _ wr.heap.size [.int .i64 kd, .int .i64 at_, .int .i64 who] 107 by rw [hc5.out]; exact Blk.new c 0 wr _ _)
      simp only at y0 y1' y2' I5 X5 ⊢
      clear hc5 A5 I
      go_upto_block 2 with fail
      obtain ⟨wb, hwb⟩ : ∃ wb : World, wb = wr.alloc (.cells #[.int .i64 kd, .int .i64 at_, .int .i64 who] 107) := ⟨_, rfl⟩
      rw [← hwb] at I5 X5 ⊢
      clear hwb
      have x1 := X5.out.cell 1
      have x2 := X5.out.cell 2
      have m0 := I5.out.mb.cell 0
      have m1 := I5.out.mb.cell 1
      simp at x1 x2 m0 m1
      clear y0 y1' y2'
      go_cut [] (fun wx => ∃ (c' : Nat → Nat) (now' : Int) (M' : List Tm) (mn' : Nat) (mo' : Option Addr) (mcap' K' : Nat), KPInv w w.heap.size (w.heap.size + 1) c' wx now' M' mn' mo' mcap' K')
      case first =>
        by_cases h0 : kd = 0
        · have t0 : (kd == 0) = true := by simpa using h0
          clear h0
          by_cases hv : now < at_ ∧ at_ ≤ 1099511627776 ∧ 0 ≤ who ∧ who < 64 ∧ mn < 64
          · obtain ⟨v1, v2, v3, v4, v5⟩ := hv
            have V1 := Lib.hid v1
            have V2 := Lib.hid v2
            have V3 := Lib.hid v3
            have V4 := Lib.hid v4
            have V5 := Lib.hid v5
            clear v1 v2 v3 v4 v5
            go_wp2_with fail
            refine (r04set_ok I5.out.row I5.out.len (14 - K) now at_ who V1.out V2.out V3.out V4.out V5.out).mono ?_
            rintro e w6 ⟨ao6, cap6, rfl, c6, s6, r6⟩
            obtain ⟨K2, hK2⟩ : ∃ K2, K2 = 14 - K := ⟨_, rfl⟩
            rw [← hK2] at s6 r6
            have hKK := I5.out.hK
            have HK2 := Lib.hid (show K2 = 6 ∨ K2 = 8 by omega)
            have mb6 := I5.out.mb.stp s6 (by omega)
            have MB6 := Lib.hid mb6
            have CK6 := Lib.hid (I5.out.ck.stp s6 (by omega) (by omega))
            have S6 := Lib.hid (I5.out.st.trans (s6.mono (J' := (2 ≤ ·)) (fun k hk => by omega)))
            have R6 := Lib.hid r6
            have X6 := Lib.hid (X5.out.stp s6 (by omega))
            have z1 := X6.out.cell 1
            have z2 := X6.out.cell 2
            have f0 := mb6.cell 0
            have hx6 := X6.out.lt
            have hq6 := mb6.lt
            obtain ⟨c7, hc7, A7⟩ := ((Stp.refl (fun _ => False) c6 w6).alloc (.cells #[.int .i64 now, .slice ao6 (mn + 1) cap6] 105) 5).name
            have N7 := Lib.hid (show Blk c7 5 (w6.alloc (.cells #[.int .i64 now, .slice ao6 (mn + 1) cap6] 105)) w6.heap.size [.int .i64 now, .slice ao6 (mn + 1) cap6] 105 by rw [hc7.out]; exact Blk.new c6 5 w6 _ _)
            have MB7 := Lib.hid (mb6.stp A7.out id)
            have CK7 := Lib.hid (CK6.out.stp A7.out id id)
            have R7 := Lib.hid (r6.stp A7.out id)
            have S7 := Lib.hid (S6.out.trans (A7.out.mono (J' := (2 ≤ ·)) (fun k hk => hk.elim)))
            simp at z1 z2 f0
            clear hK2 hKK s6 r6 mb6 x1 x2 m0 m1 hc7 A7 MB6 CK6 R6 S6 X6
            go_wp2_with fail
            refine (kset_any CK7.out at_ who V1.out V2.out V3.out V4.out (by rw [srt_len, I5.out.len]; exact V5.out)).mono ?_
            rintro e w8 ⟨rfl, c8, s8, k8⟩
            have nb8 := N7.out.stp s8 (by unfold KJ2; omega)
            have NB8 := Lib.hid nb8
            have mb8 := MB7.out.stp s8 (by unfold KJ2; omega)
            have S8 := Lib.hid (S7.out.trans (s8.mono (J' := (2 ≤ ·)) (fun k hk => by rcases hk with hk | hk <;> omega)))
            have P8 := Lib.hid (KPInv.put (M' := M ++ [⟨at_, who⟩]) (K' := K2) (now' := now) (n' := mn + 1) S8.out (by rw [srt_snoc]; exact k8) mb8 (R7.out.stp s8 (by rcases HK2.out with h | h <;> subst h <;> rintro (h | h) <;> omega)).toIn HK2.out (by rw [List.length_append, I5.out.len]; rfl) (by have := V5.out; omega) I5.out.n0 I5.out.n1)
            have n0 := nb8.cell 0
            have n1 := nb8.cell 1
            have f0 := mb8.free 0
            have f1 := mb8.free 1
            have hq8 := mb8.lt
            have q0 := mb8.cell 0
            have q1 := mb8.cell 1
            simp at n0 n1 q0 q1
            clear nb8 mb8 s8 k8 z1 z2 hx6 hq6 N7 MB7 CK7 R7 S7
            go_wp2_with (go_at_call 49; refine (lawis_true8 (Err.nil (fun _ => 0) w8)).mono ?_; rintro e w9 ⟨rfl, rfl⟩)
            go_meet
            exact ⟨c8, now, _, mn + 1, ao6, cap6, K2, P8.out⟩
          · obtain ⟨er, he, her⟩ : ∃ er : Int, (((at_ ≤ now ∨ 1099511627776 < at_) ∧ er = 5) ∨ ((now < at_ ∧ at_ ≤ 1099511627776) ∧ (who < 0 ∨ 64 ≤ who) ∧ er = 1) ∨ ((now < at_ ∧ at_ ≤ 1099511627776) ∧ (0 ≤ who ∧ who < 64) ∧ 64 ≤ mn ∧ er = 8)) ∧ er ≠ 0 := set_why hv
            have He := Lib.hid he
            have Her := Lib.hid her
            clear hv he her
            go_wp2_with fail
            refine (r04set_bad (c := c5) mo mn mcap now at_ who er He.out).mono ?_
            rintro e w6 ⟨rfl, c6, s6⟩
            have I6 := Lib.hid (I5.out.stp s6 (fun _ h => h.elim))
            have X6 := Lib.hid (X5.out.stp s6 id)
            have z1 := X6.out.cell 1
            have z2 := X6.out.cell 2
            have hx6 := X6.out.lt
            have hq6 := I6.out.mb.lt
            obtain ⟨c7, hc7, A7⟩ := ((Stp.refl (fun _ => False) c6 w6).alloc (.cells #[.int .i64 now, .slice mo mn mcap] 105) 5).name
            have N7 := Lib.hid (show Blk c7 5 (w6.alloc (.cells #[.int .i64 now, .slice mo mn mcap] 105)) w6.heap.size [.int .i64 now, .slice mo mn mcap] 105 by rw [hc7.out]; exact Blk.new c6 5 w6 _ _)
            have I7 := Lib.hid (I6.out.stp A7.out (fun _ h => h.elim))
            simp at z1 z2
            clear s6 x1 x2 m0 m1 hc7 A7 I6 X6
            go_wp2_with fail
            refine (kset_bad I7.out.ck at_ who er (by rw [srt_len, I5.out.len]; exact He.out)).mono ?_
            rintro e w8 ⟨ev, rfl, c8, s8, e8⟩
            have nb8 := N7.out.stp s8 id
            have I8 := I7.out.stp s8 (fun _ h => h.elim)
            have P8 := Lib.hid (KPInv.put (q := w.heap.size + 1) I8.st I8.ck I8.mb I8.row I8.hK I8.len I8.le I8.n0 I8.n1)
            have E8 := Lib.hid (e8.err Her.out)
            have n0 := nb8.cell 0
            have n1 := nb8.cell 1
            have f0 := I8.mb.free 0
            have f1 := I8.mb.free 1
            have hq8 := I8.mb.lt
            have q0 := I8.mb.cell 0
            have q1 := I8.mb.cell 1
            simp at n0 n1 q0 q1
            clear nb8 s8 e8 z1 z2 hx6 hq6 N7 I7 I8
            go_wp2_with (go_at_call 49; refine (lawis_true8 E8.out).mono ?_; rintro e w9 ⟨rfl, rfl⟩)
            go_meet
            exact ⟨c8, now, _, mn, mo, mcap, K, P8.out⟩
        · have t0 : (kd == 0) = false := by simpa using h0
          clear h0
          by_cases h1 : kd = 1
          · have t1 : (kd == 1) = true := by simpa using h1
            clear h1
            obtain ⟨K2, hK2⟩ : ∃ K2, K2 = 14 - K := ⟨_, rfl⟩
            have hKK := I5.out.hK
            have HK2 := Lib.hid (show (K2 = 6 ∨ K2 = 8) ∧ K ≠ K2 ∧ K ≠ K2 + 1 by omega)
            clear hK2 hKK
            go_wp2_with fail
            refine (r04drop_any I5.out.row I5.out.len K2 HK2.out.2.1 (by have := I5.out.le; omega) now who).mono ?_
            rintro e w6 ⟨ao6, N6, cap6, rfl, hN6, c6, s6, r6⟩
            have HN6 := Lib.hid hN6
            have mb6 := I5.out.mb.stp s6 (by have := HK2.out.1; omega)
            have X6 := Lib.hid (X5.out.stp s6 (by have := HK2.out.1; omega))
            have CK6 := Lib.hid (I5.out.ck.stp s6 (by have := HK2.out.1; omega) (by have := HK2.out.1; omega))
            have z2 := X6.out.cell 2
            have hx6 := X6.out.lt
            have hq6 := mb6.lt
            obtain ⟨c7, hc7, A7⟩ := ((Stp.refl (fun _ => False) c6 w6).alloc (.cells #[.int .i64 now, .slice ao6 N6 cap6] 105) 5).name
            have N7 := Lib.hid (show Blk c7 5 (w6.alloc (.cells #[.int .i64 now, .slice ao6 N6 cap6] 105)) w6.heap.size [.int .i64 now, .slice ao6 N6 cap6] 105 by rw [hc7.out]; exact Blk.new c6 5 w6 _ _)
            have MB7 := Lib.hid (mb6.stp A7.out id)
            have CK7 := Lib.hid (CK6.out.stp A7.out id id)
            have R7 := Lib.hid (r6.stp A7.out id)
            have S7 := Lib.hid ((I5.out.st.trans (s6.mono (J' := (2 ≤ ·)) (fun k hk => by have := HK2.out.1; omega))).trans (A7.out.mono (J' := (2 ≤ ·)) (fun k hk => hk.elim)))
            have HNs := Lib.hid (show (((srt M).length : Int) - ((srt M).filter (stays who)).length) = (mn : Int) - N6 by rw [← srt_filter, srt_len, srt_len, I5.out.len, HN6.out])
            simp at z2
            clear s6 r6 mb6 x1 x2 m0 m1 hc7 A7 CK6 X6 hN6
            go_wp2_with fail
            refine (kdrop_any CK7.out who (by rw [srt_len, I5.out.len]; have := I5.out.le; omega)).mono ?_
            rintro e w8 ⟨rfl, c8, s8, k8⟩
            rw [HNs.out]
            rw [← srt_filter] at k8
            have nb8 := N7.out.stp s8 (by omega)
            have mb8 := MB7.out.stp s8 (by omega)
            have P8 := Lib.hid (KPInv.put (now' := now) (n' := N6) (S7.out.trans (s8.mono (J' := (2 ≤ ·)) (fun k hk => by omega))) k8 mb8 (R7.out.stp s8 (by have := HK2.out.1; omega)).toIn HK2.out.1 HN6.out.symm (by
              have h1 := List.length_filter_le (stays who) M
              have h2 := I5.out.len
              have h3 := I5.out.le
              have h4 := HN6.out
              omega) I5.out.n0 I5.out.n1)
            have n0 := nb8.cell 0
            have n1 := nb8.cell 1
            have f0 := mb8.free 0
            have f1 := mb8.free 1
            have hq8 := mb8.lt
            have q0 := mb8.cell 0
            have q1 := mb8.cell 1
            simp at n0 n1 q0 q1
            clear nb8 mb8 s8 k8 z2 hx6 hq6 N7 MB7 CK7 R7 S7
            go_wp2_with fail
            go_meet
            exact ⟨c8, now, _, N6, ao6, cap6, K2, P8.out⟩
          · have t1 : (kd == 1) = false := by simpa using h1
            clear h1
            by_cases h2 : kd = 2
            · have t2 : (kd == 2) = true := by simpa using h2
              clear h2
              by_cases hv : 1 ≤ at_ ∧ at_ ≤ 1099511627776 - now
              · obtain ⟨K2, hK2⟩ : ∃ K2, K2 = 14 - K := ⟨_, rfl⟩
                have hKK := I5.out.hK
                have HK2 := Lib.hid (show (K2 = 6 ∨ K2 = 8) ∧ K ≠ K2 ∧ K ≠ K2 + 1 ∧ K ≤ 8 by omega)
                have V1 := Lib.hid hv.1
                have V2 := Lib.hid hv.2
                clear hK2 hKK hv
                go_wp2_with fail
                refine (r04tick_ok I5.out.row I5.out.len K2 11 (by have := HK2.out.2.2.2; omega) (by have := HK2.out.1; omega) (by have := HK2.out.1; omega) HK2.out.2.2.1 (by have := I5.out.le; omega) now at_ I5.out.n0 V1.out V2.out).mono ?_
                obtain ⟨nw, hnw⟩ : ∃ nw, nw = now + at_ := ⟨_, rfl⟩
                rw [← hnw]
                rintro e w6 ⟨ao6, n6, cap6, oo6, N6, oc6, mm, K6, rfl, hlm, hK6, hsm, c6, s6, i6, r6⟩
                have HNW := Lib.hid hnw
                have HLM := Lib.hid hlm
                have HSM := Lib.hid hsm
                have HK6 := Lib.hid (show K6 = 6 ∨ K6 = 8 by have := I5.out.hK; have := HK2.out.1; omega)
                have mb6 := I5.out.mb.stp s6 (by unfold TJ; have := HK2.out.1; omega)
                have X6 := Lib.hid (X5.out.stp s6 (by unfold TJ; have := HK2.out.1; omega))
                have CK6 := Lib.hid (I5.out.ck.stp s6 (by unfold TJ; have := HK2.out.1; omega) (by unfold TJ; have := HK2.out.1; omega))
                have z1 := X6.out.cell 1
                have hx6 := X6.out.lt
                have hq6 := mb6.lt
                obtain ⟨c7, hc7, A7⟩ := ((Stp.refl (fun _ => False) c6 w6).alloc (.cells #[.int .i64 nw, .slice ao6 n6 cap6] 105) 5).name
                have N7 := Lib.hid (show Blk c7 5 (w6.alloc (.cells #[.int .i64 nw, .slice ao6 n6 cap6] 105)) w6.heap.size [.int .i64 nw, .slice ao6 n6 cap6] 105 by rw [hc7.out]; exact Blk.new c6 5 w6 _ _)
                have MB7 := Lib.hid (mb6.stp A7.out id)
                have CK7 := Lib.hid (CK6.out.stp A7.out id id)
                have J7 := Lib.hid (i6.stp A7.out id)
                have R7 := Lib.hid (r6.stp A7.out id)
                have S7 := Lib.hid ((I5.out.st.trans (s6.mono (J' := (2 ≤ ·)) (fun k hk => by unfold TJ at hk; have := HK2.out.1; omega))).trans (A7.out.mono (J' := (2 ≤ ·)) (fun k hk => hk.elim)))
                simp at z1
                clear s6 r6 i6 mb6 x1 x2 m0 m1 hc7 A7 CK6 X6 hnw hlm hsm hK6
                go_wp2_with fail
                refine (ktick_ok CK7.out 10 (by decide) (by decide) at_ (by rw [srt_len, I5.out.len]; have := I5.out.le; omega) I5.out.n0 V1.out V2.out).mono ?_
                rw [← HNW.out]
                rintro e w8 ⟨oo8, n8, oc8, rfl, c8, s8, k8, r8⟩
                obtain ⟨wk, hwk⟩ : ∃ wk, wk = (srt M).takeWhile (fun x => decide (x.at_ ≤ nw)) := ⟨_, rfl⟩
                rw [← hwk] at r8 R7
                obtain rfl : N6 = wk.length := by have := row_len R7.out; simpa using this
                obtain rfl : n8 = wk.length := by have := row_len r8; simpa using this
                obtain ⟨L, hL⟩ : ∃ L, L = wk.length := ⟨_, rfl⟩
                rw [← hL] at r8 R7 ⊢
                have HL := Lib.hid hL
                rw [← HSM.out] at k8
                have TK8 := Lib.hid (show TkInv w w.heap.size (w.heap.size + 1) w6.heap.size now mo mn mcap nw mm n6 ao6 cap6 K6 wk L oo6 oc6 oo8 oc8 c8 w8 w8 from
                  ⟨S7.out.trans (s8.mono (J' := (2 ≤ ·)) (fun k hk => by unfold KJ at hk; omega)), k8, MB7.out.stp s8 (by unfold KJ; omega), N7.out.stp s8 (by unfold KJ; omega), J7.out.stp s8 (by unfold KJ; have := HK6.out; omega), R7.out.stp s8 (by unfold KJ; omega), r8, HL.out, Stp.refl _ _ _⟩)
                have Hn6 := Lib.hid (show n6 ≤ 64 by
                  have h1 := HLM.out
                  rw [← srt_len, HSM.out] at h1
                  have h2 := (List.dropWhile_sublist (l := srt M) (fun x => decide (x.at_ ≤ nw))).length_le
                  rw [srt_len, I5.out.len] at h2
                  have h3 := I5.out.le
                  omega)
                have HWK := Lib.hid (show wk.length ≤ 64 by
                  have h2 := (List.takeWhile_sublist (l := srt M) (fun x => decide (x.at_ ≤ nw))).length_le
                  rw [← hwk, srt_len, I5.out.len] at h2
                  have h3 := I5.out.le
                  omega)
                have Hnw := Lib.hid (show 0 ≤ nw ∧ nw ≤ 1099511627776 by rw [HNW.out]; have := I5.out.n0; have := V1.out; have := V2.out; omega)
                clear s8 k8 r8 z1 hx6 hq6 N7 MB7 CK7 R7 S7 J7 hwk hL
                go_wp2_with (go_at_call 49; refine (lawis_true8 (Err.nil (fun _ => 0) w8)).mono ?_; rintro e w9 ⟨rfl, rfl⟩)
                go_loopw [96] (fun iv wx => ∃ t : Nat, iv = .int .i64 t ∧ t ≤ L ∧ Stp (fun _ => False) c8 c8 w8 wx) (fun iv _ => L - (intOf iv).toNat)
                case atStart => exact ⟨0, rfl, Nat.zero_le _, Stp.refl _ _ _⟩
                case round =>
                  obtain ⟨t, rfl, ht, st⟩ := hrel
                  have TK := Lib.hid (TK8.out.stp st)
                  clear st
                  by_cases hlt2 : t < L
                  · obtain ⟨g6, o6, rfl, u0⟩ := who_cell TK.out.r6 (by rw [← HL.out]; exact hlt2)
                    obtain ⟨g8, o8, rfl, u1⟩ := who_cell TK.out.r8 (by rw [← HL.out]; exact hlt2)
                    generalize (wk.getD t ⟨0, 0⟩).who = id0 at u0 u1
                    have hL9 : (L : Int) ≤ 64 := by
                      have h1 := HL.out
                      have h2 := HWK.out
                      omega
                    go_wp2_with fail
                    go_quiet (fail)
                    go_wp2_with fail
                    go_roundw
                    case rel => exact ⟨t + 1, by go_num, by omega, TK.out.s0.drewN nq⟩
                    case measure => simp [intOf]; omega
                  · have n0 := TK.out.nb.cell 0
                    have n1 := TK.out.nb.cell 1
                    have f0 := TK.out.mb.free 0
                    have f1 := TK.out.mb.free 1
                    have hq8 := TK.out.mb.lt
                    have q0 := TK.out.mb.cell 0
                    have q1 := TK.out.mb.cell 1
                    have P8 := Lib.hid (KPInv.put TK.out.st TK.out.ck TK.out.mb TK.out.row HK6.out HLM.out Hn6.out Hnw.out.1 Hnw.out.2)
                    simp at n0 n1 q0 q1
                    go_wp2_with fail
                    go_meet
                    exact ⟨c8, nw, mm, n6, ao6, cap6, K6, P8.out⟩
              · obtain ⟨er, he, her⟩ : ∃ er : Int, ((at_ < 1 ∧ er = 1) ∨ (1 ≤ at_ ∧ 1099511627776 - now < at_ ∧ er = 5)) ∧ er ≠ 0 := by
                  by_cases h1 : 1 ≤ at_
                  · exact ⟨5, .inr ⟨h1, by omega, rfl⟩, by decide⟩
                  · exact ⟨1, .inl ⟨by omega, rfl⟩, by decide⟩
                have He := Lib.hid he
                have Her := Lib.hid her
                clear hv he her
                go_wp2_with fail
                refine (r04tick_bad (c := c5) mo mn mcap now at_ er ⟨I5.out.n0, I5.out.n1⟩ He.out).mono ?_
                rintro e w6 ⟨rfl, c6, s6⟩
                have I6 := Lib.hid (I5.out.stp s6 (fun _ h => h.elim))
                have X6 := Lib.hid (X5.out.stp s6 id)
                have z1 := X6.out.cell 1
                have hx6 := X6.out.lt
                have hq6 := I6.out.mb.lt
                obtain ⟨c7, hc7, A7⟩ := ((Stp.refl (fun _ => False) c6 w6).alloc (.cells #[.int .i64 now, .slice mo mn mcap] 105) 5).name
                have N7 := Lib.hid (show Blk c7 5 (w6.alloc (.cells #[.int .i64 now, .slice mo mn mcap] 105)) w6.heap.size [.int .i64 now, .slice mo mn mcap] 105 by rw [hc7.out]; exact Blk.new c6 5 w6 _ _)
                have I7 := Lib.hid (I6.out.stp A7.out (fun _ h => h.elim))
                simp at z1
                clear s6 x1 x2 m0 m1 hc7 A7 I6 X6
                go_wp2_with fail
                refine (ktick_bad I7.out.ck at_ ⟨I5.out.n0, I5.out.n1⟩ er He.out).mono ?_
                rintro e w8 ⟨ev, rfl, c8, s8, e8⟩
                have nb8 := N7.out.stp s8 id
                have I8 := I7.out.stp s8 (fun _ h => h.elim)
                have P8 := Lib.hid (KPInv.put (q := w.heap.size + 1) I8.st I8.ck I8.mb I8.row I8.hK I8.len I8.le I8.n0 I8.n1)
                have E8 := Lib.hid (e8.err Her.out)
                have n0 := nb8.cell 0
                have n1 := nb8.cell 1
                have f0 := I8.mb.free 0
                have f1 := I8.mb.free 1
                have hq8 := I8.mb.lt
                have q0 := I8.mb.cell 0
                have q1 := I8.mb.cell 1
                simp at n0 n1 q0 q1
                clear nb8 s8 e8 z1 hx6 hq6 N7 I7 I8
                go_wp2_with (go_at_call 49; refine (lawis_true8 E8.out).mono ?_; rintro e w9 ⟨rfl, rfl⟩)
                go_loopw [96] (fun iv wx => iv = .int .i64 0 ∧ wx = w8) (fun _ _ => 0)
                case atStart => exact ⟨rfl, rfl⟩
                case round =>
                  obtain ⟨rfl, rfl⟩ := hrel
                  go_wp2_with fail
                  go_meet
                  exact ⟨c8, now, _, mn, mo, mcap, K, P8.out⟩
            · have t2 : (kd == 2) = false := by simpa using h2
              clear h2
              go_wp2_with fail
              go_meet
              exact ⟨c5, now, M, mn, mo, mcap, K, I5.out⟩
      case rest =>
        obtain ⟨c6, now6, M6, n6, ao6, cap6, K6, hinv⟩ := hcut
        have I6 := Lib.hid hinv
        have HLS := Lib.hid (show ((srt M6).length : Int) = n6 by rw [srt_len, hinv.len])
        have b0 := hinv.mb.cell 0
        have b1 := hinv.mb.cell 1
        simp at b0 b1
        have hn64 := hinv.le
        clear hinv I5 X5 x1 x2 m0 m1
        cases hM : M6 with
        | nil =>
          have HM := Lib.hid hM
          clear hM
          go_wp2_with fail
          refine (knext_none (by have := I6.out.ck; rw [HM.out] at this; exact this)).mono ?_
          rintro e w7 ⟨rfl, rfl⟩
          go_wp2_with fail
          refine (r04least_any I6.out.row I6.out.len).mono ?_
          rw [show lstTo M6 n6 = -1 by have := I6.out.len; rw [HM.out] at this ⊢; simp at this; subst this; rfl]
          rintro e w8 ⟨rfl, s8⟩
          have I8 := Lib.hid (I6.out.stp s8 (fun _ h => h.elim))
          have d0 := I8.out.mb.cell 0
          have d1 := I8.out.mb.cell 1
          have hg8 := I8.out.mb.lt
          have z1 : decide ((-1 : Int) ≥ 0) = false := rfl
          simp at d0 d1
          clear b0 b1 s8 I6
          go_wp2_with fail
          go_quiet (((first
            | (go_at_call 74; exact (know_any (I8.out.ck.stp ((Stp.refl (fun _ => False) _ _).drewN _) id id)).mono fun _ _ ⟨he, hw⟩ => ⟨he, _, hw.symm⟩)
            | (go_at_call 75; exact (kwait_any (I8.out.ck.stp ((Stp.refl (fun _ => False) _ _).drewN _) id id)).mono fun _ _ ⟨he, hw⟩ => ⟨by rw [HLS.out] at he; exact he, _, hw.symm⟩))))
          go_wp2_with fail
          go_roundw
          case rel => exact ⟨c6, now6, M6, n6, ao6, cap6, K6, j + 1, by go_num, by omega, I8.out.stp ((Stp.refl (fun _ => False) _ _).drewN nq) (fun _ h => h.elim)⟩
          case measure => simp [intOf]; omega
        | cons z zs =>
          have hne : M6 ≠ [] := by rw [hM]; simp
          obtain ⟨i, hi, hil, hh⟩ := least_head hne
          obtain ⟨y, hy⟩ : ∃ y, M6[i]? = some y := ⟨_, List.getElem?_eq_getElem hil⟩
          have hgy : M6.getD i ⟨0, 0⟩ = y := by simp [List.getD, hy]
          rw [hgy] at hh
          rw [I6.out.len] at hi hil
          have Hh := Lib.hid hh
          have Hy := Lib.hid hy
          have Hi := Lib.hid hi
          clear hM hne hh hy hgy hi
          go_wp2_with fail
          refine (knext_some (by have := I6.out.ck; rw [Hh.out] at this; exact this)).mono ?_
          rintro e w7 ⟨rfl, rfl⟩
          go_wp2_with fail
          refine (r04least_any I6.out.row I6.out.len).mono ?_
          rw [Hi.out]
          rintro e w8 ⟨rfl, s8⟩
          have I8 := Lib.hid (I6.out.stp s8 (fun _ h => h.elim))
          obtain ⟨g, rfl, v0, v1⟩ := I8.out.row.tm Hy.out
          have d0 := I8.out.mb.cell 0
          have d1 := I8.out.mb.cell 1
          have hg8 := I8.out.mb.lt
          have z1 : decide ((i : Int) ≥ 0) = true := by simp
          have z2 : decide ((0 : Int) ≤ (i : Int)) = true := by simp
          have hin : (i : Int) < n6 := by omega
          simp at d0 d1
          clear b0 b1 s8 I6
          go_wp2_with fail
          go_quiet (((first
            | (go_at_call 74; exact (know_any (I8.out.ck.stp ((Stp.refl (fun _ => False) _ _).drewN _) id id)).mono fun _ _ ⟨he, hw⟩ => ⟨he, _, hw.symm⟩)
            | (go_at_call 75; exact (kwait_any (I8.out.ck.stp ((Stp.refl (fun _ => False) _ _).drewN _) id id)).mono fun _ _ ⟨he, hw⟩ => ⟨by rw [HLS.out] at he; exact he, _, hw.symm⟩))))
          go_wp2_with fail
          go_roundw
          case rel => exact ⟨c6, now6, M6, n6, some g, cap6, K6, j + 1, by go_num, by omega, I8.out.stp ((Stp.refl (fun _ => False) _ _).drewN nq) (fun _ h => h.elim)⟩
          case measure => simp [intOf]; omega
    · go_wp2_with fail
      refine (awake4k 12 c _).mono ?_
      rintro e w9 ⟨rfl, c9, s9⟩
      have S9 := Lib.hid (I.out.st.trans (s9.mono (J' := (2 ≤ ·)) (fun k hk => by omega)))
      clear s9
      go_wp2
      go_ret
      exact ⟨rfl, S9.out.fin⟩

set_option maxRecDepth 100000 in
theorem kplays_out {w : World} (ao : Option Addr) (n cap : Nat) (hn : 150 < n) :
    Calls Try.prog 11 #[.slice ao n cap] w fun e w' => e = .returned (.bool true) ∧ Below w.heap.size w w' := by
  have g1 : decide ((150 : Int) < (n : Int)) = true := by simp; omega
  go_enter Try.func11, Try.ntmps11
  go_wp2_with fail
  refine (awake4k 2 (fun _ => 0) _).mono ?_
  rintro e w2 ⟨rfl, c2, s2⟩
  have S2 := Lib.hid s2
  clear s2
  go_wp2
  go_ret
  exact ⟨rfl, S2.out.fin⟩

theorem dec_op4 {H : Type} {enc : TypeId × Value → H} {w : World} {base : Nat} {spare : Nat → Bool} {held : Bool} (n : Nat) (cs : List Value) (y : DataW H × List MemPlace) (h : DataW.trod enc Try.prog w base spare held n 107 cs = some y) : ∃ x : Op4, cs = x.cells ∧ True := by
  obtain ⟨hl, n', hf⟩ := dec_fields Try.underlying107 (by kernel_rfl) (by kernel_rfl) h
  obtain ⟨v0, z0, c0, t0⟩ := hf 0 _ rfl
  obtain ⟨v1, z1, c1, t1⟩ := hf 1 _ rfl
  obtain ⟨v2, z2, c2, t2⟩ := hf 2 _ rfl
  obtain ⟨x0, e0, _, _⟩ := DataW.trod_int Try.underlying3 t0
  obtain ⟨x1, e1, _, _⟩ := DataW.trod_int Try.underlying2 t1
  obtain ⟨x2, e2, _, _⟩ := DataW.trod_int Try.underlying3 t2
  match cs, hl with
  | [a, b, d], _ =>
    simp at c0 c1 c2 e0 e1 e2
    subst c0 c1 c2 e0 e1 e2
    exact ⟨⟨x0, x1, x2⟩, rfl, trivial⟩

theorem kplays_walk {w : World} (ao : Option Addr) (n cap : Nat) (ops : List Op4) (hl : In (fun _ => 0) 0 w 3 ao n cap (ops.flatMap Op4.cells)) (hlen : ops.length = n) :
    Calls Try.prog 11 #[.slice ao n cap] w fun e w' => e = .returned (.bool true) ∧ Below w.heap.size w w' := by
  by_cases h : n ≤ 150
  · exact kplays_in ao n cap ops hl hlen h
  · exact kplays_out ao n cap (by omega)
end Go.Proofs.Ytmhhhiegioniaaa
