/- The walk of the law GatePlays. No condition. -/
import Derived.Test.YtmhhhiegioniaaaGate4
import Derived.Test.YtmhhhiegioniaaaMem4
import Derived.Deep.DeepCutAuto
namespace Go.Proofs.Ytmhhhiegioniaaa
open Go.RowKit Go.ChangeShapes Go.WideShapes Go.Deep Go.Joins

theorem awake8K (K : Nat) (c : Nat → Nat) (w : World) :
    Calls Try.prog 32 #[] w fun e w' => e = .returned (.bool true) ∧ ∃ c', Stp (K ≤ ·) c c' w w' := by
  go_enter Try.func32, Try.ntmps32
  go_wp2_with fail
  refine (new_any c K _).mono ?_
  rintro e w1 ⟨rfl, c1, s1, h1⟩
  go_wp2_with fail
  refine (alloc_ok h1 _ (by simp)).mono ?_
  rintro e w2 ⟨rfl, c2, s2, h2⟩
  go_wp2_with fail
  refine (alloc_ok h2 _ (by simp)).mono ?_
  rintro e w3 ⟨rfl, c3, s3, h3⟩
  have S3 := Lib.hid (((s1.trans s2).trans s3).mono (J' := (K ≤ ·)) (fun _ h => Nat.le_of_eq h.symm))
  have H3 := Lib.hid (h3.stp ((Stp.refl (fun _ => False) c3 w3).alloc (.cells #[.int .i64 0, .int .i64 1] 3) (K + 2)) id)
  clear s1 s2 s3 h1 h2 h3
  go_wp2_with fail
  refine (gof_any (k := K + 1) (l := [0, 1]) (Row.new c3 (K + 2) w3 3 1 2 2 [.int .i64 0, .int .i64 1] rfl (by decide) (by decide)).toIn (by omega)).mono ?_
  rintro e w4 ⟨c4, s4, h4⟩
  obtain ⟨_, p, rfl, hg⟩ | ⟨h, _⟩ := h4
  rotate_left
  · exact absurd (by simp [addRef, gaddErr]) h
  have S4 := Lib.hid ((S3.out.trans ((Stp.refl (K ≤ ·) c3 w3).alloc (.cells #[.int .i64 0, .int .i64 1] 3) (K + 2))).trans (s4.mono (J' := (K ≤ ·)) (fun k hk => by omega)))
  have G4 := Lib.hid (show GroupAt c4 (K + 1) w4 p [0, 1] by simpa [addRef, gaddErr] using hg)
  have H4 := Lib.hid (H3.out.stp s4 (by omega))
  clear s4 hg S3 H3
  go_wp2_with fail
  refine (gleast_ok G4.out H4.out (by omega) (by simp) (by decide) (by simp) 9).mono ?_
  rintro e w5 ⟨rfl, c5, s5, h5⟩
  go_wp2_with fail
  refine (gleast_ok (G4.out.stp s5 (by omega)) h5 (by omega) (by simp) (by decide) (by simp) 1).mono ?_
  rintro e w6 ⟨rfl, c6, s6, h6⟩
  have S6 := Lib.hid ((S4.out.trans (s5.mono (J' := (K ≤ ·)) (fun _ h => Nat.le_of_eq h.symm))).trans (s6.mono (J' := (K ≤ ·)) (fun _ h => Nat.le_of_eq h.symm)))
  clear s5 s6 h5 h6
  go_wp2_with fail
  go_ret
  exact ⟨by simp [valAt]; decide, c6, S6.out⟩

structure Op8 where
  drop : Bool
  ix : Int
def Op8.cells (x : Op8) : List Value := [.bool x.drop, .int .i64 x.ix]
theorem Op8.len (x : Op8) : x.cells.length = 2 := rfl

theorem lawis_true8 {c : Nat → Nat} {w : World} {v : Value} {m : Int} (h : Err c w v m) :
    Calls Try.prog 49 #[v, .int .i64 m] w fun e w' => e = .returned (.bool true) ∧ w = w' :=
  (lawis h m).mono fun _ _ ⟨he, hw⟩ => ⟨by simpa using he, hw⟩

/-- The group and the document's list hold the same. -/
structure GInv (w0 : World) (p : Nat) (c : Nat → Nat) (wr : World) (l : List Int) (N : Nat) (mo : Option Addr) (mcap : Nat) : Prop where
  st : Stp (2 ≤ ·) (fun _ => 0) c w0 wr
  gr : GroupAt c 2 wr p l
  row : Row c 3 wr 3 1 mo N mcap (l.map (Value.int .i64))
  len : l.length = N

theorem GInv.stp {J : Nat → Prop} {w0 : World} {p : Nat} {c c' : Nat → Nat} {wr w' : World} {l : List Int} {N : Nat} {mo : Option Addr} {mcap : Nat} (h : GInv w0 p c wr l N mo mcap) (s : Stp J c c' wr w') (hJ : ∀ k, J k → 4 ≤ k) : GInv w0 p c' w' l N mo mcap :=
  ⟨h.st.trans (s.mono (fun k hk => Nat.le_trans (by decide) (hJ k hk))), h.gr.stp s (fun h => by have := hJ _ h; omega), h.row.stp s (fun h => by have := hJ _ h; omega), h.len⟩

def PlaysRel8 (w0 : World) (p n : Nat) (v i : Value) (wr : World) : Prop :=
  ∃ (c : Nat → Nat) (l : List Int) (N : Nat) (mo : Option Addr) (mcap j : Nat), v = .slice mo N mcap ∧ i = .int .i64 j ∧ j ≤ n ∧ N ≤ j ∧ GInv w0 p c wr l N mo mcap

/-- What Of handed back: a group, or an error. -/
def KeepOf (F : List Int × Int) (hv ev : Value) (c : Nat → Nat) (wr : World) : Prop :=
  (F.2 = 0 ∧ ∃ p, hv = .pointer (some ⟨p, 0, none⟩) ∧ ev = .nilIface ∧ GroupAt c 5 wr p F.1) ∨ (F.2 ≠ 0 ∧ hv = .pointer none ∧ ErrAt c wr ev F.2)

theorem KeepOf.stp {J : Nat → Prop} {F : List Int × Int} {hv ev : Value} {c c' : Nat → Nat} {wr w' : World} (h : KeepOf F hv ev c wr) (s : Stp J c c' wr w') (hJ : ∀ k, J k → 6 ≤ k) : KeepOf F hv ev c' w' := by
  rcases h with ⟨h0, p, h1, h2, hg⟩ | ⟨h0, h1, he⟩
  · exact .inl ⟨h0, p, h1, h2, hg.stp s (fun h => by have := hJ _ h; omega)⟩
  · exact .inr ⟨h0, h1, he.stp s (fun h => by have := hJ _ h; omega)⟩

theorem gof_keep {c : Nat → Nat} {w : World} {ao : Option Addr} {n cap : Nat} {l : List Int} (h : In c 0 w 1 ao n cap (l.map (Value.int .i64))) :
    Calls Try.prog 64 #[.slice ao n cap] w fun e w' => ∃ hv ev, e = .returned (.tuple #[hv, ev]) ∧ ∃ c', Stp (· = 5) c c' w w' ∧ KeepOf (l.foldl addRef ([], 0)) hv ev c' w' := by
  refine (gof_any h 5 (by decide)).mono ?_
  rintro e w' ⟨c', s, ⟨h0, p, rfl, hg⟩ | ⟨h0, ev, rfl, he⟩⟩
  · exact ⟨_, _, rfl, c', s, .inl ⟨h0, p, rfl, rfl, hg⟩⟩
  · exact ⟨_, _, rfl, c', s, .inr ⟨h0, rfl, he⟩⟩

structure FInv (w0 : World) (F : List Int × Int) (hv ev : Value) (c : Nat → Nat) (wr : World) (rl : List Int) (N : Nat) (lo : Option Addr) (lcap : Nat) : Prop where
  st : Stp (2 ≤ ·) (fun _ => 0) c w0 wr
  row : Row c 6 wr 3 1 lo N lcap (rl.map (Value.int .i64))
  keep : KeepOf F hv ev c wr
  len : rl.length = N

def FoldRel (w0 : World) (ids : List Int) (q : Nat) (F : List Int × Int) (hv ev : Value) (v b i : Value) (wr : World) : Prop :=
  ∃ (c : Nat → Nat) (t : Nat) (rl : List Int) (rb : Int) (lo : Option Addr) (lcap N : Nat), v = .slice lo N lcap ∧ b = .int .i64 rb ∧ i = .int .i64 t ∧ t ≤ q ∧ (ids.take t).foldl addRef ([], 0) = (rl, rb) ∧ N ≤ t ∧ FInv w0 F hv ev c wr rl N lo lcap

set_option maxRecDepth 100000 in
set_option maxHeartbeats 4000000 in
theorem gplays_in {w : World} (ao bo : Option Addr) (n cap q qcap : Nat) (ops : List Op8) (ids : List Int) (hl : In (fun _ => 0) 0 w 2 ao n cap (ops.flatMap Op8.cells)) (hlen : ops.length = n) (hn : n ≤ 100)
    (hq : In (fun _ => 0) 0 w 1 bo q qcap (ids.map (Value.int .i64))) (hqn : q ≤ 50) :
    Calls Try.prog 9 #[.slice ao n cap, .slice bo q qcap] w fun e w' => e = .returned (.bool true) ∧ Below w.heap.size w w' := by
  have Hl := Lib.hid hl
  have Hq := Lib.hid hq
  have Hlen := Lib.hid hlen
  have g1 : decide ((100 : Int) < (n : Int)) = false := by simp; omega
  have g2 : decide ((50 : Int) < (q : Int)) = false := by simp; omega
  obtain ⟨c2, hc2, A2⟩ := ((Stp.refl (· = 2) (fun _ => 0) w).alloc (.cells #[.slice none 0 0] 47) 2).name
  have I2 := Lib.hid (show GInv w w.heap.size c2 (w.alloc (.cells #[.slice none 0 0] 47)) [] 0 none 0 from ⟨A2.out.up (by decide), ⟨none, 0, by rw [hc2.out]; exact Blk.new _ 2 w _ _, Row.nil _ _ _ _ _⟩, Row.nil _ _ _ _ _, rfl⟩)
  clear hl hq hlen hc2 A2
  go_enter Try.func9, Try.ntmps9
  go_wp2_with fail
  go_loopw [6, 28] (fun v i wr => PlaysRel8 w w.heap.size n v i wr) (fun _ i _ => n - (intOf i).toNat)
  case atStart => exact ⟨c2, [], 0, none, 0, 0, rfl, rfl, Nat.zero_le _, Nat.le_refl _, I2.out⟩
  case round =>
    obtain ⟨c, l, N, mo, mcap, j, rfl, rfl, hj, hNj, hinv⟩ := hrel
    have I := Lib.hid hinv
    clear hinv I2
    by_cases hlt : j < n
    · have hil : j < ops.length := by rw [Hlen.out]; exact hlt
      obtain ⟨x, hx⟩ : ∃ x, ops[j]? = some x := ⟨_, List.getElem?_eq_getElem hil⟩
      have hInr := Hl.out.stp I.out.st (by decide)
      obtain ⟨a, ha, y0⟩ := hInr.field Op8.len hx (f := 0) (v := .bool x.drop) rfl
      obtain ⟨a1, ha1, y1⟩ := hInr.field Op8.len hx (f := 1) (v := .int .i64 x.ix) rfl
      subst ha
      cases ha1
      have y1' : wr.cell? ⟨(a.add (j * 2)).block, (a.add (j * 2)).off + 1, none⟩ = some (.int .i64 x.ix) := by rw [← add_add'] at y1; exact y1
      rw [Nat.add_zero] at y0
      clear hInr hx y1 hil
      obtain ⟨c5, hc5, A5⟩ := ((Stp.refl (fun _ => False) c wr).alloc (.cells #[.bool x.drop, .int .i64 x.ix] 92) 0).name
      have I5 := Lib.hid (I.out.stp A5.out (fun _ h => h.elim))
      have X5 := Lib.hid (show Blk c5 0 _ wr.heap.size [.bool x.drop, .int .i64 x.ix] 92 by rw [hc5.out]; exact Blk.new c 0 wr _ _)
      obtain ⟨dr, ix⟩ := x
      simp only at y0 y1' I5 X5 ⊢
      clear hc5 A5 I
      have HN := Lib.hid I5.out.len
      have hN1 : N + 1 ≤ 101 := by omega
      have HN1 := Lib.hid hN1
      have HN2 := Lib.hid (show (l.length : Int) ≤ 100 by have := HN.out; omega)
      clear hN1
      go_upto_if 33 with fail
      obtain ⟨wb, hwb⟩ : ∃ wb : World, wb = wr.alloc (.cells #[.bool dr, .int .i64 ix] 92) := ⟨_, rfl⟩
      rw [← hwb] at I5 X5 ⊢
      clear hwb
      have x1 := X5.out.cell 1
      simp at x1
      clear y0 y1'
      go_cut [6, 9, 10] (fun s6 s9 s10 wx => ∃ (c' : Nat → Nat) (l' : List Int) (N' : Nat) (mo' : Option Addr) (mcap' : Nat) (e : Int), s6 = .slice mo' N' mcap' ∧ s10 = .int .i64 e ∧ GInv w w.heap.size c' wx l' N' mo' mcap' ∧ Err c' wx s9 e ∧ N' ≤ N + 1)
      case first =>
        cases dr
        · by_cases hv : gaddErr l ix = 0
          · have Hv := Lib.hid hv
            clear hv
            go_wp2_with fail
            refine (gadd_ok I5.out.gr ix Hv.out).mono ?_
            rintro e w6 ⟨rfl, c6, s6, g6⟩
            have z1 := (X5.out.stp s6 (by decide)).cell 1
            simp at z1
            have G6 := Lib.hid g6
            have R6 := Lib.hid (I5.out.row.stp s6 (by decide))
            have T6 := Lib.hid (I5.out.st.trans (s6.up (by decide)))
            clear s6 g6 x1
            go_wp2_with fail
            refine (r08add_ok R6.out.toIn HN.out 3 ix Hv.out).mono ?_
            rintro e w7 ⟨ao7, cap7, rfl, c7, s7, r7⟩
            have I7 := Lib.hid (show GInv w w.heap.size c7 w7 (l ++ [ix]) (N + 1) ao7 cap7 from ⟨T6.out.trans (s7.up (by decide)), G6.out.stp s7 (by decide), r7, by simp [HN.out]⟩)
            clear s7 r7 z1
            go_wp2
            go_meet
            exact ⟨c7, _, _, ao7, cap7, 0, rfl, rfl, I7.out, Err.nil _ _, by omega⟩
          · have Hv := Lib.hid hv
            clear hv
            go_wp2_with fail
            refine (gadd_bad I5.out.gr ix Hv.out).mono ?_
            rintro e w6 ⟨tt, vv, rfl, c6, s6, e6⟩
            have z1 := (X5.out.stp s6 id).cell 1
            simp at z1
            have I6 := Lib.hid (I5.out.stp s6 (fun _ h => h.elim))
            have E6 := Lib.hid (e6.err Hv.out)
            clear s6 e6 x1
            go_wp2_with fail
            refine (r08add_bad I6.out.row.toIn HN.out ix Hv.out).mono ?_
            rintro e w7 ⟨rfl, rfl⟩
            clear z1
            go_wp2
            go_meet
            exact ⟨c6, l, N, mo, mcap, gaddErr l ix, rfl, rfl, I6.out, E6.out, by omega⟩
        · by_cases hv : ix ∈ l
          · have Hv := Lib.hid hv
            clear hv
            go_wp2_with fail
            refine (gdrop_ok I5.out.gr ix Hv.out (by have := HN2.out; omega)).mono ?_
            rintro e w6 ⟨rfl, c6, s6, g6⟩
            have z1 := (X5.out.stp s6 (by decide)).cell 1
            simp at z1
            have G6 := Lib.hid g6
            have R6 := Lib.hid (I5.out.row.stp s6 (by decide))
            have T6 := Lib.hid (I5.out.st.trans (s6.up (by decide)))
            clear s6 g6 x1
            go_wp2_with fail
            refine (r08drop_ok R6.out.toIn HN.out (by have := HN1.out; omega) 3 ix Hv.out).mono ?_
            rintro e w7 ⟨ao7, cap7, rfl, c7, s7, r7⟩
            have I7 := Lib.hid (show GInv w w.heap.size c7 w7 (l.eraseIdx (l.idxOf ix)) (N - 1) ao7 cap7 from ⟨T6.out.trans (s7.up (by decide)), G6.out.stp s7 (by decide), r7, by rw [List.length_eraseIdx, if_pos (ixOf_in Hv.out).2, HN.out]⟩)
            clear s7 r7 z1
            go_wp2
            go_meet
            exact ⟨c7, _, _, ao7, cap7, 0, rfl, rfl, I7.out, Err.nil _ _, by omega⟩
          · have Hv := Lib.hid hv
            clear hv
            go_wp2_with fail
            refine (gdrop_bad I5.out.gr ix Hv.out).mono ?_
            rintro e w6 ⟨tt, vv, rfl, c6, s6, e6⟩
            have z1 := (X5.out.stp s6 id).cell 1
            simp at z1
            have I6 := Lib.hid (I5.out.stp s6 (fun _ h => h.elim))
            have E6 := Lib.hid (e6.err (by decide))
            clear s6 e6 x1
            go_wp2_with fail
            refine (r08drop_bad I6.out.row.toIn ix Hv.out).mono ?_
            rintro e w7 ⟨rfl, rfl⟩
            clear z1
            go_wp2
            go_meet
            exact ⟨c6, l, N, mo, mcap, 3, rfl, rfl, I6.out, E6.out, by omega⟩
      case rest =>
        obtain ⟨c6, l6, N6, mo6, mcap6, e6, rfl, rfl, hinv, herr, hN6⟩ := hcut
        have I6 := Lib.hid hinv
        have E6 := Lib.hid herr
        have HN6 := Lib.hid (show (l6.length : Int) ≤ 1048576 by rw [hinv.len]; have := HN1.out; omega)
        have HN7 := Lib.hid hinv.len
        clear hinv herr I5 X5 x1
        go_wp2_with (first
          | (go_at_call 49; refine (lawis_true8 E6.out).mono ?_; rintro e w9 ⟨rfl, rfl⟩)
          | (go_at_call 63; refine (glen_any I9.out.gr).mono ?_; rintro e w' ⟨rfl, rfl⟩; rw [HN7.out]))
        refine (gcells_any I6.out.gr 4 HN6.out).mono ?_
        rintro e w8 ⟨ao8, cap8, rfl, c8, s8, r8⟩
        rw [HN7.out] at r8 ⊢
        have I8 := Lib.hid (I6.out.stp s8 (fun _ h => h.elim))
        have R8 := Lib.hid r8
        clear s8 r8 I6 E6
        go_wp2_with fail
        refine (same08 R8.out.toIn I8.out.row.toIn rfl).mono ?_
        rintro e w9 ⟨rfl, s9⟩
        have I9 := Lib.hid (I8.out.stp s9 (fun _ h => h.elim))
        clear s9 I8 R8
        go_wp2_with (go_at_call 63; refine (glen_any I9.out.gr).mono ?_; rintro e w' ⟨rfl, rfl⟩; rw [HN7.out])
        go_roundw
        case rel => exact ⟨c8, l6, N6, mo6, mcap6, j + 1, rfl, by go_num, by omega, by omega, I9.out⟩
        case measure => simp [intOf]; omega
    · have HQ2 := Lib.hid (show ids.length = q by have := Hq.out.1; simpa using this)
      go_wp2_with fail
      refine (gof_keep (Hq.out.stp I.out.st (by decide))).mono ?_
      rintro e w5 ⟨hv, ev, rfl, c5, s5, k5⟩
      obtain ⟨F, hF⟩ : ∃ F, F = ids.foldl addRef ([], 0) := ⟨_, rfl⟩
      rw [← hF] at k5
      have HF := Lib.hid hF
      have Fi := Lib.hid (show FInv w F hv ev c5 w5 [] 0 none 0 from ⟨I.out.st.trans (s5.up (by decide)), Row.nil _ _ _ _ _, k5, rfl⟩)
      clear hF k5 s5 I hj hNj
      go_wp2_with fail
      clear hlt
      go_loopw [13, 14, 78] (fun v b i wr => FoldRel w ids q F hv ev v b i wr) (fun _ _ i _ => q - (intOf i).toNat)
      case atStart => exact ⟨c5, 0, [], 0, none, 0, 0, rfl, rfl, rfl, Nat.zero_le _, rfl, Nat.le_refl _, Fi.out⟩
      case round =>
        obtain ⟨c6, t, rl, rb, lo, lcap, N6, rfl, rfl, rfl, ht, hfold, hNt, hfi⟩ := hrel
        have Fo := Lib.hid hfold
        have F6 := Lib.hid hfi
        clear hfold hfi Fi
        by_cases hlt2 : t < q
        · obtain ⟨b, hb, y0⟩ := (Hq.out.stp F6.out.st (by decide)).ints hlt2
          subst hb
          obtain ⟨v, hv2⟩ : ∃ v, v = ids.getD t 0 := ⟨_, rfl⟩
          rw [← hv2] at y0
          have Hstep : Hid ((ids.take (t + 1)).foldl addRef ([], 0) = addRef (rl, rb) v) := Lib.hid (by rw [addRef_take (by rw [HQ2.out]; exact hlt2), Fo.out, ← hv2])
          clear hv2
          by_cases hrb : rb = 0
          · subst hrb
            by_cases hg : gaddErr rl v = 0
            · have Hg := Lib.hid hg
              clear hg
              go_wp2_with fail
              refine (r08add_ok F6.out.row.toIn F6.out.len 6 v Hg.out).mono ?_
              rintro e w7 ⟨ao7, cap7, rfl, c7, s7, r7⟩
              have F7 := Lib.hid (show FInv w F hv ev c7 w7 (rl ++ [v]) (N6 + 1) ao7 cap7 from ⟨F6.out.st.trans (s7.up (by decide)), r7, F6.out.keep.stp s7 (fun k hk => by omega), by simp [F6.out.len]⟩)
              clear s7 r7 y0
              go_wp2
              go_roundw
              case rel => exact ⟨c7, t + 1, _, 0, ao7, cap7, N6 + 1, rfl, rfl, by go_num, by omega, by rw [Hstep.out]; simp [addRef, Hg.out], by omega, F7.out⟩
              case measure => simp [intOf]; omega
            · have Hg := Lib.hid hg
              clear hg
              go_wp2_with fail
              refine (r08add_bad F6.out.row.toIn F6.out.len v Hg.out).mono ?_
              rintro e w7 ⟨rfl, rfl⟩
              clear y0
              go_wp2
              go_roundw
              case rel => exact ⟨c6, t + 1, rl, gaddErr rl v, lo, lcap, N6, rfl, rfl, by go_num, by omega, by rw [Hstep.out]; simp [addRef, Hg.out], by omega, F6.out⟩
              case measure => simp [intOf]; omega
          · have tb : (rb == 0) = false := by simpa using hrb
            have Hrb := Lib.hid hrb
            clear hrb
            go_wp2
            go_roundw
            case rel => exact ⟨c6, t + 1, rl, rb, lo, lcap, N6, rfl, rfl, by go_num, by omega, by rw [Hstep.out]; simp [addRef, Hrb.out], by omega, F6.out⟩
            case measure => simp [intOf]; omega
        · have hFe : Hid (F = (rl, rb)) := Lib.hid (by
            have h1 := Fo.out
            rw [List.take_of_length_le (by rw [HQ2.out]; omega)] at h1
            rw [HF.out, h1])
          have HN6 := Lib.hid (show (rl.length : Int) ≤ 1048576 by rw [F6.out.len]; omega)
          have HN7 := Lib.hid F6.out.len
          go_wp2_with fail
          refine (awake8K 7 c6 _).mono ?_
          rintro e w9 ⟨rfl, c9, s9⟩
          have S9 := Lib.hid (F6.out.st.trans (s9.mono (J' := (2 ≤ ·)) (fun k hk => by omega)))
          have R9 := Lib.hid (F6.out.row.stp s9 (by decide))
          have K9 := Lib.hid (F6.out.keep.stp s9 (fun k hk => by omega))
          clear s9 F6
          rcases K9.out with ⟨h0, p, rfl, rfl, hgr⟩ | ⟨h0, rfl, herr⟩
          · obtain rfl : rb = 0 := by rw [hFe.out] at h0; exact h0
            have G9 := Lib.hid (show GroupAt c9 5 w9 p rl by rw [hFe.out] at hgr; exact hgr)
            have E9 := Lib.hid (Err.nil c9 w9)
            clear h0 hgr K9
            go_wp2_with (go_at_call 49; refine (lawis_true8 E9.out).mono ?_; rintro e w' ⟨rfl, rfl⟩)
            refine (gcells_any G9.out 8 HN6.out).mono ?_
            rintro e w10 ⟨ao8, cap8, rfl, c8, s8, r8⟩
            rw [HN7.out] at r8 ⊢
            have R10 := Lib.hid (R9.out.stp s8 id)
            have S10 := Lib.hid (S9.out.trans (s8.mono (fun _ h => h.elim)))
            have Q10 := Lib.hid r8
            clear s8 r8
            go_wp2_with fail
            refine (same08 Q10.out.toIn R10.out.toIn rfl).mono ?_
            rintro e w11 ⟨rfl, s11⟩
            have S11 := Lib.hid (S10.out.trans (s11.mono (fun _ h => h.elim)))
            clear s11
            go_wp2
            go_ret
            exact ⟨rfl, S11.out.fin⟩
          · have hrb : rb ≠ 0 := by rw [hFe.out] at h0; exact h0
            have E9 := Lib.hid (show Err c9 w9 ev rb by rw [hFe.out] at herr; exact herr.err hrb)
            have t1 : (rb != 0) = true := by simpa using hrb
            clear h0 herr K9 hrb
            go_wp2_with (go_at_call 49; refine (lawis_true8 E9.out).mono ?_; rintro e w' ⟨rfl, rfl⟩)
            go_ret
            exact ⟨rfl, S9.out.fin⟩

set_option maxRecDepth 100000 in
theorem gplays_out {w : World} (ao bo : Option Addr) (n cap q qcap : Nat) (h : 100 < n ∨ 50 < q) :
    Calls Try.prog 9 #[.slice ao n cap, .slice bo q qcap] w fun e w' => e = .returned (.bool true) ∧ Below w.heap.size w w' := by
  rcases (show decide ((100 : Int) < (n : Int)) = true ∨ (decide ((100 : Int) < (n : Int)) = false ∧ decide ((50 : Int) < (q : Int)) = true) by
    by_cases h1 : 100 < n
    · exact .inl (by simp; omega)
    · exact .inr ⟨by simp; omega, by simp; omega⟩) with t1 | ⟨t1, t2⟩
  all_goals
    clear h
    go_enter Try.func9, Try.ntmps9
    go_wp2_with fail
    refine (awake8K 2 (fun _ => 0) _).mono ?_
    rintro e w2 ⟨rfl, c2, s2⟩
    have S2 := Lib.hid s2
    clear s2
    go_wp2
    go_ret
    exact ⟨rfl, S2.out.fin⟩

theorem dec_op8 {H : Type} {enc : TypeId × Value → H} {w : World} {base : Nat} {spare : Nat → Bool} {held : Bool} (n : Nat) (cs : List Value) (y : DataW H × List MemPlace) (h : DataW.trod enc Try.prog w base spare held n 92 cs = some y) : ∃ x : Op8, cs = x.cells ∧ True := by
  obtain ⟨hl, n', hf⟩ := dec_fields Try.underlying92 (by kernel_rfl) (by kernel_rfl) h
  obtain ⟨v0, z0, c0, t0⟩ := hf 0 _ rfl
  obtain ⟨v1, z1, c1, t1⟩ := hf 1 _ rfl
  obtain ⟨x0, e0, _⟩ := DataW.trod_bool Try.underlying4 t0
  obtain ⟨x1, e1, _, _⟩ := DataW.trod_int Try.underlying3 t1
  match cs, hl with
  | [a, b], _ =>
    simp at c0 c1 e0 e1
    subst c0 c1 e0 e1
    exact ⟨⟨x0, x1⟩, rfl, trivial⟩

theorem gplays_walk {w : World} (ao bo : Option Addr) (n cap q qcap : Nat) (ops : List Op8) (ids : List Int) (hl : In (fun _ => 0) 0 w 2 ao n cap (ops.flatMap Op8.cells)) (hlen : ops.length = n)
    (hq : In (fun _ => 0) 0 w 1 bo q qcap (ids.map (Value.int .i64))) :
    Calls Try.prog 9 #[.slice ao n cap, .slice bo q qcap] w fun e w' => e = .returned (.bool true) ∧ Below w.heap.size w w' := by
  by_cases h : 100 < n ∨ 50 < q
  · exact gplays_out ao bo n cap q qcap h
  · exact gplays_in ao bo n cap q qcap ops ids hl hlen (by omega) hq (by omega)
end Go.Proofs.Ytmhhhiegioniaaa
