/- The walk of the law ActorPlays. No condition. -/
import Derived.Test.YtmhhhiegioniaaaActor6
import Derived.Test.YtmhhhiegioniaaaActorWakes
import Derived.Test.YtmhhhiegioniaaaMem4
import Derived.Test.YtmhhhiegioniaaaMem6
import Derived.Deep.DeepCutAuto
import Derived.Deep.CutBlock
namespace Go.Proofs.Ytmhhhiegioniaaa
open Go.RowKit Go.ChangeShapes Go.WideShapes Go.Deep Go.Joins

structure Op5 where
  kd : Int
  ix : Int
def Op5.cells (x : Op5) : List Value := [.int .i64 x.kd, .int .i64 x.ix]
theorem Op5.len (x : Op5) : x.cells.length = 2 := rfl

theorem lawis_true5 {c : Nat → Nat} {w : World} {v : Value} {m : Int} (h : Err c w v m) :
    Calls Try.prog 49 #[v, .int .i64 m] w fun e w' => e = .returned (.bool true) ∧ w = w' :=
  (lawis h m).mono fun _ _ ⟨he, hw⟩ => ⟨by simpa using he, hw⟩

/-- Both tables hold the same. -/
structure AInv (w0 : World) (t m : Nat) (c : Nat → Nat) (wr : World) (l : List One) (n : Nat) : Prop where
  st : Stp (2 ≤ ·) (fun _ => 0) c w0 wr
  tab : TableAt c 2 wr t l
  ref : RTabAt c wr m l
  len : l.length ≤ n
  wk : ∀ x ∈ l, 0 ≤ x.wakes ∧ x.wakes ≤ n

theorem AInv.stp {w0 : World} {t m : Nat} {c c' : Nat → Nat} {wr w' : World} {l : List One} {n : Nat} (h : AInv w0 t m c wr l n) (s : Stp (fun _ => False) c c' wr w') : AInv w0 t m c' w' l n :=
  ⟨h.st.trans (s.mono (fun _ h => h.elim)), h.tab.stp s id, h.ref.stp s id id id id, h.len, h.wk⟩
theorem AInv.drewN {w0 : World} {t m : Nat} {c : Nat → Nat} {wr : World} {l : List One} {n : Nat} (h : AInv w0 t m c wr l n) (d : Nat) : AInv w0 t m c (wr.drewN d) l n :=
  h.stp ((Stp.refl _ c wr).drewN d)
theorem AInv.up {w0 : World} {t m : Nat} {c : Nat → Nat} {wr : World} {l : List One} {n n' : Nat} (h : AInv w0 t m c wr l n) (hn : n ≤ n') : AInv w0 t m c wr l n' :=
  ⟨h.st, h.tab, h.ref, Nat.le_trans h.len hn, fun x hx => ⟨(h.wk x hx).1, by have := (h.wk x hx).2; omega⟩⟩

/-- The table's step and the document's behind it. -/
theorem AInv.two {w0 : World} {t m : Nat} {c c1 c2 : Nat → Nat} {wr w1 w2 : World} {l l' : List One} {n : Nat} (h : AInv w0 t m c wr l n) (s1 : Stp (· = 2) c c1 wr w1) (s2 : Stp (3 ≤ ·) c1 c2 w1 w2)
    (ht : TableAt c1 2 w1 t l') (hr : RTabAt c2 w2 m l') (hl : l'.length ≤ n + 1) (hw : ∀ x ∈ l', 0 ≤ x.wakes ∧ x.wakes ≤ ((n + 1 : Nat) : Int)) : AInv w0 t m c2 w2 l' (n + 1) :=
  ⟨(h.st.trans (s1.up (by decide))).trans (s2.mono (fun k hk => by omega)), ht.stp s2 (by decide), hr, hl, hw⟩

theorem wrap_len {n : Nat} (h : (n : Int) < 64) : wrap64 (n : Int) = n := IntWalk.wrap64_in _ (by constructor <;> omega)
theorem small_wakes {x : Int} {j n : Nat} (h : x ≤ (j : Int)) (hj : j ≤ n) (hn : n ≤ 150) : x < 4611686018427387904 := by omega

theorem wrong_open {l : List One} {ix : Int} (h : ¬ wrongAt l ix ≠ 0) : ∃ (k : Nat) (x : One), ix = k ∧ l[k]? = some x ∧ x.state ≠ 2 := by
  have h0 : wrongAt l ix = 0 := Decidable.not_not.1 h
  by_cases h1 : ix < 0 ∨ (l.length : Int) ≤ ix
  · simp [wrongAt, h1] at h0
  · obtain ⟨k, rfl⟩ := Int.eq_ofNat_of_zero_le (show 0 ≤ ix by omega)
    have hk : k < l.length := by omega
    have hx : l[k]? = some l[k] := List.getElem?_eq_getElem hk
    refine ⟨k, l[k], rfl, hx, fun e => ?_⟩
    rw [wrong_eq hx, if_pos e] at h0
    cases h0

def PlaysRel5 (w0 : World) (t m n : Nat) (i : Value) (wr : World) : Prop :=
  ∃ (c : Nat → Nat) (l : List One) (j : Nat), i = .int .i64 j ∧ j ≤ n ∧ AInv w0 t m c wr l j

theorem wk_set {l : List One} {j n : Nat} {x y : One} (h : ∀ x ∈ l, 0 ≤ x.wakes ∧ x.wakes ≤ (n : Int)) (hj : l[j]? = some x) (hy : 0 ≤ y.wakes ∧ y.wakes ≤ x.wakes + 1) : ∀ z ∈ l.set j y, 0 ≤ z.wakes ∧ z.wakes ≤ ((n + 1 : Nat) : Int) := by
  intro z hz
  have hx := h x (List.mem_of_getElem? hj)
  rcases List.mem_or_eq_of_mem_set hz with hz | rfl
  · have := h z hz
    omega
  · omega

/-- What holds behind all steps. -/
structure AFin (w0 : World) (t : Nat) (c : Nat → Nat) (wr : World) (l : List One) (rd : List Int) (N : Nat) (ao bo : Option Addr) (cap bcap : Nat) : Prop where
  st : Stp (2 ≤ ·) (fun _ => 0) c w0 wr
  tab : TableAt c 2 wr t l
  r1 : Row c 7 wr 3 1 ao N cap (rd.map (Value.int .i64))
  r2 : Row c 8 wr 3 1 bo N bcap (rd.map (Value.int .i64))

theorem AFin.stp {J : Nat → Prop} {w0 : World} {t : Nat} {c c' : Nat → Nat} {wr w' : World} {l : List One} {rd : List Int} {N : Nat} {ao bo : Option Addr} {cap bcap : Nat} (h : AFin w0 t c wr l rd N ao bo cap bcap) (s : Stp J c c' wr w') (hJ : ∀ k, J k → k = 9) : AFin w0 t c' w' l rd N ao bo cap bcap :=
  ⟨h.st.trans (s.mono (fun k hk => by rw [hJ k hk]; decide)), h.tab.stp s (fun h => by have := hJ _ h; omega), h.r1.stp s (fun h => by have := hJ _ h; omega), h.r2.stp s (fun h => by have := hJ _ h; omega)⟩

theorem wrap_150 {t n : Nat} (h : t < n) (hn : n ≤ 150) : wrap64 ((t : Int) + n) = t + n := IntWalk.wrap64_in _ (by constructor <;> omega)
theorem wrap_152 {t n : Nat} (h : t < n) (hn : n ≤ 150) : wrap64 (t : Int) = t := IntWalk.wrap64_in _ (by constructor <;> omega)
theorem wrap_151 {t n : Nat} (h : t < n) (hn : n ≤ 150) : wrap64 ((t : Int) - n + n) = t := by
  rw [Int.sub_add_cancel]
  exact IntWalk.wrap64_in _ (by constructor <;> omega)

theorem tmod_add_self {t n : Nat} (h : t < n) : ((t : Int) + n).tmod n = t ∧ ((t : Int)).tmod n = t := by
  constructor
  · rw [Int.tmod_eq_emod_of_nonneg (by omega), Int.add_emod_right, Int.emod_eq_of_lt (by omega) (by omega)]
  · rw [Int.tmod_eq_emod_of_nonneg (by omega), Int.emod_eq_of_lt (by omega) (by omega)]

set_option maxRecDepth 100000 in
set_option maxHeartbeats 4000000 in
theorem aplays_in {w : World} (ao bo : Option Addr) (n cap q qcap : Nat) (ops : List Op5) (picks : List Int) (hl : In (fun _ => 0) 0 w 2 ao n cap (ops.flatMap Op5.cells)) (hlen : ops.length = n) (hn : n ≤ 150)
    (hq : In (fun _ => 0) 0 w 1 bo q qcap (picks.map (Value.int .i64))) (hqn : q ≤ 20) :
    Calls Try.prog 8 #[.slice ao n cap, .slice bo q qcap] w fun e w' => e = .returned (.bool true) ∧ Below w.heap.size w w' := by
  have Hl := Lib.hid hl
  have Hq := Lib.hid hq
  have Hlen := Lib.hid hlen
  have g1 : decide ((150 : Int) < (n : Int)) = false := by simp; omega
  have g2 : decide ((20 : Int) < (q : Int)) = false := by simp; omega
  clear hl hq hlen
  go_enter Try.func8, Try.ntmps8
  go_wp2_with fail
  refine (anew_any (fun _ => 0) 2 _).mono ?_
  rintro e w1 ⟨rfl, c1, s1, h1⟩
  obtain ⟨c2, hc2, A2⟩ := ((Stp.refl (· = 3) c1 w1).alloc (.cells #[.slice none 0 0, .slice none 0 0, .slice none 0 0] 78) 3).name
  have I2 := Lib.hid (show AInv w w.heap.size w1.heap.size c2 _ [] 0 from ⟨(s1.up (by decide)).trans (A2.out.up (by decide)), h1.stp A2.out (by decide), ⟨none, none, none, 0, 0, 0, by rw [hc2.out]; exact Blk.new c1 3 w1 _ _, Row.nil _ _ _ _ _, Row.nil _ _ _ _ _, Row.nil _ _ _ _ _⟩, Nat.le_refl _, by simp⟩)
  clear s1 h1 hc2 A2
  go_wp2_with fail
  go_loopw [46] (fun i wr => PlaysRel5 w w.heap.size w1.heap.size n i wr) (fun i _ => n - (intOf i).toNat)
  case atStart => exact ⟨c2, [], 0, rfl, Nat.zero_le _, I2.out⟩
  case round =>
    obtain ⟨c, l, j, rfl, hj, hinv⟩ := hrel
    have I := Lib.hid hinv
    clear hinv I2
    by_cases hlt : j < n
    · have hil : j < ops.length := by rw [Hlen.out]; exact hlt
      obtain ⟨x, hx⟩ : ∃ x, ops[j]? = some x := ⟨_, List.getElem?_eq_getElem hil⟩
      have hInr := Hl.out.stp I.out.st (by decide)
      obtain ⟨a, ha, y0⟩ := hInr.field Op5.len hx (f := 0) (v := .int .i64 x.kd) rfl
      obtain ⟨a1, ha1, y1⟩ := hInr.field Op5.len hx (f := 1) (v := .int .i64 x.ix) rfl
      subst ha
      cases ha1
      have y1' : wr.cell? ⟨(a.add (j * 2)).block, (a.add (j * 2)).off + 1, none⟩ = some (.int .i64 x.ix) := by rw [← add_add'] at y1; exact y1
      rw [Nat.add_zero] at y0
      clear hInr hx y1 hil
      obtain ⟨c5, hc5, A5⟩ := ((Stp.refl (fun _ => False) c wr).alloc (.cells #[.int .i64 x.kd, .int .i64 x.ix] 80) 0).name
      have I5 := Lib.hid (I.out.stp A5.out)
      have X5 := Lib.hid (show Blk c5 0 _ wr.heap.size [.int .i64 x.kd, .int .i64 x.ix] 80 by rw [hc5.out]; exact Blk.new c 0 wr _ _)
      obtain ⟨kd, ix⟩ := x
      simp only at y0 y1' I5 X5 ⊢
      clear hc5 A5 I
      go_upto_block 2 with fail
      clear y0 y1'
      obtain ⟨wb, hwb⟩ : ∃ wb : World, wb = wr.alloc (.cells #[.int .i64 kd, .int .i64 ix] 80) := ⟨_, rfl⟩
      rw [← hwb] at I5 X5 ⊢
      have x0 := X5.out.cell 0
      have x1 := X5.out.cell 1
      simp at x0 x1
      clear hwb
      have Hb := Lib.hid (show wr.heap.size < wb.heap.size from X5.out.lt)
      go_cut [] (fun wx => ∃ (c' : Nat → Nat) (l' : List One), AInv w w.heap.size w1.heap.size c' wx l' (j + 1))
      case first =>
        by_cases k0 : kd = 0
        · as_aux_lemma =>
            subst k0
            by_cases hfull : 64 ≤ (l.length : Int)
            · have Hf := Lib.hid hfull
              clear hfull
              go_wp2_with fail
              refine (aadd_full I5.out.tab Hf.out).mono ?_
              rintro e w6 ⟨tt, vv, rfl, c6, s6, e6⟩
              have I6 := Lib.hid (I5.out.stp s6)
              have E6 := Lib.hid (e6.err (by decide))
              clear s6 e6
              go_wp2_with fail
              refine (r05add_full I6.out.ref Hf.out).mono ?_
              rintro e w7 ⟨rfl, rfl⟩
              go_wp2_with (go_at_call 49; refine (lawis_true5 E6.out).mono ?_; rintro e w9 ⟨rfl, rfl⟩)
              go_meet
              exact ⟨c6, l, I6.out.up (by omega)⟩
            · have Hf := Lib.hid (show (l.length : Int) < 64 by omega)
              clear hfull
              go_wp2_with fail
              refine (aadd_ok I5.out.tab Hf.out).mono ?_
              rintro e w6 ⟨rfl, c6, s6, t6⟩
              have R6 := Lib.hid (I5.out.ref.stp s6 (by decide) (by decide) (by decide) (by decide))
              have T6 := Lib.hid t6
              have S6 := Lib.hid s6
              clear t6 s6
              go_wp2_with fail
              refine (r05add_ok R6.out Hf.out).mono ?_
              rintro e w7 ⟨rfl, c7, s7, r7⟩
              have I7 := Lib.hid (I5.out.two S6.out s7 T6.out r7 (by have := I5.out.len; simp; omega) (fun z hz => by
                rcases List.mem_append.1 hz with hz | hz
                · have := I5.out.wk z hz; omega
                · simp at hz; subst hz; simp; omega))
              have E7 := Lib.hid (Err.nil c7 w7)
              have W1 := wrap_len Hf.out
              obtain ⟨sa, ta, wa, sc, tc, wc', h7⟩ := I7.out.ref
              have q0 := h7.hb.cell 0
              simp at q0
              clear s7 r7 R6 T6 S6 h7
              go_wp2_with (go_at_call 49; refine (lawis_true5 E7.out).mono ?_; rintro e w9 ⟨rfl, rfl⟩)
              go_meet
              exact ⟨c7, _, I7.out⟩
        by_cases k1 : kd = 1
        · as_aux_lemma =>
            subst k1
            clear k0
            by_cases hw : wrongAt l ix ≠ 0
            · have Hw := Lib.hid hw
              clear hw
              go_wp2_with fail
              refine (apark_bad I5.out.tab ix Hw.out).mono ?_
              rintro e w6 ⟨ev, rfl, c6, s6, e6⟩
              have I6 := Lib.hid (I5.out.stp s6)
              have E6 := Lib.hid (e6.err Hw.out)
              have z1 := (X5.out.stp s6 id).cell 1
              simp at z1
              clear s6 e6 x1
              go_wp2_with fail
              refine (r05park_bad I6.out.ref ix Hw.out).mono ?_
              rintro e w7 ⟨rfl, rfl⟩
              clear z1
              go_wp2_with (go_at_call 49; refine (lawis_true5 E6.out).mono ?_; rintro e w9 ⟨rfl, rfl⟩)
              go_meet
              exact ⟨c6, l, I6.out.up (by omega)⟩
            · obtain ⟨k, x, rfl, hk, hx⟩ := wrong_open hw
              have Hk := Lib.hid hk
              have Hx := Lib.hid hx
              clear hw hk hx
              by_cases ht : x.token = true
              · have Ht := Lib.hid ht
                clear ht
                go_wp2_with fail
                refine (apark_token I5.out.tab k Hk.out Hx.out Ht.out).mono ?_
                rintro e w6 ⟨rfl, c6, s6, t6⟩
                have z1 := (X5.out.stp s6 (by decide)).cell 1
                simp at z1
                have R6 := Lib.hid (I5.out.ref.stp s6 (by decide) (by decide) (by decide) (by decide))
                have T6 := Lib.hid t6
                have S6 := Lib.hid s6
                clear t6 s6 x1
                go_wp2_with fail
                refine (r05park_token R6.out k Hk.out Hx.out Ht.out).mono ?_
                rintro e w7 ⟨rfl, c7, s7, r7⟩
                have I7 := Lib.hid (I5.out.two S6.out s7 T6.out r7 (by have := I5.out.len; simp; omega) (wk_set I5.out.wk Hk.out (by have := I5.out.wk _ (List.mem_of_getElem? Hk.out); simp; omega)))
                have E7 := Lib.hid (Err.nil c7 w7)
                clear s7 r7 z1 R6 T6 S6
                go_wp2_with (go_at_call 49; refine (lawis_true5 E7.out).mono ?_; rintro e w9 ⟨rfl, rfl⟩)
                go_meet
                exact ⟨c7, _, I7.out⟩
              · have Ht := Lib.hid (show x.token = false by simpa using ht)
                clear ht
                go_wp2_with fail
                refine (apark_yes I5.out.tab k Hk.out Hx.out Ht.out).mono ?_
                rintro e w6 ⟨rfl, c6, s6, t6⟩
                have z1 := (X5.out.stp s6 (by decide)).cell 1
                simp at z1
                have R6 := Lib.hid (I5.out.ref.stp s6 (by decide) (by decide) (by decide) (by decide))
                have T6 := Lib.hid t6
                have S6 := Lib.hid s6
                clear t6 s6 x1
                go_wp2_with fail
                refine (r05park_yes R6.out k Hk.out Hx.out Ht.out).mono ?_
                rintro e w7 ⟨rfl, c7, s7, r7⟩
                have I7 := Lib.hid (I5.out.two S6.out s7 T6.out r7 (by have := I5.out.len; simp; omega) (wk_set I5.out.wk Hk.out (by have := I5.out.wk _ (List.mem_of_getElem? Hk.out); simp; omega)))
                have E7 := Lib.hid (Err.nil c7 w7)
                clear s7 r7 z1 R6 T6 S6
                go_wp2_with (go_at_call 49; refine (lawis_true5 E7.out).mono ?_; rintro e w9 ⟨rfl, rfl⟩)
                go_meet
                exact ⟨c7, _, I7.out⟩
        by_cases k2 : kd = 2
        · as_aux_lemma =>
            subst k2
            clear k0 k1
            by_cases hw : wrongAt l ix ≠ 0
            · have Hw := Lib.hid hw
              clear hw
              go_wp2_with fail
              refine (awake_bad I5.out.tab ix Hw.out).mono ?_
              rintro e w6 ⟨ev, rfl, c6, s6, e6⟩
              have I6 := Lib.hid (I5.out.stp s6)
              have E6 := Lib.hid (e6.err Hw.out)
              have z1 := (X5.out.stp s6 id).cell 1
              simp at z1
              clear s6 e6 x1
              go_wp2_with fail
              refine (r05wake_bad I6.out.ref ix Hw.out).mono ?_
              rintro e w7 ⟨rfl, rfl⟩
              clear z1
              go_wp2_with (go_at_call 49; refine (lawis_true5 E6.out).mono ?_; rintro e w9 ⟨rfl, rfl⟩)
              go_meet
              exact ⟨c6, l, I6.out.up (by omega)⟩
            · obtain ⟨k, x, rfl, hk, hx⟩ := wrong_open hw
              have Hk := Lib.hid hk
              have Hx := Lib.hid hx
              clear hw hk hx
              have Hwk := Lib.hid (I5.out.wk x (List.mem_of_getElem? Hk.out))
              have Hwk2 := Lib.hid (small_wakes Hwk.out.2 hj hn)
              by_cases ht : x.state = 1
              · have Ht := Lib.hid ht
                clear ht
                go_wp2_with fail
                refine (awake_parked I5.out.tab k Hk.out Ht.out Hwk.out.1 Hwk2.out).mono ?_
                rintro e w6 ⟨rfl, c6, s6, t6⟩
                have z1 := (X5.out.stp s6 (by decide)).cell 1
                simp at z1
                have R6 := Lib.hid (I5.out.ref.stp s6 (by decide) (by decide) (by decide) (by decide))
                have T6 := Lib.hid t6
                have S6 := Lib.hid s6
                clear t6 s6 x1
                go_wp2_with fail
                refine (r05wake_parked R6.out k Hk.out Ht.out Hwk.out.1 Hwk2.out).mono ?_
                rintro e w7 ⟨rfl, c7, s7, r7⟩
                have I7 := Lib.hid (I5.out.two S6.out s7 T6.out r7 (by have := I5.out.len; simp; omega) (wk_set I5.out.wk Hk.out (by have := I5.out.wk _ (List.mem_of_getElem? Hk.out); simp; omega)))
                have E7 := Lib.hid (Err.nil c7 w7)
                clear s7 r7 z1 R6 T6 S6
                go_wp2_with (go_at_call 49; refine (lawis_true5 E7.out).mono ?_; rintro e w9 ⟨rfl, rfl⟩)
                go_meet
                exact ⟨c7, _, I7.out⟩
              · have Ht := Lib.hid ht
                clear ht
                go_wp2_with fail
                refine (awake_ready I5.out.tab k Hk.out Hx.out Ht.out Hwk.out.1 Hwk2.out).mono ?_
                rintro e w6 ⟨rfl, c6, s6, t6⟩
                have z1 := (X5.out.stp s6 (by decide)).cell 1
                simp at z1
                have R6 := Lib.hid (I5.out.ref.stp s6 (by decide) (by decide) (by decide) (by decide))
                have T6 := Lib.hid t6
                have S6 := Lib.hid s6
                clear t6 s6 x1
                go_wp2_with fail
                refine (r05wake_ready R6.out k Hk.out Hx.out Ht.out Hwk.out.1 Hwk2.out).mono ?_
                rintro e w7 ⟨rfl, c7, s7, r7⟩
                have I7 := Lib.hid (I5.out.two S6.out s7 T6.out r7 (by have := I5.out.len; simp; omega) (wk_set I5.out.wk Hk.out (by have := I5.out.wk _ (List.mem_of_getElem? Hk.out); simp; omega)))
                have E7 := Lib.hid (Err.nil c7 w7)
                clear s7 r7 z1 R6 T6 S6
                go_wp2_with (go_at_call 49; refine (lawis_true5 E7.out).mono ?_; rintro e w9 ⟨rfl, rfl⟩)
                go_meet
                exact ⟨c7, _, I7.out⟩
        by_cases k3 : kd = 3
        · as_aux_lemma =>
            subst k3
            clear k0 k1 k2
            by_cases hw : wrongAt l ix ≠ 0
            · have Hw := Lib.hid hw
              have tw : (wrongAt l ix == 0) = false := by simpa using hw
              clear hw
              go_wp2_with fail
              refine (r05wrong_any I5.out.ref ix).mono ?_
              rintro e w6 ⟨rfl, rfl⟩
              go_wp2_with fail
              refine (aclear_bad I5.out.tab ix Hw.out).mono ?_
              rintro e w6 ⟨ev, rfl, c6, s6, e6⟩
              have I6 := Lib.hid (I5.out.stp s6)
              have E6 := Lib.hid (e6.err Hw.out)
              clear s6 e6 x1
              go_wp2_with (go_at_call 49; refine (lawis_true5 E6.out).mono ?_; rintro e w9 ⟨rfl, rfl⟩)
              go_meet
              exact ⟨c6, l, I6.out.up (by omega)⟩
            · obtain ⟨k, x, rfl, hk, hx⟩ := wrong_open hw
              have Hk := Lib.hid hk
              have Hx := Lib.hid hx
              clear hw hk hx
              go_wp2_with fail
              refine (r05wrong_ok I5.out.ref Hk.out Hx.out).mono ?_
              rintro e w6 ⟨rfl, rfl⟩
              go_wp2_with fail
              refine (aclear_ok I5.out.tab k Hk.out Hx.out).mono ?_
              rintro e w6 ⟨rfl, c6, s6, t6⟩
              have z1 := (X5.out.stp s6 (by decide)).cell 1
              simp at z1
              have E6 := Lib.hid (Err.nil c6 w6)
              have R6 := Lib.hid (I5.out.ref.stp s6 (by decide) (by decide) (by decide) (by decide))
              have T6 := Lib.hid t6
              have S6 := Lib.hid s6
              obtain ⟨sa, ta, wa, sc, tc, wc', h6⟩ := R6.out
              obtain ⟨g, off, rfl, q1, qf1, qg1⟩ := h6.rt.open1 Hk.out
              have b1 := h6.hb.cell 1
              simp [tkOf] at b1 q1
              have hkl := (List.getElem?_eq_some_iff.1 Hk.out).1
              have Hkl := Lib.hid hkl
              have Qg1 := Lib.hid qg1
              have H6 := Lib.hid h6
              have hnp2 : g ≠ w1.heap.size := by have := h6.hb.1; rintro rfl; omega
              clear t6 s6 x1 h6 qg1 
              go_wp2_with (go_at_call 49; refine (lawis_true5 E6.out).mono ?_; rintro e w9 ⟨rfl, rfl⟩)
              go_region
              all_goals
                go_wp2
                go_meet
                have st : Stp (3 ≤ ·) c6 c6 w6 _ := ((Stp.refl (3 ≤ ·) c6 w6).setCell (p := ⟨g, off + k, none⟩) (.bool false) (by show 3 ≤ c6 g; have := Qg1.out; omega)).drew
                have hr2 := (H6.out.setToken Hk.out false).stp ((Stp.refl (fun _ => False) c6 _).drew) id id id id
                exact ⟨c6, _, I5.out.two S6.out st T6.out ⟨_, _, _, _, _, _, hr2⟩ (by have := I5.out.len; simp; omega) (wk_set I5.out.wk Hk.out (by have := I5.out.wk _ (List.mem_of_getElem? Hk.out); simp; omega))⟩
        by_cases k4 : kd = 4
        · as_aux_lemma =>
            subst k4
            clear k0 k1 k2 k3
            by_cases hw : wrongAt l ix ≠ 0
            · have Hw := Lib.hid hw
              have tw : (wrongAt l ix == 0) = false := by simpa using hw
              clear hw
              go_wp2_with fail
              refine (r05wrong_any I5.out.ref ix).mono ?_
              rintro e w6 ⟨rfl, rfl⟩
              go_wp2_with fail
              refine (ahalt_bad I5.out.tab ix Hw.out).mono ?_
              rintro e w6 ⟨ev, rfl, c6, s6, e6⟩
              have I6 := Lib.hid (I5.out.stp s6)
              have E6 := Lib.hid (e6.err Hw.out)
              clear s6 e6 x1
              go_wp2_with (go_at_call 49; refine (lawis_true5 E6.out).mono ?_; rintro e w9 ⟨rfl, rfl⟩)
              go_meet
              exact ⟨c6, l, I6.out.up (by omega)⟩
            · obtain ⟨k, x, rfl, hk, hx⟩ := wrong_open hw
              have Hk := Lib.hid hk
              have Hx := Lib.hid hx
              clear hw hk hx
              go_wp2_with fail
              refine (r05wrong_ok I5.out.ref Hk.out Hx.out).mono ?_
              rintro e w6 ⟨rfl, rfl⟩
              go_wp2_with fail
              refine (ahalt_ok I5.out.tab k Hk.out Hx.out).mono ?_
              rintro e w6 ⟨rfl, c6, s6, t6⟩
              have z1 := (X5.out.stp s6 (by decide)).cell 1
              simp at z1
              have E6 := Lib.hid (Err.nil c6 w6)
              have R6 := Lib.hid (I5.out.ref.stp s6 (by decide) (by decide) (by decide) (by decide))
              have T6 := Lib.hid t6
              have S6 := Lib.hid s6
              obtain ⟨sa, ta, wa, sc, tc, wc', h6⟩ := R6.out
              obtain ⟨g, off, rfl, q1, qf1, qg1⟩ := h6.rt.open1 Hk.out
              obtain ⟨g2, off2, rfl, q2, qf2, qg2⟩ := h6.rs.open1 Hk.out
              have b0 := h6.hb.cell 0
              have b1 := h6.hb.cell 1
              simp [tkOf, stOf] at b0 b1 q1 q2
              have hkl := (List.getElem?_eq_some_iff.1 Hk.out).1
              have Hkl := Lib.hid hkl
              have Qg1 := Lib.hid qg1
              have Qg2 := Lib.hid qg2
              have H6 := Lib.hid h6
              have hne : g2 ≠ g := by rintro rfl; omega
              have hnp : g2 ≠ w1.heap.size := by have := h6.hb.1; rintro rfl; omega
              have hnp3 : g2 ≠ wr.heap.size := by have := (X5.out.stp s6 (by decide)).1; rintro rfl; omega
              have hnp2 : g ≠ w1.heap.size := by have := h6.hb.1; rintro rfl; omega
              clear t6 s6 x1 h6 qg1 qg2
              go_wp2_with (go_at_call 49; refine (lawis_true5 E6.out).mono ?_; rintro e w9 ⟨rfl, rfl⟩)
              go_region
              all_goals
                go_wp2
                go_meet
                have st : Stp (3 ≤ ·) c6 c6 w6 _ := (((Stp.refl (3 ≤ ·) c6 w6).setCell (p := ⟨g2, off2 + k, none⟩) (.int .i64 2) (by show 3 ≤ c6 g2; have := Qg2.out; omega)).setCell (p := ⟨g, off + k, none⟩) (.bool false) (by show 3 ≤ c6 g; have := Qg1.out; omega)).drew
                have hr := (H6.out.setState Hk.out 2).setToken (j := k) (x := { x with state := 2 }) (by simp [Hkl.out]) false
                rw [List.set_set] at hr
                have hr2 := hr.stp ((Stp.refl (fun _ => False) c6 _).drew) id id id id
                exact ⟨c6, _, I5.out.two S6.out st T6.out ⟨_, _, _, _, _, _, hr2⟩ (by have := I5.out.len; simp; omega) (wk_set I5.out.wk Hk.out (by have := I5.out.wk _ (List.mem_of_getElem? Hk.out); simp; omega))⟩
        have t0 : (kd == 0) = false := by simpa using k0
        have t1 : (kd == 1) = false := by simpa using k1
        have t2 : (kd == 2) = false := by simpa using k2
        have t3 : (kd == 3) = false := by simpa using k3
        have t4 : (kd == 4) = false := by simpa using k4
        clear k0 k1 k2 k3 k4
        go_wp2
        go_meet
        exact ⟨c5, l, I5.out.up (by omega)⟩
      case rest =>
        as_aux_lemma =>
          obtain ⟨c6, l6, hinv6⟩ := hcut
          have I6 := Lib.hid hinv6
          clear hinv6 I5 X5 x0 x1
          obtain ⟨sa, ta, wa, sc, tc, wc', h6⟩ := I6.out.ref
          have b0 := h6.hb.cell 0
          simp at b0
          clear h6
          go_wp2
          clear b0
          go_loopw [193] (fun i wr2 => ∃ (c' : Nat → Nat) (t : Nat), i = .int .i64 t ∧ t ≤ l6.length ∧ AInv w w.heap.size w1.heap.size c' wr2 l6 (j + 1)) (fun i _ => l6.length - (intOf i).toNat)
          case atStart => exact ⟨c6, 0, rfl, Nat.zero_le _, I6.out⟩
          case round =>
            obtain ⟨c7, t, rfl, ht, hinv⟩ := hrel
            have I7 := Lib.hid hinv
            have Ht := Lib.hid ht
            clear hinv I6
            have hl6 := Lib.hid I7.out.len
            by_cases hlt2 : t < l6.length
            · have hx : l6[t]? = some l6[t] := List.getElem?_eq_getElem hlt2
              have Hx := Lib.hid hx
              obtain ⟨sa, ta, wa, sc, tc, wc', h7⟩ := I7.out.ref
              obtain ⟨g1', o1, rfl, e1, -, -⟩ := h7.rs.open1 hx
              obtain ⟨g2', o2, rfl, e2, -, -⟩ := h7.rt.open1 hx
              obtain ⟨g3', o3, rfl, e3, -, -⟩ := h7.rw.open1 hx
              have b0 := h7.hb.cell 0
              have b1 := h7.hb.cell 1
              have b2 := h7.hb.cell 2
              generalize l6[t] = x at *
              simp [stOf, tkOf, wkOf] at b0 b1 b2 e1 e2 e3
              clear h7 hx
              go_wp2_with fail
              go_quiet ((first
                | (go_at_call 28; exact (astate_in (I7.out.tab.stp ((Stp.refl (fun _ => False) _ _).drewN _) id) t Hx.out).mono fun _ _ ⟨he, hw⟩ => ⟨he, _, hw.symm⟩)
                | (go_at_call 56; exact (atoken_in (I7.out.tab.stp ((Stp.refl (fun _ => False) _ _).drewN _) id) t Hx.out).mono fun _ _ ⟨he, hw⟩ => ⟨he, _, hw.symm⟩)
                | (go_at_call 31; exact (awakes_in (I7.out.tab.stp ((Stp.refl (fun _ => False) _ _).drewN _) id) t Hx.out).mono fun _ _ ⟨he, hw⟩ => ⟨he, _, hw.symm⟩)))
              clear b0 b1 b2 e1 e2 e3
              have ht3 : t ≤ 151 := by have := hl6.out; omega
              go_wp2
              go_roundw
              case rel => exact ⟨c7, t + 1, by go_num, by omega, I7.out.drewN nq⟩
              case measure => simp [intOf]; omega
            · go_wp2
              go_roundw
              case rel => exact ⟨c7, l6, j + 1, by go_num, by omega, I7.out⟩
              case measure => simp [intOf]; omega
    · as_aux_lemma =>
        have hl6 : (l.length : Int) ≤ 1000000 := by have := I.out.len; omega
        have Hl6 := Lib.hid hl6
        have Hl7 := Lib.hid (show l.length ≤ 150 by have := I.out.len; omega)
        clear hl6
        go_wp2_with fail
        refine (arunnable_any I.out.tab 7 (by decide) Hl6.out).mono ?_
        rintro e w5 ⟨ao5, cap5, rfl, c5, s5, r5⟩
        have I5 := Lib.hid (show AInv w w.heap.size w1.heap.size c5 w5 l j from ⟨I.out.st.trans (s5.up (by decide)), I.out.tab.stp s5 (by decide), I.out.ref.stp s5 (by decide) (by decide) (by decide) (by decide), I.out.len, I.out.wk⟩)
        have R5 := Lib.hid r5
        clear s5 r5 I
        go_wp2_with fail
        refine (r05runnable_any I5.out.ref 8 (by decide) Hl6.out).mono ?_
        rintro e w6 ⟨ao6, cap6, rfl, c6, s6, r6⟩
        obtain ⟨rd, hrd⟩ : ∃ rd, rd = readyTo l l.length := ⟨_, rfl⟩
        obtain ⟨N, hNrd⟩ : ∃ N, N = rd.length := ⟨_, rfl⟩
        have F6 := Lib.hid (show AFin w w.heap.size c6 w6 l rd N ao5 ao6 cap5 cap6 by rw [hNrd, hrd]; exact ⟨I5.out.st.trans (s6.up (by decide)), I5.out.tab.stp s6 (by decide), R5.out.stp s6 (by decide), r6⟩)
        have Hrn := Lib.hid (show N ≤ 150 by rw [hNrd, hrd]; have := readyTo_len l l.length; have := Hl7.out; omega)
        rw [← hrd, ← hNrd]
        have HNrd := Lib.hid hNrd
        clear hNrd
        have Hrd := Lib.hid hrd
        obtain ⟨sa, ta, wa, sc, tc, wc', h6⟩ := I5.out.ref.stp s6 (by decide) (by decide) (by decide) (by decide)
        have b0 := h6.hb.cell 0
        simp at b0
        clear s6 r6 hrd h6 I5 R5
        go_wp2_with fail
        go_quiet ((go_at_call 58; exact (alen_any (F6.out.tab.stp ((Stp.refl (fun _ => False) _ _).drewN _) id)).mono fun _ _ ⟨he, hw⟩ => ⟨he, _, hw.symm⟩))
        clear b0
        go_wp2
        go_loopw [256] (fun i wr2 => ∃ (c' : Nat → Nat) (t : Nat), i = .int .i64 t ∧ t ≤ N ∧ AFin w w.heap.size c' wr2 l rd N ao5 ao6 cap5 cap6) (fun i _ => N - (intOf i).toNat)
        case atStart => exact ⟨c6, 0, rfl, Nat.zero_le _, F6.out.stp ((Stp.refl (fun _ => False) _ _).drewN nq) (fun _ h => h.elim)⟩
        case round =>
          obtain ⟨c7, t, rfl, ht, hfin⟩ := hrel
          have F7 := Lib.hid hfin
          clear hfin F6
          by_cases hlt2 : t < N
          · have hrl : t < rd.length := by rw [← HNrd.out]; exact hlt2
            have hx : rd[t]? = some rd[t] := List.getElem?_eq_getElem hrl
            obtain ⟨g1', o1, rfl, e1, -, -⟩ := F7.out.r1.open1 hx
            obtain ⟨g2', o2, rfl, e2, -, -⟩ := F7.out.r2.open1 hx
            generalize rd[t] = xv at *
            clear hx hrl
            go_wp2_with fail
            go_quiet (fail)
            clear e1 e2
            have ht3 : t ≤ 150 := by have := Hrn.out; omega
            go_wp2
            go_roundw
            case rel => exact ⟨c7, t + 1, by go_num, by omega, F7.out.stp ((Stp.refl (fun _ => False) _ _).drewN nq) (fun _ h => h.elim)⟩
            case measure => simp [intOf]; omega
          · go_wp2
            clear hlt2 ht
            go_loopw [271] (fun i wr2 => ∃ (c' : Nat → Nat) (t : Nat), i = .int .i64 t ∧ t ≤ q ∧ AFin w w.heap.size c' wr2 l rd N ao5 ao6 cap5 cap6) (fun i _ => q - (intOf i).toNat)
            case atStart => exact ⟨c7, 0, rfl, Nat.zero_le _, F7.out⟩
            case round =>
              obtain ⟨c8, r, rfl, hr, hfin⟩ := hrel
              have F8 := Lib.hid hfin
              clear hfin F7
              by_cases hlt3 : r < q
              · obtain ⟨b, hb, y0⟩ := (Hq.out.stp F8.out.st (by decide)).ints hlt3
                subst hb
                generalize picks.getD r 0 = pk at *
                by_cases hN : N = 0
                · have HN := Lib.hid (show N = 0 from hN)
                  have hN0 : ¬ 0 < N := by omega
                  have hN1 : decide ((0 : Int) < (N : Int)) = false := by simp; omega
                  clear hN
                  go_wp2_with fail
                  refine (alegal_none F8.out.tab 9 (by decide) Hl6.out pk (by rw [← Hrd.out, ← HNrd.out]; exact HN.out)).mono ?_
                  rintro e w9 ⟨rfl, c9, s9⟩
                  have F9 := Lib.hid (F8.out.stp s9 (fun _ h => h))
                  clear s9 y0
                  go_wp2
                  go_roundw
                  case rel => exact ⟨c9, r + 1, by go_num, by omega, F9.out⟩
                  case measure => simp [intOf]; omega
                · have hn0 : 0 < N := by omega
                  obtain ⟨hp, hE⟩ := tmod_pick pk N hn0
                  obtain ⟨tt, htt⟩ : ∃ tt, tt = pickAt pk N := ⟨_, rfl⟩
                  rw [← htt] at hp hE
                  have Htt := Lib.hid htt
                  obtain ⟨E1, E2⟩ := tmod_add_self hp
                  have hpr : tt < rd.length := by rw [← HNrd.out]; exact hp
                  have hx : rd[tt]? = some rd[tt] := List.getElem?_eq_getElem hpr
                  have hg : rd.getD tt 0 = rd[tt] := by simp [List.getD, hpr]
                  obtain ⟨xv, hxv⟩ : ∃ xv, xv = rd[tt] := ⟨_, rfl⟩
                  rw [← hxv] at hx hg
                  have Hx := Lib.hid hx
                  have Hg := Lib.hid hg
                  have W1 : wrap64 ((tt : Int) + N) = tt + N := wrap_150 hp Hrn.out
                  have W3 : wrap64 (tt : Int) = tt := wrap_152 hp Hrn.out
                  have W2 : wrap64 ((tt : Int) - N + N) = tt := wrap_151 hp Hrn.out
                  clear hN htt hx hg hxv hpr
                  rcases hE with E | E
                  all_goals
                    have HE := Lib.hid E
                    clear E
                    go_wp2_with fail
                    refine (alegal_some F8.out.tab 9 (by decide) Hl6.out pk N (by rw [← Hrd.out, ← HNrd.out]) hn0).mono ?_
                    rintro e w9 ⟨rfl, c9, s9⟩
                    rw [← Hrd.out, ← Htt.out, Hg.out]
                    have F9 := Lib.hid (F8.out.stp s9 (fun _ h => h))
                    obtain ⟨g1', o1, rfl, e1, -, -⟩ := F9.out.r1.open1 Hx.out
                    have E := HE.out
                    clear s9 y0
                    go_wp2
                    go_roundw
                    case rel => exact ⟨c9, r + 1, by go_num, by omega, F9.out⟩
                    case measure => simp [intOf]; omega
              · go_wp2_with fail
                refine (awake5 c8 9 _).mono ?_
                rintro e w9 ⟨rfl, c9, s9⟩
                have S9 := Lib.hid (F8.out.st.trans (s9.up (by decide)))
                clear s9
                go_wp2
                go_ret
                exact ⟨rfl, S9.out.fin⟩

set_option maxRecDepth 100000 in
theorem aplays_out {w : World} (ao bo : Option Addr) (n cap q qcap : Nat) (h : 150 < n ∨ 20 < q) :
    Calls Try.prog 8 #[.slice ao n cap, .slice bo q qcap] w fun e w' => e = .returned (.bool true) ∧ Below w.heap.size w w' := by
  rcases (show decide ((150 : Int) < (n : Int)) = true ∨ (decide ((150 : Int) < (n : Int)) = false ∧ decide ((20 : Int) < (q : Int)) = true) by
    by_cases h1 : 150 < n
    · exact .inl (by simp; omega)
    · exact .inr ⟨by simp; omega, by simp; omega⟩) with t1 | ⟨t1, t2⟩
  all_goals
    clear h
    go_enter Try.func8, Try.ntmps8
    go_wp2_with fail
    refine (awake5 (fun _ => 0) 2 _).mono ?_
    rintro e w2 ⟨rfl, c2, s2⟩
    have S2 := Lib.hid (s2.up (by decide))
    clear s2
    go_wp2
    go_ret
    exact ⟨rfl, S2.out.fin⟩

theorem dec_op5 {H : Type} {enc : TypeId × Value → H} {w : World} {base : Nat} {spare : Nat → Bool} {held : Bool} (n : Nat) (cs : List Value) (y : DataW H × List MemPlace) (h : DataW.trod enc Try.prog w base spare held n 80 cs = some y) : ∃ x : Op5, cs = x.cells ∧ True := by
  obtain ⟨hl, n', hf⟩ := dec_fields Try.underlying80 (by kernel_rfl) (by kernel_rfl) h
  obtain ⟨v0, z0, c0, t0⟩ := hf 0 _ rfl
  obtain ⟨v1, z1, c1, t1⟩ := hf 1 _ rfl
  obtain ⟨x0, e0, _, _⟩ := DataW.trod_int Try.underlying3 t0
  obtain ⟨x1, e1, _, _⟩ := DataW.trod_int Try.underlying3 t1
  match cs, hl with
  | [a, b], _ =>
    simp at c0 c1 e0 e1
    subst c0 c1 e0 e1
    exact ⟨⟨x0, x1⟩, rfl, trivial⟩

theorem aplays_walk {w : World} (ao bo : Option Addr) (n cap q qcap : Nat) (ops : List Op5) (picks : List Int) (hl : In (fun _ => 0) 0 w 2 ao n cap (ops.flatMap Op5.cells)) (hlen : ops.length = n)
    (hq : In (fun _ => 0) 0 w 1 bo q qcap (picks.map (Value.int .i64))) :
    Calls Try.prog 8 #[.slice ao n cap, .slice bo q qcap] w fun e w' => e = .returned (.bool true) ∧ Below w.heap.size w w' := by
  by_cases h : 150 < n ∨ 20 < q
  · exact aplays_out ao bo n cap q qcap h
  · exact aplays_in ao bo n cap q qcap ops picks hl hlen (by omega) hq (by omega)
end Go.Proofs.Ytmhhhiegioniaaa
