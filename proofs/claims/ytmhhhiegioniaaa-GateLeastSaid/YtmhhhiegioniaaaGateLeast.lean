/- The walk of the law GateLeast. No condition. -/
import Derived.Test.YtmhhhiegioniaaaGate3
import Derived.Test.YtmhhhiegioniaaaGateNil
import Derived.Test.YtmhhhiegioniaaaMem4
import Derived.Deep.RegionHeld3
import Derived.OpenShut
namespace Go.Proofs.Ytmhhhiegioniaaa
open Go.RowKit

theorem awake8k (K : Nat) (c : Nat → Nat) (w : World) :
    Calls Try.prog 32 #[] w fun e w' => e = .returned (.bool true) ∧ ∃ c', Stp (K ≤ ·) c c' w w' := by
  go_enter Try.func32, Try.ntmps32
  go_wp2_with fail
  refine (new_any c K _).mono ?_
  rintro e w1 ⟨rfl, c1, s1, h1⟩
  go_wp2_with fail
  refine (alloc_ok h1 _ (by simp)).mono ?_
  rintro e w2 ⟨rfl, c2, s2, h2⟩
  go_wp2_with fail
  refine (alloc_ok h2 _ (by simp)).mono ?_
  rintro e w3 ⟨rfl, c3, s3, h3⟩
  have S3 := Lib.hid (((s1.trans s2).trans s3).mono (J' := (K ≤ ·)) (fun _ h => Nat.le_of_eq h.symm))
  have H3 := Lib.hid (h3.stp ((Stp.refl (fun _ => False) c3 w3).alloc (.cells #[.int .i64 0, .int .i64 1] 3) (K + 2)) id)
  clear s1 s2 s3 h1 h2 h3
  go_wp2_with fail
  refine (gof_any (k := K + 1) (l := [0, 1]) (Row.new c3 (K + 2) w3 3 1 2 2 [.int .i64 0, .int .i64 1] rfl (by decide) (by decide)).toIn (by omega)).mono ?_
  rintro e w4 ⟨c4, s4, h4⟩
  obtain ⟨_, p, rfl, hg⟩ | ⟨h, _⟩ := h4
  rotate_left
  · exact absurd (by simp [addRef, gaddErr]) h
  have S4 := Lib.hid ((S3.out.trans ((Stp.refl (K ≤ ·) c3 w3).alloc (.cells #[.int .i64 0, .int .i64 1] 3) (K + 2))).trans (s4.mono (J' := (K ≤ ·)) (fun k hk => by omega)))
  have G4 := Lib.hid (show GroupAt c4 (K + 1) w4 p [0, 1] by simpa [addRef, gaddErr] using hg)
  have H4 := Lib.hid (H3.out.stp s4 (by omega))
  clear s4 hg S3 H3
  go_wp2_with fail
  refine (gleast_ok G4.out H4.out (by omega) (by simp) (by decide) (by simp) 9).mono ?_
  rintro e w5 ⟨rfl, c5, s5, h5⟩
  go_wp2_with fail
  refine (gleast_ok (G4.out.stp s5 (by omega)) h5 (by omega) (by simp) (by decide) (by simp) 1).mono ?_
  rintro e w6 ⟨rfl, c6, s6, h6⟩
  have S6 := Lib.hid ((S4.out.trans (s5.mono (J' := (K ≤ ·)) (fun _ h => Nat.le_of_eq h.symm))).trans (s6.mono (J' := (K ≤ ·)) (fun _ h => Nat.le_of_eq h.symm)))
  clear s5 s6 h5 h6
  go_wp2_with fail
  go_ret
  exact ⟨by simp [valAt]; decide, c6, S6.out⟩

/-- An arena with so many cells laid. -/
def LaidRel (w : World) (q : Nat) (vals : List Int) (i : Value) (wr : World) : Prop :=
  ∃ (c : Nat → Nat) (j : Nat), i = .int .i64 j ∧ j ≤ vals.length ∧ Stp (2 ≤ ·) (fun _ => 0) c w wr ∧ ArenaAt c 2 wr q (vals.take j) 0

structure GInv (w0 : World) (q p : Nat) (vals : List Int) (c : Nat → Nat) (wr : World) (ids : List Int) (ao bo : Option Addr) (cap bcap : Nat) : Prop where
  st : Stp (2 ≤ ·) (fun _ => 0) c w0 wr
  ar : ArenaAt c 2 wr q vals 0
  gr : GroupAt c 3 wr p ids
  la : Row c 4 wr 2 1 ao ids.length cap ((ids.map (valAt vals)).map (Value.int .i64))
  ia : Row c 5 wr 3 1 bo ids.length bcap (ids.map (Value.int .i64))
  ok : ∀ x ∈ ids, 0 ≤ x ∧ x < vals.length

theorem scdone_b (ao : Option Addr) (n cap : Nat) (m : Int) (w : World) :
    Calls Try.prog 40 #[.agg #[.slice ao n cap, .int .i64 m]] w fun e w' => e = .returned (.bool ((n : Int) == 0)) ∧ Below w.heap.size w w' :=
  (scdone ao n cap m w).mono fun _ _ ⟨he, hw⟩ => ⟨he, by subst hw; exact (Below.refl _ _).alloc (Nat.le_refl _) _⟩
theorem scleast_b (ao : Option Addr) (n cap : Nat) (m : Int) (w : World) :
    Calls Try.prog 41 #[.agg #[.slice ao n cap, .int .i64 m]] w fun e w' => e = .returned (.int .i64 m) ∧ Below w.heap.size w w' :=
  (scleast ao n cap m w).mono fun _ _ ⟨he, hw⟩ => ⟨he, by subst hw; exact (Below.refl _ _).alloc (Nat.le_refl _) _⟩
/-- A callee that turns nothing old, met in a region: what S says of old memory alone stays. -/
theorem withB {P : Program} {f : FuncId} {args : Array Value} {w wb : World} {v : Value} (h : Calls P f args w fun e w' => e = .returned v ∧ Below w.heap.size w w') (hb : Below wb.heap.size wb w) :
    Calls P f args w fun e w' => e = .returned v ∧ Below wb.heap.size wb w' :=
  h.mono fun _ _ ⟨he, hl⟩ => ⟨he, hb.trans (hl.mono hb.size)⟩

def WantRel (c0 : Nat → Nat) (w0 : World) (ids : List Int) (P : Int → Bool) (v i : Value) (wr : World) : Prop :=
  ∃ (c : Nat → Nat) (ao : Option Addr) (cap j : Nat) (out : List Int), v = .slice ao out.length cap ∧ i = .int .i64 j ∧ j ≤ ids.length ∧ out = (ids.take j).filter P ∧ Stp (· = 10) c0 c w0 wr ∧ Row c 10 wr 3 1 ao out.length cap (out.map (Value.int .i64))

def ScanRel (w0 : World) (q sb : Nat) (vals ids : List Int) (most : Int) (ao : Option Addr) (cap : Nat) (k : Value) (wr : World) : Prop :=
  ∃ (c : Nat → Nat) (i : Nat) (no : Option Addr) (ncap : Nat) (F σ : Int), k = .int .i64 i ∧ i ≤ ids.length ∧ Stp (2 ≤ ·) (fun _ => 0) c w0 wr ∧ 0 ≤ σ ∧ σ ≤ 100 + i ∧ ArenaAt c 2 wr q vals σ ∧ Blk c 9 wr sb [.slice no (ids.length - i) ncap, .int .i64 F] 55 ∧
    In c 8 wr 1 no (ids.length - i) ncap ((ids.drop i).map (Value.int .i64)) ∧ Row c 4 wr 2 1 ao ids.length cap ((ids.map (valAt vals)).map (Value.int .i64)) ∧ F = ((ids.take i).map (valAt vals)).foldl min most

def PickRel (w0 : World) (q p : Nat) (vals : List Int) (n : Nat) (v u i : Value) (wr : World) : Prop :=
  ∃ (c : Nat → Nat) (ids : List Int) (ao bo : Option Addr) (cap bcap j : Nat), v = .slice ao ids.length cap ∧ u = .slice bo ids.length bcap ∧ i = .int .i64 j ∧ j ≤ n ∧ ids.length ≤ j ∧ GInv w0 q p vals c wr ids ao bo cap bcap

set_option maxRecDepth 100000 in
set_option maxHeartbeats 4000000 in
theorem least_in {w : World} (ao bo : Option Addr) (n cap m bcap : Nat) (vals pick : List Int) (most : Int) (hl : In (fun _ => 0) 0 w 1 ao n cap (vals.map (Value.int .i64))) (hlen : vals.length = n) (hn0 : 0 < n) (hn : n ≤ 30)
    (hp : In (fun _ => 0) 0 w 1 bo m bcap (pick.map (Value.int .u8))) (hplen : pick.length = m) (hpok : ∀ x ∈ pick, 0 ≤ x ∧ x ≤ 255) (hm : m ≤ 30) :
    Calls Try.prog 5 #[.slice ao n cap, .slice bo m bcap, .int .i64 most] w fun e w' => e = .returned (.bool true) ∧ Below w.heap.size w w' := by
  have Hl := Lib.hid hl
  have Hp := Lib.hid hp
  have Hlen := Lib.hid hlen
  have Hplen := Lib.hid hplen
  have Hpok := Lib.hid hpok
  have g0 : ((n : Int) == 0) = false := by simp; omega
  have g1 : decide ((30 : Int) < (n : Int)) = false := by simp; omega
  have g2 : decide ((30 : Int) < (m : Int)) = false := by simp; omega
  have n1 : (1 : Int) ≤ (n : Int) := by omega
  clear hl hp hlen hplen hpok hn0
  go_enter Try.func5, Try.ntmps5
  go_wp2_with fail
  refine (new_any (fun _ => 0) 2 _).mono ?_
  rintro e w1 ⟨rfl, c1, s1, h1⟩
  have S1 := Lib.hid (s1.up (by decide))
  have H1 := Lib.hid h1
  clear s1 h1
  go_wp2
  go_loopw [45] (fun i wr => LaidRel w w.heap.size vals i wr) (fun i _ => n - (intOf i).toNat)
  case atStart => exact ⟨c1, 0, rfl, Nat.zero_le _, S1.out, by simpa using H1.out⟩
  case round =>
    obtain ⟨c, j, rfl, hj, st, hat⟩ := hrel
    have St := Lib.hid st
    have Hat := Lib.hid hat
    rw [Hlen.out] at hj
    clear st hat S1 H1
    by_cases hlt : j < n
    · have hjl : j < vals.length := by rw [Hlen.out]; exact hlt
      obtain ⟨a, ha, y0⟩ := (Hl.out.stp St.out (by decide)).ints hlt
      subst ha
      have Hx := Lib.hid (show vals.take (j + 1) = vals.take j ++ [vals.getD j 0] by rw [List.take_succ_eq_append_getElem hjl]; simp [List.getD, hjl])
      generalize vals.getD j 0 = x at *
      go_wp2_with fail
      refine (alloc_ok Hat.out x (by rw [List.length_take]; omega)).mono ?_
      rintro e w3 ⟨rfl, c4, s4, h4⟩
      have S4 := Lib.hid (St.out.trans (s4.up (by decide)))
      have H4 := Lib.hid h4
      clear s4 h4
      go_wp2
      go_roundw
      case rel => exact ⟨c4, j + 1, by go_num, by omega, S4.out, by rw [Hx.out]; exact H4.out⟩
      case measure => simp [intOf]; omega
    · have hjn : j = vals.length := by rw [Hlen.out]; omega
      have t0 : decide ((j : Int) < (n : Int)) = false := by simp; omega
      have H4 := Lib.hid (show ArenaAt c 2 wr w.heap.size vals 0 by have := Hat.out; rw [hjn, List.take_length] at this; exact this)
      clear hjn hj Hat
      go_wp2
      have I0 := Lib.hid (show GInv w w.heap.size wr.heap.size vals _ _ [] none none 0 0 from ⟨St.out.alloc (.cells #[.slice none 0 0] 47) 3, H4.out.stp ((Stp.refl (fun _ => False) c wr).alloc (.cells #[.slice none 0 0] 47) 3) id, ⟨none, 0, Blk.new c 3 wr _ _, Row.nil _ _ _ _ _⟩, Row.nil _ _ _ _ _, Row.nil _ _ _ _ _, by simp⟩)
      clear hlt t0 H4 St
      go_loopw [11, 12, 55] (fun v u i wr2 => PickRel w w.heap.size wr.heap.size vals m v u i wr2) (fun _ _ i _ => m - (intOf i).toNat)
      case atStart => exact ⟨_, [], none, none, 0, 0, 0, rfl, rfl, rfl, Nat.zero_le _, Nat.le_refl _, I0.out⟩
      case round =>
        obtain ⟨c5, ids, ao2, bo2, cap2, bcap2, j2, rfl, rfl, rfl, hj2, hil, hinv⟩ := hrel
        have I := Lib.hid hinv
        clear hinv I0
        by_cases hlt : j2 < m
        · have hjl : j2 < pick.length := by rw [Hplen.out]; exact hlt
          obtain ⟨b, hb, y0⟩ := (Hp.out.stp I.out.st (by decide)).ints hlt
          subst hb
          have hx := Hpok.out (pick.getD j2 0) (by simp [List.getD, hjl])
          generalize pick.getD j2 0 = x at *
          obtain ⟨x0, x1⟩ := hx
          obtain ⟨r, hr⟩ : ∃ r : Nat, x % (n : Int) = r := ⟨(x % (n : Int)).toNat, by have := Int.emod_nonneg x (show (n : Int) ≠ 0 by omega); omega⟩
          have hrn : r < n := by have := Int.emod_lt_of_pos x (show (0 : Int) < n by omega); omega
          have Hr := Lib.hid hrn
          have hvr : r < vals.length := by rw [Hlen.out]; exact hrn
          by_cases he : gaddErr ids r = 0
          · have He := Lib.hid he
            clear he hrn
            go_wp2_with fail
            refine (gadd_ok I.out.gr r He.out).mono ?_
            rintro e w5 ⟨rfl, c6, s6, g6⟩
            have S6 := Lib.hid (I.out.st.trans (s6.up (by decide)))
            have A6 := Lib.hid (I.out.ar.stp s6 (by decide))
            have L6 := Lib.hid (I.out.la.stp s6 (by decide))
            have D6 := Lib.hid (I.out.ia.stp s6 (by decide))
            have G6 := Lib.hid g6
            obtain ⟨a, ha, z0⟩ := (Hl.out.stp S6.out (by decide)).ints Hr.out
            subst ha
            have Hv := Lib.hid (show valAt vals (r : Int) = vals.getD r 0 from rfl)
            generalize vals.getD r 0 = v at *
            have i1 : (0 : Int) ≤ (r : Int) := by omega
            have i2 : (r : Int) < (n : Int) := by have := Hr.out; omega
            clear s6 g6
            go_wp2_with (at_builtin; refine wpList_append_row _ rfl (.tmp 67) (.tmp 72) 44 rfl _ 4 2 (.int .i64 0) 1 8 Try.underlying44 Try.info2 rfl ao2 ids.length cap2 ((ids.map (valAt vals)).map (Value.int .i64)) rfl (L6.out.alloc _ 4) _ 1 [.int .i64 v] rfl (Src.one _ _ _) ?d1 ?d2 ?d3 ?_)
            case d1 => simp [Value.oneCell']
            case d2 => unfold maxLen; omega
            case d3 => omega
            intro ao3 cap3 w7 hr7 st7 ot7
            obtain ⟨c7, hc7, S7⟩ := (((Stp.refl (· = 4) c6 w5).alloc (.cells #[.int .i64 v] 2) 4).trans st7).name
            rw [← hc7.out] at hr7
            have L7 := Lib.hid hr7
            have D7 := Lib.hid (D6.out.stp S7.out (by decide))
            have A7 := Lib.hid (A6.out.stp S7.out (by decide))
            have G7 := Lib.hid (G6.out.stp S7.out (by decide))
            have T7 := Lib.hid (S6.out.trans (S7.out.up (by decide)))
            clear hr7 st7 ot7 hc7 S7 L6 D6 A6 G6 S6
            go_wp2_with (at_builtin; refine wpList_append_row _ rfl (.tmp 74) (.tmp 76) 40 rfl _ 5 3 (.int .i64 0) 1 8 Try.underlying40 Try.infoInt rfl bo2 ids.length bcap2 (ids.map (Value.int .i64)) rfl (D7.out.alloc _ 5) _ 1 [.int .i64 (r : Int)] rfl (Src.one _ _ _) ?e1 ?e2 ?e3 ?_)
            case e1 => simp [Value.oneCell']
            case e2 => unfold maxLen; omega
            case e3 => omega
            intro bo3 bcap3 w8 hr8 st8 ot8
            obtain ⟨c8, hc8, S8⟩ := (((Stp.refl (· = 5) c7 w7).alloc (.cells #[.int .i64 (r : Int)] 3) 5).trans st8).name
            rw [← hc8.out] at hr8
            have I8 := Lib.hid (show GInv w w.heap.size _ vals c8 w8 (ids ++ [(r : Int)]) ao3 bo3 cap3 bcap3 from ⟨T7.out.trans (S8.out.up (by decide)), A7.out.stp S8.out (by decide), G7.out.stp S8.out (by decide), by
              have := L7.out.stp S8.out (by decide)
              simpa [Hv.out] using this, by simpa using hr8, fun x hx => by
              rcases List.mem_append.1 hx with hx | hx
              · exact I.out.ok x hx
              · simp at hx; omega⟩)
            clear hr8 st8 ot8 hc8 S8 T7 A7 G7 L7 D7
            go_wp2
            go_roundw
            case rel => exact ⟨c8, ids ++ [(r : Int)], ao3, bo3, cap3, bcap3, j2 + 1, by simp, by simp, by go_num, by omega, by simp; omega, I8.out⟩
            case measure => simp [intOf]; omega
          · have He := Lib.hid he
            clear he hrn
            go_wp2_with fail
            refine (gadd_bad I.out.gr r He.out).mono ?_
            rintro e w5 ⟨tt, vv, rfl, c6, s6, e6⟩
            have I6 := Lib.hid (show GInv w w.heap.size _ vals c6 w5 ids ao2 bo2 cap2 bcap2 from ⟨I.out.st.trans (s6.mono (fun _ h => h.elim)), I.out.ar.stp s6 id, I.out.gr.stp s6 id, I.out.la.stp s6 id, I.out.ia.stp s6 id, I.out.ok⟩)
            clear s6 e6
            go_wp2
            go_roundw
            case rel => exact ⟨c6, ids, ao2, bo2, cap2, bcap2, j2 + 1, rfl, rfl, by go_num, by omega, by omega, I6.out⟩
            case measure => simp [intOf]; omega
        · have t0 : decide ((j2 : Int) < (m : Int)) = false := by simp; omega
          have hil30 : (ids.length : Int) ≤ 30 := by omega
          have Hil := Lib.hid hil30
          go_wp2_with fail
          refine (gcells_any I.out.gr 6 (by omega)).mono ?_
          rintro e w5 ⟨ro, rcap, rfl, c6, s6, r6⟩
          have I6 := Lib.hid (show GInv w w.heap.size _ vals c6 w5 ids ao2 bo2 cap2 bcap2 from ⟨I.out.st.trans (s6.mono (fun _ h => h.elim)), I.out.ar.stp s6 id, I.out.gr.stp s6 id, I.out.la.stp s6 id, I.out.ia.stp s6 id, I.out.ok⟩)
          have R6 := Lib.hid r6
          clear s6 r6 I hlt t0 hj2 hil
          go_wp2_with fail
          refine (same08 R6.out.toIn I6.out.ia.toIn rfl).mono ?_
          rintro e w7 ⟨rfl, s7⟩
          have I7 := Lib.hid (show GInv w w.heap.size _ vals c6 w7 ids ao2 bo2 cap2 bcap2 from ⟨I6.out.st.trans (s7.mono (fun _ h => h.elim)), I6.out.ar.stp s7 id, I6.out.gr.stp s7 id, I6.out.la.stp s7 id, I6.out.ia.stp s7 id, I6.out.ok⟩)
          clear s7 R6 I6
          go_wp2_with fail
          refine (gleast_ok I7.out.gr I7.out.ar (by decide) I7.out.ok (by decide) (by omega) most).mono ?_
          rintro e w8 ⟨rfl, c8, s8, a8⟩
          have T8 := Lib.hid (I7.out.st.trans (s8.up (by decide)))
          have A8 := Lib.hid a8
          have G8 := Lib.hid (I7.out.gr.stp s8 (by decide))
          have L8 := Lib.hid (I7.out.la.stp s8 (by decide))
          have D8 := Lib.hid (I7.out.ia.stp s8 (by decide))
          have Ok8 := Lib.hid I7.out.ok
          obtain ⟨X, hX⟩ : ∃ X : Int, (ids.map (valAt vals)).foldl min most = X := ⟨_, rfl⟩
          have HX := Lib.hid hX
          rw [hX]
          clear s8 a8 I7 hX
          go_wp2_with fail
          have hL8 := L8.out.toIn
          refine (r08least_any hL8 most).mono ?_
          rintro e w9 ⟨rfl, rfl⟩
          rw [HX.out]
          clear hL8
          obtain ⟨least, hleast⟩ : ∃ least : Int, least = (ids.map (valAt vals)).foldl min 9223372036854775807 := ⟨_, rfl⟩
          have HL := Lib.hid hleast
          clear hleast
          go_wp2_with fail
          refine (gwho_ok 7 G8.out A8.out (by decide) (by decide) (by decide) Ok8.out (by omega) (by omega) (by omega) least HL.out).mono ?_
          rintro e w10 ⟨wo, wcap, rfl, c10, s10, a10, r10⟩
          have T10 := Lib.hid (T8.out.trans (s10.mono (J' := (2 ≤ ·)) (fun k hk => by omega)))
          have A10 := Lib.hid a10
          have W10 := Lib.hid r10
          have G10 := Lib.hid (G8.out.stp s10 (by omega))
          have L10 := Lib.hid (L8.out.stp s10 (by omega))
          have D10 := Lib.hid (D8.out.stp s10 (by omega))
          clear s10 a10 r10 T8 A8 G8 L8 D8
          go_wp2
          go_loopw [19, 105] (fun v i wr2 => WantRel c10 w10 ids (fun x => valAt vals x == least) v i wr2) (fun _ i _ => ids.length - (intOf i).toNat)
          case atStart => exact ⟨c10, none, 0, 0, [], rfl, rfl, Nat.zero_le _, by simp, Stp.refl _ _ _, Row.nil _ _ _ _ _⟩
          case round =>
            obtain ⟨c11, vo, vcap, i, out, rfl, rfl, hi, hout, st, hrow⟩ := hrel
            have St := Lib.hid st
            have Hrow := Lib.hid hrow
            have Hout := Lib.hid hout
            have hol : out.length ≤ i := by
              rw [hout]
              exact Nat.le_trans (List.length_filter_le _ _) (by rw [List.length_take]; omega)
            clear st hrow hout
            by_cases hlt : i < ids.length
            · obtain ⟨a, ha, y0⟩ := (L10.out.toIn.stp St.out (by decide)).ints (j := i) hlt
              obtain ⟨b, hb, z0⟩ := (D10.out.toIn.stp St.out (by decide)).ints (j := i) hlt
              have hao := ha
              have hbo := hb
              subst ha; subst hb
              have Hf := Lib.hid (show (ids.take (i + 1)).filter (fun x => valAt vals x == least) = out ++ (if valAt vals (ids.getD i 0) == least then [ids.getD i 0] else []) by
                rw [List.take_succ_eq_append_getElem hlt, List.filter_append, ← Hout.out]
                simp [List.getD, hlt, List.filter_cons])
              have hgv : (ids.map (valAt vals)).getD i 0 = valAt vals (ids.getD i 0) := by simp [List.getD, hlt]
              rw [hgv] at y0
              generalize ids.getD i 0 = d at *
              generalize valAt vals d = v at *
              clear hgv
              go_wp2_with fail
              have hL := L10.out.toIn.stp St.out (by decide)
              refine (r08least_any hL 9223372036854775807).mono ?_
              rintro e w11 ⟨rfl, rfl⟩
              rw [← HL.out]
              clear hL
              by_cases hy : v = least
              · have t1 : (v == least) = true := by simpa using hy
                have Hy := Lib.hid t1
                clear hy
                go_wp2_with (at_builtin; refine wpList_append_row _ rfl (.tmp 114) (.tmp 119) 40 rfl _ 10 3 (.int .i64 0) 1 8 Try.underlying40 Try.infoInt rfl vo out.length vcap (out.map (Value.int .i64)) rfl (Hrow.out.alloc _ 10) _ 1 [.int .i64 d] rfl (Src.one _ _ _) ?d1 ?d2 ?d3 ?_)
                case d1 => simp [Value.oneCell']
                case d2 => unfold maxLen; omega
                case d3 => omega
                intro vo3 vcap3 w12 hr3 st3 ot3
                have S3 := Lib.hid (St.out.trans (((Stp.refl _ c11 _).alloc (.cells #[.int .i64 d] 3) 10).trans st3))
                have R3 := Lib.hid hr3
                clear hr3 st3 ot3
                go_wp2
                go_roundw
                case rel => exact ⟨_, vo3, vcap3, i + 1, out ++ [d], by simp, by go_num, by omega, by rw [Hf.out, Hy.out]; simp, S3.out, by simpa using R3.out⟩
                case measure => simp [intOf]; omega
              · have t1 : (v == least) = false := by simpa using hy
                have Hy := Lib.hid t1
                clear hy
                go_wp2
                go_roundw
                case rel => exact ⟨c11, vo, vcap, i + 1, out, rfl, by go_num, by omega, by rw [Hf.out, Hy.out]; simp, St.out, Hrow.out⟩
                case measure => simp [intOf]; omega
            · have hin : i = ids.length := by omega
              have hfin : out = ids.filter (fun x => valAt vals x == least) := by rw [Hout.out, hin, List.take_length]
              have t0 : decide ((i : Int) < (ids.length : Int)) = false := by simp; omega
              subst hfin
              clear hin hol hi
              go_wp2_with fail
              refine (same08 (W10.out.stp St.out (by decide)).toIn Hrow.out.toIn rfl).mono ?_
              rintro e w11 ⟨rfl, s11⟩
              have S11 := Lib.hid (St.out.trans (s11.mono (fun _ h => h.elim)))
              clear s11 hlt t0
              go_wp2_with fail
              refine (gscan_any (G10.out.stp S11.out (by decide)) 8 (by omega) most).mono ?_
              rintro e w12 ⟨so, scap, rfl, c12, s12, r12⟩
              have T12 := Lib.hid ((T10.out.trans (S11.out.up (by decide))).trans ((s12.mono (J' := (2 ≤ ·)) (fun _ h => h.elim))))
              have A12 := Lib.hid ((A10.out.stp S11.out (by decide)).stp s12 id)
              have L12 := Lib.hid ((L10.out.stp S11.out (by decide)).stp s12 id)
              have R12 := Lib.hid r12
              clear s12 r12 S11 T10 A10 W10 G10 L10 D10 St Hrow Hout
              go_wp2
              have B12 := Lib.hid (Blk.new c12 9 w12 [.slice so ids.length scap, .int .i64 most] 55)
              go_loopw [134] (fun k wr2 => ScanRel w w.heap.size w12.heap.size vals ids most ao2 cap2 k wr2) (fun k _ => ids.length - (intOf k).toNat)
              case atStart => exact ⟨_, 0, so, scap, most, _, rfl, Nat.zero_le _, T12.out.alloc (.cells #[.slice so ids.length scap, .int .i64 most] 55) 9, by omega, by omega, A12.out.stp ((Stp.refl (fun _ => False) c12 w12).alloc _ 9) id, by simpa using B12.out, by simpa using (R12.out.stp ((Stp.refl (fun _ => False) c12 w12).alloc (.cells #[.slice so ids.length scap, .int .i64 most] 55) 9) id).toIn, L12.out.stp ((Stp.refl (fun _ => False) c12 w12).alloc _ 9) id, rfl⟩
              case round =>
                obtain ⟨c13, i2, no, ncap, F, σ, rfl, hi2, st, σ0, σ1, har, hbx, hin, hla, hF⟩ := hrel
                have St := Lib.hid st
                have Har := Lib.hid har
                have Hbx := Lib.hid hbx
                have Hin := Lib.hid hin
                have Hla := Lib.hid hla
                have HF := Lib.hid hF
                clear st har hbx hin hla hF T12 A12 L12 R12 B12
                by_cases hlt : i2 < ids.length
                · have hd0 : (((ids.length - i2 : Nat) : Int) == 0) = false := by simp; omega
                  have d0 := Hbx.out.cell 0
                  have d1 := Hbx.out.cell 1
                  have f0 := Hbx.out.free 0
                  have f1 := Hbx.out.free 1
                  simp at d0 d1
                  have i3 : (i2 : Int) ≤ (cap2 : Int) := by have := Hla.out.2.1; omega
                  have i4 : (0 : Int) ≤ (i2 : Int) := by omega
                  have hInT : In c13 4 wr 1 ao2 i2 cap2 (((ids.take i2).map (valAt vals)).map (Value.int .i64)) := by
                    have := Hla.out.toIn.take (q := i2) hi2
                    simpa [List.map_take] using this
                  have hr08 : ∀ w' : World, Below wr.heap.size wr w' → Calls Try.prog 37 #[.slice ao2 i2 cap2, .int .i64 most] w' (fun e w'' => e = .returned (.int .i64 F) ∧ Below wr.heap.size wr w'') := fun w' hB =>
                    (r08least_any (hInT.stp (Stp.ofBelow (c := c13) hB 0) id) most).mono fun _ _ ⟨he, hw⟩ => ⟨by rw [he, ← HF.out], by subst hw; exact hB⟩
                  have Hr08 := Lib.hid hr08
                  clear hInT hr08
                  have hB := Below.refl wr.heap.size wr
                  go_wp2
                  go_region_held3 (fun w' => w'.cell? ⟨w12.heap.size, 0, none⟩ = some (.slice no (ids.length - i2) ncap) ∧ w'.cell? ⟨w12.heap.size, 1, none⟩ = some (.int .i64 F) ∧ Below wr.heap.size wr w')
                    (first | assumption | (exact ⟨by assumption, by assumption, by assumption⟩) | (exact ⟨by assumption, by assumption, (Below.refl _ _).drew⟩) | go_keep)
                    (first
                      | (go_at_call 40; refine (withB (wb := wr) (scdone_b _ _ _ _ _) (by first | assumption | exact (Below.refl _ _).drew)).mono ?_; rintro e w2 ⟨rfl, hB2⟩; have k0 := (hB2.cell (World.block_lt_of_cell? _ _ d0)).trans d0; have k1 := (hB2.cell (World.block_lt_of_cell? _ _ d1)).trans d1)
                      | (go_at_call 41; refine (withB (wb := wr) (scleast_b _ _ _ _ _) (by first | assumption | exact (Below.refl _ _).drew)).mono ?_; rintro e w2 ⟨rfl, hB2⟩; have k0 := (hB2.cell (World.block_lt_of_cell? _ _ d0)).trans d0; have k1 := (hB2.cell (World.block_lt_of_cell? _ _ d1)).trans d1)
                      | (go_at_call 37; refine (Hr08.out _ (by first | assumption | exact (Below.refl _ _).drew)).mono ?_; rintro e w2 ⟨rfl, hB2⟩; have k0 := (hB2.cell (World.block_lt_of_cell? _ _ d0)).trans d0; have k1 := (hB2.cell (World.block_lt_of_cell? _ _ d1)).trans d1))
                  have hxin : (ids.drop i2) = ids.getD i2 0 :: ids.drop (i2 + 1) := by rw [List.drop_eq_getElem_cons hlt]; simp [List.getD, hlt]
                  have hmem : ids.getD i2 0 ∈ ids := by simp [List.getD, hlt]
                  have HF2 := Lib.hid (fold_take (f := valAt vals) (m := most) hlt)
                  have key : ∀ wx : World, Below wr.heap.size wr wx → Calls Try.prog 42 #[.agg #[.slice no (ids.length - i2) ncap, .int .i64 F], .pointer (some ⟨w.heap.size, 0, none⟩)] wx (fun e w' => ∃ ao' cap', e = .returned (.tuple #[.agg #[.slice ao' (ids.length - (i2 + 1)) cap', .int .i64 (min F (valAt vals (ids.getD i2 0)))], .nilIface]) ∧ ∃ c', Stp (· = 2) c13 c' wr w' ∧ ArenaAt c' 2 w' w.heap.size vals (σ + 1) ∧ In c' 8 w' 1 ao' (ids.length - (i2 + 1)) cap' ((ids.drop (i2 + 1)).map (Value.int .i64))) := fun wx hB => by
                    have s0 := Stp.ofBelow (c := c13) hB 0
                    have hin := Hin.out.stp s0 id
                    rw [hxin] at hin
                    refine (scstep_ok hin (Har.out.stp s0 id) (by decide) (Ok8.out _ hmem) σ0 (by omega) F).mono ?_
                    rintro e w' ⟨ao', cap', he, c', hs, ha, hi⟩
                    rw [Nat.sub_sub] at he hi
                    exact ⟨ao', cap', he, c', (s0.mono (fun _ h => h.elim)).trans hs, ha, hi⟩
                  have Key := Lib.hid key
                  generalize hF3 : min F (valAt vals (ids.getD i2 0)) = F3 at *
                  have HF3 := Lib.hid hF3
                  clear key hxin hmem hF3
                  go_wp2_with fail
                  refine (Key.out _ (by assumption)).mono ?_
                  rintro e w13 ⟨no2, ncap2, rfl, c14, s14, a14, i14⟩
                  have T14 := Lib.hid (St.out.trans (s14.up (by decide)))
                  have A14 := Lib.hid a14
                  have I14 := Lib.hid i14
                  have B14 := Lib.hid (Hbx.out.stp s14 (by decide))
                  have L14 := Lib.hid (Hla.out.stp s14 (by decide))
                  have e0 := B14.out.cell 0
                  have e1 := B14.out.cell 1
                  have v0 := B14.out.free 0
                  have v1 := B14.out.free 1
                  have hlt14 := B14.out.lt
                  simp at e0 e1
                  clear s14 a14 i14 Key
                  go_wp2
                  go_roundw
                  case rel =>
                    have S16 : Stp (· = 9) c14 c14 _ _ := ((Stp.refl (· = 9) c14 w13).setCell (p := ⟨w12.heap.size, 0, none⟩) (.slice no2 (ids.length - (i2 + 1)) ncap2) B14.out.1).setCell (p := ⟨w12.heap.size, 1, none⟩) (.int .i64 F3) B14.out.1
                    have b16 : Blk c14 9 _ w12.heap.size [.slice no2 (ids.length - (i2 + 1)) ncap2, .int .i64 F3] 55 := (B14.out.set 0 (.slice no2 (ids.length - (i2 + 1)) ncap2)).set 1 (.int .i64 F3)
                    obtain ⟨c15, -, S15⟩ := ((Stp.refl (fun _ => False) c14 ((w13.setCell ⟨w12.heap.size, 0, none⟩ (.slice no2 (ids.length - (i2 + 1)) ncap2)).setCell ⟨w12.heap.size, 1, none⟩ (.int .i64 F3))).alloc (.cells #[.slice no2 (ids.length - (i2 + 1)) ncap2, .int .i64 F3] 55) 0).name
                    refine ⟨c15, i2 + 1, no2, ncap2, F3, σ + 1, by go_num, by omega, (T14.out.trans (S16.up (by decide))).trans (S15.out.mono (fun _ h => h.elim)), by omega, by omega, (A14.out.stp S16 (by decide)).stp S15.out id, b16.stp S15.out id, (I14.out.stp S16 (by decide)).stp S15.out id, (L14.out.stp S16 (by decide)).stp S15.out id, ?_⟩
                    rw [HF2.out, ← HF.out, HF3.out]
                  case measure => simp [intOf]; omega
                · have hin2 : i2 = ids.length := by omega
                  subst hin2
                  rw [Nat.sub_self] at Hbx Hin
                  have d0 := Hbx.out.cell 0
                  have d1 := Hbx.out.cell 1
                  simp at d0 d1
                  have HFX := Lib.hid (show F = X by rw [HF.out, List.take_length, HX.out])
                  clear hi2 Hin Hla HF
                  go_wp2_with fail
                  refine (scstep_done c13 _ _ _ _ _).mono ?_
                  rintro e w13 ⟨rfl, c14, s14⟩
                  have T14 := Lib.hid (St.out.trans (s14.mono (fun _ h => h.elim)))
                  have B14 := Lib.hid (Hbx.out.stp s14 id)
                  clear s14
                  obtain ⟨c15, hc15, S15⟩ := ((Stp.refl (fun _ => False) c14 w13).alloc (.cells #[.slice no 0 ncap, .int .i64 F] 55) 0).name
                  have T15 := Lib.hid (T14.out.trans (S15.out.mono (fun _ h => h.elim)))
                  have B15 := Lib.hid (B14.out.stp S15.out id)
                  have N15 := Lib.hid (show Blk c15 0 _ w13.heap.size [.slice no 0 ncap, .int .i64 F] 55 by rw [hc15.out]; exact Blk.new c14 0 w13 _ _)
                  clear hc15 S15 T14 B14
                  go_wp2_with fail
                  refine (awake8k 11 c15 _).mono ?_
                  rintro e w14 ⟨rfl, c16, s16⟩
                  have T16 := Lib.hid (T15.out.trans (s16.mono (J' := (2 ≤ ·)) (fun k hk => by omega)))
                  have b16 := B15.out.stp s16 (by decide)
                  have n16 := N15.out.stp s16 (by decide)
                  have e0 := b16.cell 0
                  have e1 := b16.cell 1
                  have o0 := n16.cell 0
                  have o1 := n16.cell 1
                  simp at e0 e1 o0 o1
                  have q1 := b16.lt
                  have q2 := n16.lt
                  have u1 : w12.heap.size < w14.heap.size + 1 := by omega
                  have u2 : w12.heap.size < w14.heap.size + 1 + 1 := by omega
                  have u3 : w13.heap.size < w14.heap.size + 1 := by omega
                  have u4 : w13.heap.size < w14.heap.size + 1 + 1 := by omega
                  have u5 : w13.heap.size < w14.heap.size + 1 + 1 + 1 := by omega
                  obtain rfl := HFX.out
                  clear s16 b16 n16 T15 B15 N15 d0 d1
                  go_wp2_with (first
                    | (go_at_call 40; refine (scdone _ _ _ _ _).mono ?_; rintro e w' ⟨rfl, rfl⟩)
                    | (go_at_call 41; refine (scleast _ _ _ _ _).mono ?_; rintro e w' ⟨rfl, rfl⟩))
                  go_ret
                  exact ⟨by simp, ((((T16.out.alloc _ 2).alloc _ 2).alloc _ 2).alloc _ 2).fin⟩

set_option maxRecDepth 100000 in
theorem least_out {w : World} (ao bo : Option Addr) (n cap m bcap : Nat) (most : Int) (h : n = 0 ∨ 30 < n ∨ 30 < m) :
    Calls Try.prog 5 #[.slice ao n cap, .slice bo m bcap, .int .i64 most] w fun e w' => e = .returned (.bool true) ∧ Below w.heap.size w w' := by
  rcases (show ((n : Int) == 0) = true ∨ (((n : Int) == 0) = false ∧ decide ((30 : Int) < (n : Int)) = true) ∨ (((n : Int) == 0) = false ∧ decide ((30 : Int) < (n : Int)) = false ∧ decide ((30 : Int) < (m : Int)) = true) by
    by_cases h0 : n = 0
    · exact .inl (by simp; omega)
    · by_cases h1 : 30 < n
      · exact .inr (.inl ⟨by simp; omega, by simp; omega⟩)
      · exact .inr (.inr ⟨by simp; omega, by simp; omega, by simp; omega⟩)) with t0 | ⟨t0, t1⟩ | ⟨t0, t1, t2⟩
  all_goals
    clear h
    go_enter Try.func5, Try.ntmps5
    go_wp2_with fail
    refine (awake8k 2 (fun _ => 0) _).mono ?_
    rintro e w2 ⟨rfl, c2, s2⟩
    have S2 := Lib.hid s2
    clear s2
    go_wp2
    go_ret
    exact ⟨rfl, S2.out.fin⟩

theorem least_walk {w : World} (ao bo : Option Addr) (n cap m bcap : Nat) (vals pick : List Int) (most : Int) (hl : In (fun _ => 0) 0 w 1 ao n cap (vals.map (Value.int .i64))) (hlen : vals.length = n)
    (hp : In (fun _ => 0) 0 w 1 bo m bcap (pick.map (Value.int .u8))) (hplen : pick.length = m) (hpok : ∀ x ∈ pick, (Lit.int .u8 x).wf = true) :
    Calls Try.prog 5 #[.slice ao n cap, .slice bo m bcap, .int .i64 most] w fun e w' => e = .returned (.bool true) ∧ Below w.heap.size w w' := by
  by_cases h : n = 0 ∨ 30 < n ∨ 30 < m
  · exact least_out ao bo n cap m bcap most h
  · exact least_in ao bo n cap m bcap vals pick most hl hlen (by omega) (by omega) hp hplen (fun x hx => bounds_u8 (hpok x hx)) (by omega)
end Go.Proofs.Ytmhhhiegioniaaa
