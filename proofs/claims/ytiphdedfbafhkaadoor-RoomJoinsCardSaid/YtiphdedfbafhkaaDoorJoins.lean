/- The walk of the law RoomJoins. No condition but that the table of math/bits holds what the program lays there. -/
import Derived.Test.YtiphdedfbafhkaaDoorRoom4
import Derived.Test.YtiphdedfbafhkaaDoorRoom6
namespace Go.Proofs.YtiphdedfbafhkaaDoor
open Go.RowKit

theorem flat_ints (l : List Int) : l.flatMap (fun x => [Value.int .i64 x]) = l.map (Value.int .i64) := by
  induction l with
  | nil => rfl
  | cons x l ih => rw [List.flatMap_cons, ih]; rfl

/-- A row that came in: its slice and what it reads as. -/
structure RowV where
  ao : Option Addr
  len : Nat
  cap : Nat
  l : List Int
def RowV.cells (x : RowV) : List Value := [.slice x.ao x.len x.cap]
theorem RowV.clen (x : RowV) : x.cells.length = 1 := rfl
def RowV.good (w : World) (x : RowV) : Prop := In (fun _ => 0) 0 w 1 x.ao x.len x.cap (x.l.map (Value.int .i64))

def allOf (rows : List RowV) (j : Nat) : List Int := (rows.take (min j 64)).flatMap RowV.l
def zeros (j : Nat) : List One := List.replicate (min j 64) ⟨0, false, 0⟩
theorem zeros_len (j : Nat) : (zeros j).length = min j 64 := by simp [zeros]
theorem zeros_succ {j : Nat} (h : j < 64) : zeros (j + 1) = zeros j ++ [⟨0, false, 0⟩] := by
  unfold zeros
  rw [Nat.min_eq_left (by omega), Nat.min_eq_left (by omega), List.replicate_succ']
theorem zeros_same {j : Nat} (h : 64 ≤ j) : zeros (j + 1) = zeros j := by
  unfold zeros
  rw [Nat.min_eq_right (by omega), Nat.min_eq_right (by omega)]
theorem allOf_succ {rows : List RowV} {j : Nat} {x : RowV} (h : j < 64) (hx : rows[j]? = some x) : allOf rows (j + 1) = allOf rows j ++ x.l := by
  unfold allOf
  rw [Nat.min_eq_left (by omega), Nat.min_eq_left (by omega), List.take_add_one, hx]
  simp
theorem allOf_same {rows : List RowV} {j : Nat} (h : 64 ≤ j) : allOf rows (j + 1) = allOf rows j := by
  unfold allOf
  rw [Nat.min_eq_right (by omega), Nat.min_eq_right (by omega)]
theorem flat_le : ∀ {rows : List RowV}, (∀ x ∈ rows, x.l.length ≤ 20) → (rows.flatMap RowV.l).length ≤ 20 * rows.length
  | [], _ => by simp
  | x :: L, h => by
    have h1 := h x (by simp)
    have h2 := flat_le (rows := L) (fun y hy => h y (by simp [hy]))
    simp only [List.flatMap_cons, List.length_append, List.length_cons]
    omega
theorem allOf_len {rows : List RowV} (h : ∀ x ∈ rows, x.l.length ≤ 20) (j : Nat) : (allOf rows j).length ≤ 1280 := by
  have h1 := flat_le (rows := rows.take (min j 64)) (fun x hx => h x (List.mem_of_mem_take hx))
  have h2 : (rows.take (min j 64)).length ≤ 64 := by rw [List.length_take]; omega
  unfold allOf
  omega

set_option maxRecDepth 100000 in
set_option maxHeartbeats 8000000 in
theorem joins_walk (bo : Option Addr) (n cap : Nat) (rows : List RowV) {W : World} (h : In (fun _ => 0) 0 W 1 bo n cap (rows.flatMap RowV.cells)) (hln : rows.length = n) (hg : ∀ x ∈ rows, x.good W) (ht : Tab W) :
    Calls Tryd.prog 4 #[.slice bo n cap] W fun e W' => e = .returned (.bool true) ∧ Below W.heap.size W W' := by
  have H := Lib.hid h
  have HG := Lib.hid hg
  have Ht := Lib.hid ht
  have Hln := Lib.hid hln
  have hcap : n ≤ 9223372036854775807 := by have h1 := h.2.1; have h2 := h.2.2.1; simp only [maxLen] at h2; omega
  clear h hg ht hln
  by_cases h80 : n ≤ 80
  · have g0 : decide ((80 : Int) < n) = false := by simp; omega
    have Hn80 := Lib.hid h80
    clear h80 hcap
    go_enter Tryd.func4, Tryd.ntmps4
    go_wp2
    go_loopg [23] n (fun gh i wr => wr = W ∧ ∃ j : Nat, i = .int .i64 j ∧ j + gh = n ∧ Hid (∀ x ∈ rows.take j, x.len ≤ 20))
    case atStart => exact ⟨rfl, 0, rfl, by omega, Lib.hid (by simp)⟩
    case round =>
      obtain ⟨hw, j, rfl, hj, Hsm⟩ := hrel
      subst hw
      by_cases hlt : j < n
      · obtain ⟨y, hy⟩ : ∃ y, rows[j]? = some y := ⟨_, List.getElem?_eq_getElem (by rw [Hln.out]; exact hlt)⟩
        obtain ⟨a, ha, y0⟩ := H.out.field RowV.clen hy (f := 0) (v := .slice y.ao y.len y.cap) rfl
        subst ha
        simp only [Nat.mul_one, Nat.add_zero] at y0
        have Hy := Lib.hid hy
        have g3 : (j : Int) < (n : Int) := by omega
        have Hj3 := Lib.hid (show j + 1 + (gk - 1) = n ∧ gk - 1 < gk by omega)
        have W1 := Lib.hid (show wrap64 ((j : Int) + 1) = ((j + 1 : Nat) : Int) by rw [IntWalk.wrap64_in _ ⟨by have := Hn80.out; omega, by have := Hn80.out; omega⟩]; omega)
        clear hy hj
        by_cases hz : y.len ≤ 20
        · have g4 : decide ((20 : Int) < y.len) = false := by simp; omega
          have Hz := Lib.hid hz
          clear hz
          go_wp2
          go_roundg (gk - 1)
          case rel => exact ⟨rfl, j + 1, by rw [W1.out], Hj3.out.1, Lib.hid (fun x hx => by
            rw [List.take_add_one, Hy.out] at hx
            rcases List.mem_append.1 hx with hx | hx
            · exact Hsm.out x hx
            · simp at hx; subst hx; exact Hz.out)⟩
          case measure => exact Hj3.out.2
        · have g4 : decide ((20 : Int) < y.len) = true := by simp; omega
          clear hz
          go_wp2_with fail
          refine (awake14k 2 (by decide) (fun _ => 0) _ Ht.out rfl).mono ?_
          rintro e w1 ⟨rfl, c1, s1⟩
          have S1 := Lib.hid s1
          clear s1
          go_wp2
          go_ret
          exact ⟨rfl, S1.out.below (Nat.le_refl _) (fun _ _ => by decide)⟩
      · obtain rfl : j = n := by omega
        have Hlen := Lib.hid (show ∀ x ∈ rows, x.len ≤ 20 ∧ x.l.length = x.len from fun x hx => ⟨Hsm.out x (by rw [List.take_of_length_le (by rw [Hln.out]; exact Nat.le_refl _)]; exact hx), by have := (HG.out x hx).1; simpa using this⟩)
        have Hl20 := Lib.hid (show ∀ x ∈ rows, x.l.length ≤ 20 from fun x hx => by have := Hlen.out x hx; omega)
        have g3 : ¬ (j : Int) < j := by omega
        clear hlt hj
        go_wp2_with fail
        refine (rmnew0_c (fun _ => 0) 2 _).mono ?_
        rintro e w1 ⟨r, ar, ck, tb, rfl, c1, s1, m1, a1⟩
        have S1 := Lib.hid s1
        have M1 := Lib.hid (show RJ c1 2 w1 r ar ck tb (.slice none 0 0) [] 0 0 [] [] from ⟨m1, a1⟩)
        clear s1 m1 a1 g3
        obtain ⟨W0, hW0⟩ : ∃ W0 : World, W0 = wr := ⟨_, rfl⟩
        subst hW0
        go_wp2
        go_loopg [6, 35] j (fun gh av i wr2 => ∃ (c' : Nat → Nat) (q : Nat) (so : Option Addr) (sc : Nat), av = .slice so (allOf rows q).length sc ∧ i = .int .i64 q ∧ q + gh = j ∧ Hid (RJ c' 2 wr2 r ar ck tb (.slice none 0 0) (allOf rows q) 0 0 [] (zeros q)) ∧ Hid (Row c' 20 wr2 2 1 so (allOf rows q).length sc ((allOf rows q).map (Value.int .i64))) ∧ Hid (Stp (2 ≤ ·) (fun _ => 0) c' W0 wr2))
        case atStart => exact ⟨c1, 0, none, 0, rfl, rfl, by omega, M1, Lib.hid (Row.nil _ _ _ _ _), S1⟩
        case round =>
          obtain ⟨c', q, so, sc, rfl, rfl, hq, HJ, HA, HS⟩ := hrel
          have HAL := Lib.hid (allOf_len Hl20.out q)
          by_cases hlt : q < j
          · obtain ⟨y, hy⟩ : ∃ y, rows[q]? = some y := ⟨_, List.getElem?_eq_getElem (by rw [Hln.out]; exact hlt)⟩
            have hym := List.mem_of_getElem? hy
            obtain ⟨a, ha, y0⟩ := (H.out.stp HS.out (by decide)).field RowV.clen hy (f := 0) (v := .slice y.ao y.len y.cap) rfl
            subst ha
            simp only [Nat.mul_one, Nat.add_zero] at y0
            have HY := Lib.hid (show In c' 0 wr 1 y.ao y.len y.cap (y.l.map (Value.int .i64)) from (HG.out y hym).stp HS.out (by decide))
            have Hyl := Lib.hid (Hlen.out y hym)
            obtain ⟨G, hG⟩ : ∃ G, G = gk - 1 := ⟨_, rfl⟩
            have Hj3 := Lib.hid (show q + 1 + G = j ∧ G < gk by omega)
            have W1 := Lib.hid (show wrap64 ((q : Int) + 1) = ((q + 1 : Nat) : Int) by rw [IntWalk.wrap64_in _ ⟨by have := Hn80.out; omega, by have := Hn80.out; omega⟩]; omega)
            have g3 : (q : Int) < (j : Int) := by omega
            by_cases h64 : q < 64
            · have g4 : decide ((64 : Int) ≤ (q : Int)) = false := by simp; omega
              have g4' : q < 64 := h64
              have Hall := Lib.hid (allOf_succ (rows := rows) h64 hy)
              have Hzs := Lib.hid (zeros_succ h64)
              have Hzl := Lib.hid (show (zeros q).length = q by rw [zeros_len]; omega)
              clear hy hym hq hG hlt
              obtain ⟨A, hA⟩ : ∃ A, A = allOf rows q := ⟨_, rfl⟩
              rw [← hA] at HJ HA HAL Hall ⊢
              clear hA
              obtain ⟨yao, ylen, ycap, yl⟩ := y
              simp only at y0 HY Hyl Hall
              go_wp2_with fail
              refine (rmjoin_ok HJ.out HY.out (by decide) (by rw [Hzl.out]; omega) Hyl.out.1 (by have := HAL.out; omega)).mono ?_
              rintro e w4 ⟨io, ic, rfl, c4, s4, m4, i4⟩
              rw [Hzl.out]
              rw [← Hzs.out] at m4
              have M4 := Lib.hid m4
              have I4 := Lib.hid i4
              have S4 := Lib.hid (HS.out.trans (s4.mono (J' := (2 ≤ ·)) (fun j hj => by unfold JJ at hj; omega)))
              have A4 := Lib.hid (HA.out.stp s4 (by unfold JJ; omega))
              have Y4 := Lib.hid (HY.out.stp s4 (by unfold JJ; omega))
              clear m4 i4 s4 y0
              go_wp2_with fail
              refine (rmact_c M4.out.rm).mono ?_
              rintro e w5 ⟨rfl, rfl⟩
              have hz : (zeros (q + 1))[q]? = some (⟨0, false, 0⟩ : One) := by
                unfold zeros
                rw [Nat.min_eq_left (by omega)]
                simp
              go_wp2_with fail
              refine (astate_in M4.out.rm.ta q hz).mono ?_
              rintro e w5 ⟨rfl, rfl⟩
              clear hz
              go_wp2
              go_loopg [6, 98] ylen (fun gh av i wr3 => ∃ (c3 : Nat → Nat) (m : Nat) (so3 : Option Addr) (sc3 : Nat), av = .slice so3 (A.length + m) sc3 ∧ i = .int .i64 m ∧ m + gh = ylen ∧ Hid (Row c3 20 wr3 2 1 so3 (A.length + m) sc3 ((A ++ yl.take m).map (Value.int .i64))) ∧ Hid (Stp (· = 20) c4 c3 w4 wr3))
              case atStart => exact ⟨c4, 0, so, sc, rfl, rfl, by omega, Lib.hid (by simpa using A4.out), Lib.hid (Stp.refl _ _ _)⟩
              case round =>
                obtain ⟨c3, m, so3, sc3, rfl, rfl, hm, H3, T3⟩ := hrel
                by_cases hlm : m < ylen
                · have hmy : m < yl.length := by rw [Hyl.out.2]; exact hlm
                  obtain ⟨b, hb, z0⟩ := (Y4.out.stp T3.out (by decide)).ints (j := m) hlm
                  subst hb
                  obtain ⟨b2, hb2, z1⟩ := (I4.out.toIn.stp T3.out (by decide)).ints (j := m) hlm
                  subst hb2
                  have hid : (idsF A.length ylen).getD m 0 = ((A.length + m : Nat) : Int) := by simp [idsF, List.getD, hlm]
                  rw [hid] at z1
                  have Htk := Lib.hid (show yl.take (m + 1) = yl.take m ++ [yl.getD m 0] by rw [List.take_succ_eq_append_getElem hmy]; simp [List.getD, hmy])
                  generalize yl.getD m 0 = y3 at *
                  have d2 := Lib.hid (show A.length + m + 1 ≤ maxLen by have := HAL.out; have := Hyl.out.1; simp only [maxLen]; omega)
                  have d3 := Lib.hid (show (A.length + m + 1) * 8 ≤ 140737488355328 by have := HAL.out; have := Hyl.out.1; omega)
                  have Hm3 := Lib.hid (show m + 1 + (gk - 1) = ylen ∧ gk - 1 < gk by omega)
                  have W3 := Lib.hid (show wrap64 ((m : Int) + 1) = ((m + 1 : Nat) : Int) by rw [IntWalk.wrap64_in _ ⟨by have := Hyl.out.1; omega, by have := Hyl.out.1; omega⟩]; omega)
                  have p3 : (m : Int) < (ylen : Int) := by omega
                  clear hid hmy hm
                  go_wp2_with (at_builtin; refine wpList_append_row _ rfl (.tmp 108) (.tmp 113) 46 rfl (paint c3 wr.heap.size 20) 20 2 (.int .i64 0) 1 8 Tryd.underlying46 Tryd.info2 rfl so3 (A.length + m) sc3 ((A ++ yl.take m).map (Value.int .i64)) rfl (H3.out.alloc _ 20) _ 1 [.int .i64 y3] rfl (Src.one _ _ _) (by simp [Value.oneCell']) d2.out d3.out ?_)
                  rintro so6 sc6 w6 r6 s6 -
                  have T6 := Lib.hid (T3.out.trans (((Stp.refl (· = 20) c3 wr).alloc (.cells #[.int .i64 y3] 2) 20).trans s6))
                  have R6 := Lib.hid (show Row _ 20 w6 2 1 so6 (A.length + (m + 1)) sc6 ((A ++ yl.take (m + 1)).map (Value.int .i64)) by rw [Htk.out]; simpa [List.map_append, List.map_take, Nat.add_assoc] using r6)
                  clear r6 s6
                  go_wp2
                  go_roundg (gk - 1)
                  case rel => exact ⟨_, m + 1, so6, sc6, rfl, by rw [W3.out], Hm3.out.1, R6, T6⟩
                  case measure => exact Hm3.out.2
                · obtain rfl : m = ylen := by omega
                  have p3 : ¬ (m : Int) < m := by omega
                  clear hlm hm
                  have HR := Lib.hid (show Row c3 20 wr 2 1 so3 (allOf rows (q + 1)).length sc3 ((allOf rows (q + 1)).map (Value.int .i64)) by
                    have h1 := H3.out
                    rw [List.take_of_length_le (by rw [Hyl.out.2]; exact Nat.le_refl _), ← Hall.out] at h1
                    rwa [show A.length + m = (allOf rows (q + 1)).length by rw [Hall.out, List.length_append, Hyl.out.2]] at h1)
                  have HM := Lib.hid (show RJ c3 2 wr r ar ck tb (.slice none 0 0) (allOf rows (q + 1)) 0 0 [] (zeros (q + 1)) by rw [Hall.out]; exact M4.out.stp T3.out (by decide) (by decide) (by decide) (by decide) (by decide))
                  have HSS := Lib.hid (S4.out.trans (T3.out.mono (J' := (2 ≤ ·)) (fun j hj => by omega)))
                  have HL := Lib.hid (show A.length + m = (allOf rows (q + 1)).length by rw [Hall.out, List.length_append, Hyl.out.2])
                  go_wp2
                  go_roundg G
                  case rel => exact ⟨c3, q + 1, so3, sc3, by rw [HL.out], by first | rw [W1.out] | simp, Hj3.out.1, HM, HR, HSS⟩
                  case measure => exact Hj3.out.2
            · have g4 : decide ((64 : Int) ≤ (q : Int)) = true := by simp; omega
              have Hall := Lib.hid (allOf_same (rows := rows) (Nat.not_lt.1 h64))
              have Hzs := Lib.hid (zeros_same (Nat.not_lt.1 h64))
              have Hzl := Lib.hid (show (zeros q).length = 64 by rw [zeros_len]; omega)
              have g4' : ¬ q < 64 := h64
              clear hy hym hq hG hlt
              go_wp2_with fail
              refine (rmjoin_full HJ.out.rm y.ao y.len y.cap Hzl.out).mono ?_
              rintro e w4 ⟨t, v, rfl, c4, s4, e4⟩
              have E4 := Lib.hid (e4.err (by decide))
              have M4 := Lib.hid (HJ.out.stp s4 id id id id id)
              have A4 := Lib.hid (HA.out.stp s4 id)
              have S4 := Lib.hid (HS.out.trans (s4.mono (J' := (2 ≤ ·)) (fun _ h => h.elim)))
              clear s4 e4 y0
              go_wp2_with fail
              refine (lawis E4.out 8).mono ?_
              rintro e w5 ⟨rfl, rfl⟩
              go_wp2_with fail
              refine (rmarena_c M4.out.rm).mono ?_
              rintro e w5 ⟨rfl, rfl⟩
              go_wp2_with fail
              refine (len_any M4.out.ra).mono ?_
              rintro e w5 ⟨rfl, rfl⟩
              go_wp2_with fail
              refine (rmact_c M4.out.rm).mono ?_
              rintro e w5 ⟨rfl, rfl⟩
              go_wp2_with fail
              refine (alen_any M4.out.rm.ta).mono ?_
              rintro e w5 ⟨rfl, rfl⟩
              rw [Hzl.out]
              go_wp2
              go_roundg G
              case rel => exact ⟨c4, q + 1, so, sc, by rw [Hall.out], by first | rw [W1.out] | simp, Hj3.out.1, Lib.hid (by rw [Hall.out, Hzs.out]; exact M4.out), Lib.hid (by rw [Hall.out]; exact A4.out), S4⟩
              case measure => exact Hj3.out.2
          · obtain rfl : q = j := by omega
            have g3 : ¬ (q : Int) < q := by omega
            clear hlt hq
            obtain ⟨A, hA⟩ : ∃ A, A = allOf rows q := ⟨_, rfl⟩
            rw [← hA] at HJ HA HAL ⊢
            clear hA
            go_wp2
            go_loopg [119] A.length (fun gh i wr3 => ∃ (c3 : Nat → Nat) (m : Nat), i = .int .i64 m ∧ m + gh = A.length ∧ Hid (RJ c3 2 wr3 r ar ck tb (.slice none 0 0) A m 0 [] (zeros q)) ∧ Hid (Row c3 20 wr3 2 1 so A.length sc (A.map (Value.int .i64))) ∧ Hid (Stp (2 ≤ ·) (fun _ => 0) c3 W0 wr3))
            case atStart => exact ⟨c', 0, rfl, by omega, HJ, HA, HS⟩
            case round =>
              obtain ⟨c3, m, rfl, hm, H3, A3, S3⟩ := hrel
              by_cases hlm : m < A.length
              · obtain ⟨b, hb, z0⟩ := A3.out.toIn.ints (j := m) hlm
                subst hb
                have Hlm := Lib.hid hlm
                have Hm3 := Lib.hid (show m + 1 + (gk - 1) = A.length ∧ gk - 1 < gk by omega)
                have W3 := Lib.hid (show wrap64 ((m : Int) + 1) = ((m + 1 : Nat) : Int) by rw [IntWalk.wrap64_in _ ⟨by have := HAL.out; omega, by have := HAL.out; omega⟩]; omega)
                have p3 : (m : Int) < (A.length : Int) := by omega
                have Hs := Lib.hid (show 0 ≤ (m : Int) ∧ (m : Int) < 4611686018427387904 by have := HAL.out; omega)
                clear hm
                go_wp2_with fail
                refine (rmarena_c H3.out.rm).mono ?_
                rintro e w5 ⟨rfl, rfl⟩
                go_wp2_with fail
                refine (load_ok H3.out.ra m Hlm.out Hs.out.1 Hs.out.2).mono ?_
                rintro e w6 ⟨rfl, c6, s6, a6⟩
                have H6 := Lib.hid (H3.out.arena s6 a6)
                have A6 := Lib.hid (A3.out.stp s6 (by decide))
                have S6 := Lib.hid (S3.out.trans (s6.mono (J' := (2 ≤ ·)) (fun j hj => by omega)))
                clear s6 a6 z0
                go_wp2
                go_roundg (gk - 1)
                case rel => exact ⟨c6, m + 1, by first | rw [W3.out] | simp, Hm3.out.1, Lib.hid (by have := H6.out; simpa using this), A6, S6⟩
                case measure => exact Hm3.out.2
              · have hmA : m = A.length := by omega
                have Hm := Lib.hid hmA
                have p3 : ¬ (m : Int) < (A.length : Int) := by omega
                have T3 := Lib.hid (Ht.out.stp S3.out (by decide))
                have HC3 := Lib.hid (show c3 1 = 0 from S3.out.col _ (World.block_lt_of_cell? W0 _ (Ht.out 0 (by decide))))
                have Hz := Lib.hid (show (zeros q).length = min q 64 from zeros_len q)
                clear hlm hm hmA
                go_wp2_with fail
                refine (awake14k 30 (by decide) c3 _ T3.out HC3.out).mono ?_
                rintro e w6 ⟨rfl, c6, s6⟩
                have H6 := Lib.hid (H3.out.stp s6 (by decide) (by decide) (by decide) (by decide) (by decide))
                have S6 := Lib.hid (S3.out.trans (s6.mono (J' := (2 ≤ ·)) (fun j hj => by omega)))
                clear s6
                go_wp2_with fail
                refine (rmarena_c H6.out.rm).mono ?_
                rintro e w7 ⟨rfl, rfl⟩
                go_wp2_with fail
                refine (len_any H6.out.ra).mono ?_
                rintro e w7 ⟨rfl, rfl⟩
                go_wp2_with fail
                refine (rmact_c H6.out.rm).mono ?_
                rintro e w7 ⟨rfl, rfl⟩
                go_wp2_with fail
                refine (alen_any H6.out.rm.ta).mono ?_
                rintro e w7 ⟨rfl, rfl⟩
                rw [Hz.out]
                by_cases hq64 : q ≤ 64
                · have e1 : min q 64 = q := Nat.min_eq_left hq64
                  rw [e1]
                  have e2 : min (q : Int) 64 = (q : Int) := by omega
                  have e3 : (q : Int) ≤ 64 := by omega
                  have e4 : decide ((q : Int) ≤ 64) = true := by simp; omega
                  clear Hz e1
                  go_wp2
                  go_ret
                  exact ⟨rfl, S6.out.below (Nat.le_refl _) (fun _ _ => by decide)⟩
                · have e1 : min q 64 = 64 := Nat.min_eq_right (by omega)
                  rw [e1]
                  have e2 : min (q : Int) 64 = 64 := by omega
                  have e3 : ¬ (q : Int) ≤ 64 := by omega
                  have e4 : decide ((q : Int) ≤ 64) = false := by simp; omega
                  clear Hz e1
                  go_wp2
                  go_ret
                  exact ⟨rfl, S6.out.below (Nat.le_refl _) (fun _ _ => by decide)⟩
  · have g0 : decide ((80 : Int) < n) = true := by simp; omega
    clear h80
    go_enter Tryd.func4, Tryd.ntmps4
    go_wp2_with fail
    refine (awake14k 2 (by decide) (fun _ => 0) W Ht.out rfl).mono ?_
    rintro e w1 ⟨rfl, c1, s1⟩
    have S1 := Lib.hid s1
    clear s1
    go_wp2
    go_ret
    exact ⟨rfl, S1.out.below (Nat.le_refl _) (fun _ _ => by decide)⟩
end Go.Proofs.YtiphdedfbafhkaaDoor
