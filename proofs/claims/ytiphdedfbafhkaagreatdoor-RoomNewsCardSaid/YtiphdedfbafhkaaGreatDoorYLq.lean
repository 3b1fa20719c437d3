/- Contracts that the closing theorem wants (Lq). No condition beyond each law's own. -/
import Derived.Test.YtiphdedfbafhkaaGreatDoorZRgA
import Derived.Deep.LoopGhost
import Derived.Test.YtiphdedfbafhkaaGreatDoorYJq
import Derived.Test.YtiphdedfbafhkaaGreatDoorZDz6
import Derived.Test.YtiphdedfbafhkaaGreatDoorZDz5
import Derived.Test.YtiphdedfbafhkaaGreatDoorZCeX
namespace Go.Proofs.YtiphdedfbafhkaaGreatDoor
open Go.RowKit

/-- Something done. -/
structure RO where
  kd : Int
  a : Int
  b : Int
  at_ : Int
  hi : Int
def RO.cells (x : RO) : List Value := [.int .i64 x.kd, .int .i64 x.a, .int .i64 x.b, .int .i64 x.at_, .int .i64 x.hi]
theorem RO.len (x : RO) : x.cells.length = 5 := rfl
def RO.ok (x : RO) : Prop := (-9223372036854775808 ≤ x.kd ∧ x.kd ≤ 9223372036854775807) ∧ (-9223372036854775808 ≤ x.a ∧ x.a ≤ 9223372036854775807) ∧ (-9223372036854775808 ≤ x.b ∧ x.b ≤ 9223372036854775807) ∧ (-9223372036854775808 ≤ x.at_ ∧ x.at_ ≤ 9223372036854775807) ∧ (-9223372036854775808 ≤ x.hi ∧ x.hi ≤ 9223372036854775807)
/-- The cells of one of them. -/
theorem ro_cells {c : Nat → Nat} {k : Nat} {w : World} {ao : Option Addr} {n cap : Nat} {ops : List RO} (h : In c k w 5 ao n cap (ops.flatMap RO.cells)) {j : Nat} {x : RO} (hx : ops[j]? = some x) :
    ∃ a, ao = some a ∧ w.cell? (a.add (j * 5)) = some (.int .i64 x.kd) ∧ w.cell? ⟨(a.add (j * 5)).block, (a.add (j * 5)).off + 1, none⟩ = some (.int .i64 x.a) ∧ w.cell? ⟨(a.add (j * 5)).block, (a.add (j * 5)).off + 2, none⟩ = some (.int .i64 x.b) ∧ w.cell? ⟨(a.add (j * 5)).block, (a.add (j * 5)).off + 3, none⟩ = some (.int .i64 x.at_) ∧ w.cell? ⟨(a.add (j * 5)).block, (a.add (j * 5)).off + 4, none⟩ = some (.int .i64 x.hi) := by
  obtain ⟨a, ha, y0⟩ := h.field (fun x => RO.len x) hx (f := 0) (v := .int .i64 x.kd) rfl
  obtain ⟨a1, ha1, y1⟩ := h.field (fun x => RO.len x) hx (f := 1) (v := .int .i64 x.a) rfl
  obtain ⟨a2, ha2, y2⟩ := h.field (fun x => RO.len x) hx (f := 2) (v := .int .i64 x.b) rfl
  obtain ⟨a3, ha3, y3⟩ := h.field (fun x => RO.len x) hx (f := 3) (v := .int .i64 x.at_) rfl
  obtain ⟨a4, ha4, y4⟩ := h.field (fun x => RO.len x) hx (f := 4) (v := .int .i64 x.hi) rfl
  subst ha
  cases ha1
  cases ha2
  cases ha3
  cases ha4
  rw [Nat.add_zero] at y0
  rw [← add_add'] at y1 y2 y3 y4
  exact ⟨a, rfl, y0, y1, y2, y3, y4⟩
def smallT (ops : List RO) : Bool := ops.all (fun x => !(x.kd == 0 && decide (64 < x.a))) && decide (ops.length ≤ 150)
theorem ro_blk {c : Nat → Nat} {k : Nat} {w : World} {p : Nat} {ty : TypeId} {v0 v1 v2 v3 v4 : Value} (h : Blk c k w p [v0, v1, v2, v3, v4] ty) : w.cell? ⟨p, 0, none⟩ = some v0 ∧ w.cell? ⟨p, 1, none⟩ = some v1 ∧ w.cell? ⟨p, 2, none⟩ = some v2 ∧ w.cell? ⟨p, 3, none⟩ = some v3 ∧ w.cell? ⟨p, 4, none⟩ = some v4 ∧ p < w.heap.size :=
  ⟨by simpa using h.cell 0, by simpa using h.cell 1, by simpa using h.cell 2, by simpa using h.cell 3, by simpa using h.cell 4, h.lt⟩

set_option maxRecDepth 100000 in
set_option maxHeartbeats 2000000 in
theorem small14_c {c : Nat → Nat} {w : World} {ao : Option Addr} {n cap : Nat} {ops : List RO} (h : In c 0 w 5 ao n cap (ops.flatMap RO.cells)) (hl : ops.length = n) :
    Calls Tryz.prog 44 #[.slice ao n cap] w fun e w' => e = .returned (.bool (smallT ops)) ∧ ∃ c', Stp (fun _ => False) c c' w w' := by
  have H := Lib.hid h
  have HL := Lib.hid hl
  have hcap : n ≤ 9223372036854775807 := by have h1 := h.2.1; have h2 := h.2.2.1; simp only [maxLen] at h2; omega
  clear h hl
  go_enter Tryz.func44, Tryz.ntmps44
  go_wp2
  go_loopg [7] n (fun gh i wr => ∃ (j : Nat) (c2 : Nat → Nat), i = .int .i64 j ∧ j + gh = n ∧ Hid (∀ m x, m < j → ops[m]? = some x → (x.kd == 0 && decide (64 < x.a)) = false) ∧ Hid (Stp (fun _ => False) c c2 w wr))
  case atStart => exact ⟨0, c, rfl, by omega, Lib.hid (fun m x hm => by omega), Lib.hid (Stp.refl _ _ _)⟩
  case round =>
    obtain ⟨j, c2, rfl, hj, HN, HT⟩ := hrel
    by_cases hlt : j < n
    · obtain ⟨x, hx⟩ : ∃ x, ops[j]? = some x := ⟨_, List.getElem?_eq_getElem (show j < ops.length by rw [HL.out]; exact hlt)⟩
      obtain ⟨a, ha, y0, y1, y2, y3, y4⟩ := ro_cells (H.out.stp HT.out id) hx
      subst ha
      have HX := Lib.hid hx
      clear hx
      obtain ⟨kd, xa, xb, xat, xhi⟩ := x
      simp only at y0 y1 y2 y3 y4
      have HJ := Lib.hid (show j + 1 + (gk - 1) = n ∧ gk - 1 < gk by omega)
      have T2 := Lib.hid (HT.out.alloc (.cells #[.int .i64 kd, .int .i64 xa, .int .i64 xb, .int .i64 xat, .int .i64 xhi] 91) 0)
      by_cases hk : kd = 0
      · subst hk
        by_cases h6 : 64 < xa
        · have g1 : decide ((64 : Int) < xa) = true := by simpa using h6
          have HS := Lib.hid (show smallT ops = false by
            unfold smallT
            rw [Bool.and_eq_false_iff]
            left
            rw [List.all_eq_false]
            exact ⟨_, List.mem_of_getElem? HX.out, by simp [h6]⟩)
          clear h6 hj
          go_wp2
          go_ret
          exact ⟨by rw [HS.out]; rfl, _, T2.out⟩
        · have g1 : decide ((64 : Int) < xa) = false := by simpa using h6
          have HN2 := Lib.hid (show ∀ m x, m < j + 1 → ops[m]? = some x → (x.kd == 0 && decide (64 < x.a)) = false from fun m x hm hx => by
            by_cases h1 : m = j
            · subst h1
              rw [HX.out] at hx
              cases hx
              simpa using h6
            · exact HN.out m x (by omega) hx)
          have g3 : (j : Int) < (n : Int) := by omega
          clear h6 hj
          go_wp2
          go_roundg (gk - 1)
          case rel => exact ⟨j + 1, _, by go_num, HJ.out.1, HN2, T2⟩
          case measure => exact HJ.out.2
      · have g1 : (kd == 0) = false := by simpa using hk
        have HN2 := Lib.hid (show ∀ m x, m < j + 1 → ops[m]? = some x → (x.kd == 0 && decide (64 < x.a)) = false from fun m x hm hx => by
          by_cases h1 : m = j
          · subst h1
            rw [HX.out] at hx
            cases hx
            simp [g1]
          · exact HN.out m x (by omega) hx)
        have g3 : (j : Int) < (n : Int) := by omega
        clear hk hj
        go_wp2
        go_roundg (gk - 1)
        case rel => exact ⟨j + 1, _, by go_num, HJ.out.1, HN2, T2⟩
        case measure => exact HJ.out.2
    · have hjn : j = n := by omega
      have HS := Lib.hid (show smallT ops = decide (n ≤ 150) by
        unfold smallT
        have h1 : ops.all (fun x => !(x.kd == 0 && decide (64 < x.a))) = true := by
          rw [List.all_eq_true]
          intro x hx
          obtain ⟨m, hm, e⟩ := List.mem_iff_getElem.1 hx
          rw [HN.out m x (by have := HL.out; omega) (by rw [List.getElem?_eq_getElem hm, e])]
          rfl
        rw [h1, HL.out]
        rfl)
      clear hjn hj
      by_cases h1 : n ≤ 150
      · have g1 : (n : Int) ≤ 150 := by omega
        have g2 : decide (n ≤ 150) = true := by simpa using h1
        go_wp2
        go_ret
        exact ⟨by rw [HS.out, g2]; rfl, _, HT.out⟩
      · have g1 : ¬ (n : Int) ≤ 150 := by omega
        have g2 : decide (n ≤ 150) = false := by simpa using h1
        have g3 : decide ((n : Int) ≤ 150) = false := by simpa using g1
        go_wp2
        go_ret
        exact ⟨by rw [HS.out, g2]; rfl, _, HT.out⟩
theorem smallT_ok {ops : List RO} (h : smallT ops = true) : ops.length ≤ 150 ∧ ∀ x ∈ ops, x.kd = 0 → x.a ≤ 64 := by
  unfold smallT at h
  rw [Bool.and_eq_true, List.all_eq_true] at h
  refine ⟨by simpa using h.2, fun x hx h0 => ?_⟩
  have := h.1 x hx
  simp [h0] at this
  exact this

set_option maxRecDepth 100000 in
theorem same14_yes {c : Nat → Nat} {k k' : Nat} {w : World} {ao bo : Option Addr} {n cap cap' : Nat} {l : List Int} (h : In c k w 1 ao n cap (l.map (Value.int .i64))) (g : In c k' w 1 bo n cap' (l.map (Value.int .i64))) :
    Calls Tryz.prog 96 #[.slice ao n cap, .slice bo n cap'] w fun e w' => e = .returned (.bool true) ∧ ∃ c', Stp (fun _ => False) c c' w w' := by
  have H := Lib.hid h
  have G := Lib.hid g
  have HL := Lib.hid (show l.length = n by simpa using h.1)
  have hcap : n ≤ 9223372036854775807 := by have h1 := h.2.1; have h2 := h.2.2.1; simp only [maxLen] at h2; omega
  have g0 : ((n : Int) != (n : Int)) = false := by simp
  clear h g
  go_enter Tryz.func96, Tryz.ntmps96
  go_wp2
  go_loopg [13] n (fun gh i wr => ∃ (j : Nat) (c2 : Nat → Nat), i = .int .i64 j ∧ j + gh = n ∧ Hid (Stp (fun _ => False) c c2 w wr))
  case atStart => exact ⟨0, c, rfl, by omega, Lib.hid (Stp.refl _ _ _)⟩
  case round =>
    obtain ⟨j, c2, rfl, hj, HT⟩ := hrel
    by_cases hlt : j < n
    · obtain ⟨a, ha, y0⟩ := (H.out.stp HT.out id).ints (j := j) (by have := HL.out; omega)
      obtain ⟨b, hb, z0⟩ := (G.out.stp HT.out id).ints (j := j) (by have := HL.out; omega)
      subst ha
      subst hb
      generalize l.getD j 0 = v at y0 z0
      have HJ := Lib.hid (show j + 1 + (gk - 1) = n ∧ gk - 1 < gk by omega)
      have g3 : (j : Int) < (n : Int) := by omega
      clear hj
      go_wp2
      go_region
      go_wp2
      go_roundg (gk - 1)
      case rel => exact ⟨j + 1, c2, by go_num, HJ.out.1, Lib.hid HT.out.drew⟩
      case measure => exact HJ.out.2
    · have g3 : ¬ (j : Int) < (n : Int) := by omega
      have g4 : decide ((j : Int) < (n : Int)) = false := by simpa using g3
      clear hj
      go_wp2
      go_ret
      exact ⟨rfl, c2, HT.out⟩
end Go.Proofs.YtiphdedfbafhkaaGreatDoor

namespace Go.Proofs.YtiphdedfbafhkaaGreatDoor
open Go.RowKit

/-- Both rooms in one memory, whatever they have to do with each other. -/
structure JH (c : Nat → Nat) (w : World) (r p : Nat) (ar ck tb tp : Nat) (la : List Int) (now : Int) (tl dl : List Tm) (l : List One) (D : List RD) (ao : Option Addr) (cap : Nat) (ro : Option Addr) (rcap : Nat) (R : List DR) : Prop where
  code : RMs c 300 w r ar ck tb la now tl l D ao cap
  doc : DWR c w p tp now dl l ro rcap R
  tab : Tab w
  deb : c 1 = 0
  sls : ∀ (i : Nat) (d : RD), D[i]? = some d → ∃ sp zs, d.sl = .pointer (some ⟨sp, 0, none⟩) ∧ RingAt c (kb 300 i + 5) w sp d.sh zs
  d8 : D.length ≤ 8
  r8 : R.length ≤ 8
section
variable {c c' : Nat → Nat} {w w' : World} {k r p ar ck tb tp : Nat} {la la' : List Int} {now now' : Int} {tl dl tl' dl' : List Tm} {l l' : List One} {D D' : List RD} {ao ao' : Option Addr} {cap cap' : Nat} {ro ro' : Option Addr} {rcap rcap' : Nat} {R R' : List DR}
theorem JW.toJH (h : JW c w k r p ar ck tb tp la now tl dl l D ao cap ro rcap R) : JH c w r p ar ck tb tp la now tl dl l D ao cap ro rcap R := ⟨h.code, h.doc, h.tab, h.deb, h.sls, h.law.d8, h.r8⟩
theorem JH.toJW (h : JH c w r p ar ck tb tp la now tl dl l D ao cap ro rcap R) (g : J14 k la now tl dl l D R) : JW c w k r p ar ck tb tp la now tl dl l D ao cap ro rcap R := ⟨h.code, h.doc, g, h.tab, h.deb, h.sls⟩
theorem JH.deb' {J : Nat → Prop} (h : JH c w r p ar ck tb tp la now tl dl l D ao cap ro rcap R) (t : Stp J c c' w w') : c' 1 = 0 :=
  (t.col _ (World.block_lt_of_cell? w _ (h.tab 0 (by decide)))).trans h.deb
theorem JH.stp {J : Nat → Prop} (h : JH c w r p ar ck tb tp la now tl dl l D ao cap ro rcap R) (t : Stp J c c' w w') (hJ : ∀ j, J j → j = 1 ∨ j = 2) : JH c' w' r p ar ck tb tp la now tl dl l D ao cap ro rcap R :=
  ⟨h.code.stpD t (fun j hj => by have := hJ j hj; omega), h.doc.stpC h.r8 t (fun j hj => by have := hJ j hj; omega), h.tab.stp t (by rw [h.deb]; exact fun q => by have := hJ _ q; omega), h.deb' t, fun i d hd => by
    obtain ⟨sp, zs, h1, h2⟩ := h.sls i d hd
    exact ⟨sp, zs, h1, h2.stp t (fun q => by have := hJ _ q; unfold kb at this; omega)⟩, h.d8, h.r8⟩
/-- The code's room steps. -/
theorem JH.stepC {J : Nat → Prop} {i : Nat} {d d' : RD} (h : JH c w r p ar ck tb tp la now tl dl l D ao cap ro rcap R) (hd : D[i]? = some d) (t : Stp J c c' w w') (hJ : ∀ j, J j → j = kb 300 i + 2 ∨ j = 310) (m : RMs c' 300 w' r ar ck tb la' now tl l (D.set i d') ao cap) (h1 : d'.sl = d.sl) (h2 : d'.sh = d.sh) : JH c' w' r p ar ck tb tp la' now tl dl l (D.set i d') ao cap ro rcap R :=
  ⟨m, h.doc.stpC h.r8 t (fun j hj => by have := hJ j hj; unfold kb at this; omega), h.tab.stp t (by rw [h.deb]; exact fun q => by have := hJ _ q; unfold kb at this; omega), h.deb' t, sls_set (fun i d hd => by
    obtain ⟨sp, zs, h1, h2⟩ := h.sls i d hd
    exact ⟨sp, zs, h1, h2.stp t (fun q => by have := hJ _ q; unfold kb at this; omega)⟩) hd h1 h2, by rw [List.length_set]; exact h.d8, h.r8⟩
theorem JH.stepA {J : Nat → Prop} (h : JH c w r p ar ck tb tp la now tl dl l D ao cap ro rcap R) (t : Stp J c c' w w') (hJ : ∀ j, J j → j = 310) (m : RMs c' 300 w' r ar ck tb la' now tl l D ao cap) : JH c' w' r p ar ck tb tp la' now tl dl l D ao cap ro rcap R :=
  ⟨m, h.doc.stpC h.r8 t (fun j hj => by have := hJ j hj; omega), h.tab.stp t (by rw [h.deb]; exact fun q => by have := hJ _ q; omega), h.deb' t, fun i d hd => by
    obtain ⟨sp, zs, h1, h2⟩ := h.sls i d hd
    exact ⟨sp, zs, h1, h2.stp t (fun q => by have := hJ _ q; unfold kb at this; omega)⟩, h.d8, h.r8⟩
/-- The document's room steps. -/
theorem JH.stepD {J : Nat → Prop} {i : Nat} {e' : DR} (h : JH c w r p ar ck tb tp la now tl dl l D ao cap ro rcap R) (t : Stp J c c' w w') (hJ : ∀ j, J j → j = 12) (m : DWR c' w' p tp now dl l ro rcap (R.set i e')) : JH c' w' r p ar ck tb tp la now tl dl l D ao cap ro rcap (R.set i e') :=
  ⟨h.code.stpD t (fun j hj => by have := hJ j hj; omega), m, h.tab.stp t (by rw [h.deb]; exact fun q => by have := hJ _ q; omega), h.deb' t, fun i d hd => by
    obtain ⟨sp, zs, h1, h2⟩ := h.sls i d hd
    exact ⟨sp, zs, h1, h2.stp t (fun q => by have := hJ _ q; unfold kb at this; omega)⟩, h.d8, by rw [List.length_set]; exact h.r8⟩
theorem JW.toJE (h : JW c w k r p ar ck tb tp la now tl dl l D ao cap ro rcap R) : JE c w k r p := ⟨ar, ck, tb, tp, la, now, tl, dl, l, D, ao, cap, ro, rcap, R, h⟩
end

/-- A claim of the room's, as a record of what its cells have. -/
structure CV where
  b : Bool
  p1 : Option Addr
  a : Int
  so : Option Addr
  sn : Nat
  sc : Nat
  m : Int
  s : Bool
  d : Bool
  f : Bool
  p2 : Option Addr
  n : Int
  st : Int
  cl : Int
  hi : Int
  o2 : Option Addr
  n2 : Nat
  c2 : Nat
  mo : Int
def sV (sp : Nat) (hi : Int) (so : Option Addr) (sn sc : Nat) (m : Int) (s d f : Bool) : CV := ⟨false, some ⟨sp, 0, none⟩, hi, so, sn, sc, m, s, d, f, none, 0, 0, 0, 0, none, 0, 0, 0⟩
def mV (sp : Nat) (n : Int) (st : Nat) (cl hi : Int) (o2 : Option Addr) (n2 c2 : Nat) (mo : Int) : CV := ⟨true, none, 0, none, 0, 0, 0, false, false, false, some ⟨sp, 0, none⟩, n, st, cl, hi, o2, n2, c2, mo⟩
/-- A claim in both rooms: the document's stage and numbers, the room's record. -/
inductive CP (k r p i : Nat) (n : Int) (c : Nat → Nat) (w : World) : Nat → Int → Int → Int → CV → Prop
  | one {ar ck tb tp : Nat} {la : List Int} {now : Int} {tl dl : List Tm} {l : List One} {D : List RD} {ao : Option Addr} {cap : Nat} {ro : Option Addr} {rcap : Nat} {R : List DR} {d : RD} {e : DR}
    (h : JW c w k r p ar ck tb tp la now tl dl l D ao cap ro rcap R) (hd : D[i]? = some d) (he : R[i]? = some e) (hm : d.many = false) (hn : 1 ≤ n ∧ n ≤ 2 ^ d.sh) : CP k r p i n c w 0 e.cl (e.cl + n) 0 (sV d.sp (d.cl + n) none 0 0 0 false false false)
  | many {ar ck tb tp : Nat} {la : List Int} {now : Int} {tl dl : List Tm} {l : List One} {D : List RD} {ao : Option Addr} {cap : Nat} {ro : Option Addr} {rcap : Nat} {R : List DR} {d : RD} {e : DR} {s : Nat} {cl hi le : Int} {o2 : Option Addr} {c2 : Nat}
    (h : JW c w k r p ar ck tb tp la now tl dl l D ao cap ro rcap R) (hd : D[i]? = some d) (he : R[i]? = some e) (hm : d.many = true) (hn : 1 ≤ n ∧ n ≤ 2 ^ d.sh) (hin : In c 314 w 1 o2 0 c2 []) (hb : -1 ≤ hi ∧ hi ≤ 4611686018427387904)
    (hs : s = 0 ∨ ((s = 1 ∨ s = 3 ∨ s = 4) ∧ cl = e.cl ∧ hi = e.cl + n ∧ (s = 3 → le = e.cl))) : CP k r p i n c w s cl hi le (mV d.sp n s cl hi o2 0 c2 le)
  | sone {s : Nat} {cl hi le : Int} {sp : Nat} {so : Option Addr} {sn sc : Nat} {m : Int} {sb : Bool} (h : JE c w (k + 1) r p) (hs : s = 5 ∨ s = 6) : CP k r p i n c w s cl hi le (sV sp hi so sn sc m sb true (decide (s = 6)))
  | smany {s : Nat} {cl hi le : Int} {sp : Nat} {o2 : Option Addr} {n2 c2 : Nat} {mo : Int} (h : JE c w (k + 1) r p) (hs : s = 5 ∨ s = 6) : CP k r p i n c w s cl hi le (mV sp n s cl hi o2 n2 c2 mo)
section
variable {c c' : Nat → Nat} {w w' : World} {k r p i s : Nat} {n cl hi le : Int} {xu : CV}
theorem CP.stage (h : CP k r p i n c w s cl hi le xu) : s ≤ 6 := by
  cases h with
  | one => omega
  | many _ _ _ _ _ _ _ hs => omega
  | sone _ hs => omega
  | smany _ hs => omega
theorem CP.end_ (h : CP k r p i n c w s cl hi le xu) (hs : 5 ≤ s) : JE c w (k + 1) r p := by
  cases h with
  | one => omega
  | many _ _ _ _ _ _ _ hs => omega
  | sone h _ => exact h
  | smany h _ => exact h
theorem JE.stp2 {J : Nat → Prop} (h : JE c w k r p) (t : Stp J c c' w w') (hJ : ∀ j, J j → j = 1 ∨ j = 2) : JE c' w' k r p := by
  obtain ⟨ar, ck, tb, tp, la, now, tl, dl, l, D, ao, cap, ro, rcap, R, h⟩ := h
  exact ⟨ar, ck, tb, tp, la, now, tl, dl, l, D, ao, cap, ro, rcap, R, h.stp t hJ⟩
theorem CP.stp {J : Nat → Prop} (h : CP k r p i n c w s cl hi le xu) (t : Stp J c c' w w') (hJ : ∀ j, J j → j = 1 ∨ j = 2) : CP k r p i n c' w' s cl hi le xu := by
  cases h with
  | one h hd he hm hn => exact .one (h.stp t hJ) hd he hm hn
  | many h hd he hm hn hin hb hs => exact .many (h.stp t hJ) hd he hm hn (hin.stp t (fun q => by have := hJ _ q; omega)) hb hs
  | sone h hs => exact .sone (h.stp2 t hJ) hs
  | smany h hs => exact .smany (h.stp2 t hJ) hs
theorem CP.done (h : CP k r p i n c w s cl hi le xu) : Calls Tryz.prog 39 #[.agg #[.bool xu.b, .pointer xu.p1, .int .i64 xu.a, .slice xu.so xu.sn xu.sc, .int .i64 xu.m, .bool xu.s, .bool xu.d, .bool xu.f, .pointer xu.p2, .int .i64 xu.n, .int .i64 xu.st, .int .i64 xu.cl, .int .i64 xu.hi, .slice xu.o2 xu.n2 xu.c2, .int .i64 xu.mo]] w fun e w' => e = .returned (.bool (decide (5 ≤ s))) ∧ ∃ c', Stp (fun _ => False) c c' w w' := by
  cases h with
  | one h hd he hm hn => exact rcdone_s c _ _ _ _ _ _ _ _ _ w
  | many h hd he hm hn hin hb hs => exact rcdone_m c _ _ _ _ _ _ _ _ _ w (by show decide (5 ≤ ((s : Nat) : Int)) = decide (5 ≤ s); rw [Bool.eq_iff_iff, decide_eq_true_eq, decide_eq_true_eq]; omega)
  | sone h hs => rw [show decide (5 ≤ s) = true by rw [decide_eq_true_eq]; omega]; exact rcdone_s c _ _ _ _ _ _ _ _ _ w
  | smany h hs => exact rcdone_m c _ _ _ _ _ _ _ _ _ w (by show decide (5 ≤ ((s : Nat) : Int)) = decide (5 ≤ s); rw [Bool.eq_iff_iff, decide_eq_true_eq, decide_eq_true_eq]; omega)
theorem CP.full (h : CP k r p i n c w s cl hi le xu) : Calls Tryz.prog 41 #[.agg #[.bool xu.b, .pointer xu.p1, .int .i64 xu.a, .slice xu.so xu.sn xu.sc, .int .i64 xu.m, .bool xu.s, .bool xu.d, .bool xu.f, .pointer xu.p2, .int .i64 xu.n, .int .i64 xu.st, .int .i64 xu.cl, .int .i64 xu.hi, .slice xu.o2 xu.n2 xu.c2, .int .i64 xu.mo]] w fun e w' => e = .returned (.bool (decide (s = 6))) ∧ ∃ c', Stp (fun _ => False) c c' w w' := by
  cases h with
  | one h hd he hm hn => exact rcfull_s c _ _ _ _ _ _ _ _ w
  | many h hd he hm hn hin hb hs => exact rcfull_m c _ _ _ _ _ _ _ _ _ w (by show (((s : Nat) : Int) == 6) = decide (s = 6); rw [Bool.eq_iff_iff, beq_iff_eq, decide_eq_true_eq]; omega)
  | sone h hs =>
    rcases hs with rfl | rfl
    · exact rcfull_s c _ _ _ _ _ _ _ _ w
    · exact rcfull_s1 c _ _ _ _ _ _ _ _ w
  | smany h hs => exact rcfull_m c _ _ _ _ _ _ _ _ _ w (by show (((s : Nat) : Int) == 6) = decide (s = 6); rw [Bool.eq_iff_iff, beq_iff_eq, decide_eq_true_eq]; omega)
theorem CP.last (h : CP k r p i n c w s cl hi le xu) : Calls Tryz.prog 133 #[.agg #[.bool xu.b, .pointer xu.p1, .int .i64 xu.a, .slice xu.so xu.sn xu.sc, .int .i64 xu.m, .bool xu.s, .bool xu.d, .bool xu.f, .pointer xu.p2, .int .i64 xu.n, .int .i64 xu.st, .int .i64 xu.cl, .int .i64 xu.hi, .slice xu.o2 xu.n2 xu.c2, .int .i64 xu.mo]] w fun e w' => e = .returned (.int .i64 (if s = 5 then hi else -1)) ∧ ∃ c', Stp (fun _ => False) c c' w w' := by
  cases h with
  | one h hd he hm hn => exact rclast_s c _ _ _ _ _ _ _ _ _ w (by simp [sV])
  | many h hd he hm hn hin hb hs => exact rclast_m c _ _ _ _ _ _ _ _ _ w (by show (if ((s : Nat) : Int) = 5 then _ else _) = _; rw [if_neg (by omega), if_neg (by omega)])
  | sone h hs =>
    rcases hs with rfl | rfl
    · exact rclast_s c _ _ _ _ _ _ _ _ _ w (by simp [sV])
    · exact rclast_s c _ _ _ _ _ _ _ _ _ w (by simp [sV])
  | smany h hs =>
    rcases hs with rfl | rfl
    · exact rclast_m c _ _ _ _ _ _ _ _ _ w (by simp [mV])
    · exact rclast_m c _ _ _ _ _ _ _ _ _ w (by simp [mV])
end
end Go.Proofs.YtiphdedfbafhkaaGreatDoor

namespace Go.Proofs.YtiphdedfbafhkaaGreatDoor
open Go.RowKit

/-- What the document's step and then the room's give. -/
def NextC (k r p i : Nat) (n : Int) (c' : Nat → Nat) (w' : World) (s : Nat) (cl hi le : Int) (xu : CV) : Prop := ∀ (c2 : Nat → Nat) (W : World), Stp (· = 2) c' c2 w' W → Calls Tryz.prog 40 #[.agg #[.bool xu.b, .pointer xu.p1, .int .i64 xu.a, .slice xu.so xu.sn xu.sc, .int .i64 xu.m, .bool xu.s, .bool xu.d, .bool xu.f, .pointer xu.p2, .int .i64 xu.n, .int .i64 xu.st, .int .i64 xu.cl, .int .i64 xu.hi, .slice xu.o2 xu.n2 xu.c2, .int .i64 xu.mo]] W fun e2 w2 => ∃ xv : CV, e2 = .returned (.tuple #[.agg #[.bool xv.b, .pointer xv.p1, .int .i64 xv.a, .slice xv.so xv.sn xv.sc, .int .i64 xv.m, .bool xv.s, .bool xv.d, .bool xv.f, .pointer xv.p2, .int .i64 xv.n, .int .i64 xv.st, .int .i64 xv.cl, .int .i64 xv.hi, .slice xv.o2 xv.n2 xv.c2, .int .i64 xv.mo], .nilIface]) ∧ ∃ c3, Stp (3 ≤ ·) c2 c3 W w2 ∧ CP k r p i n c3 w2 s cl hi le xv
theorem next_of (seq n : Int) (h1 : 1 ≤ n) (h2 : n ≤ 1048576) (h3 : -1 ≤ seq) (h4 : seq ≤ 1099511627776) : nextErr seq n = 0 := by
  unfold nextErr
  rw [if_neg (by omega), if_neg (by omega), if_neg (by omega)]
theorem stepT0 {S : Sq} {la : List Int} {n cl hi le : Int} (h : nextErr (la.getD S.cur 0) n = 0) : stepT S la ⟨n, 0, cl, hi, [], le⟩ = (la, ⟨n, 1, la.getD S.cur 0, la.getD S.cur 0 + n, [], le⟩, 0) := by
  unfold stepT
  rw [if_neg (by simp), if_pos rfl, if_neg (by simp only; rw [h]; decide)]
theorem stepT1y {S : Sq} {la : List Int} {n cl hi le : Int} (h : hi - 2 ^ S.sh ≤ la.getD S.cac 0 ∧ la.getD S.cac 0 ≤ cl) : stepT S la ⟨n, 1, cl, hi, [], le⟩ = (la, ⟨n, 4, cl, hi, [], le⟩, 0) := by
  unfold stepT
  rw [if_neg (by simp), if_neg (by simp), if_pos rfl, if_pos h]
theorem stepT1n {S : Sq} {la : List Int} {n cl hi le : Int} (h : ¬ (hi - 2 ^ S.sh ≤ la.getD S.cac 0 ∧ la.getD S.cac 0 ≤ cl)) (hi0 : S.ids = []) (hf : hi - 2 ^ S.sh ≤ cl) : stepT S la ⟨n, 1, cl, hi, [], le⟩ = (la, ⟨n, 3, cl, hi, [], cl⟩, 0) := by
  unfold stepT
  rw [if_neg (by simp), if_neg (by simp), if_pos rfl, if_neg h, if_pos hi0]
  unfold judgeT
  simp only
  rw [if_neg (by omega)]
theorem stepT3 {S : Sq} {la : List Int} {n cl hi le : Int} : stepT S la ⟨n, 3, cl, hi, [], le⟩ = (la.set S.cac le, ⟨n, 4, cl, hi, [], le⟩, 0) := by
  simp [stepT]
theorem stepT4 {S : Sq} {la : List Int} {n cl hi le : Int} (h : la.getD S.cur 0 = cl) : stepT S la ⟨n, 4, cl, hi, [], le⟩ = (la.set S.cur hi, ⟨n, 5, cl, hi, [], le⟩, 0) := by
  unfold stepT
  rw [if_neg (by simp), if_neg (by simp), if_neg (by simp), if_neg (by simp), if_neg (by simp), if_pos h]
section
variable {c c' : Nat → Nat} {w w' : World} {k r p ar ck tb tp : Nat} {la la' : List Int} {now now' : Int} {tl dl tl' dl' : List Tm} {l l' : List One} {D D' : List RD} {ao ao' : Option Addr} {cap cap' : Nat} {ro ro' : Option Addr} {rcap rcap' : Nat} {R R' : List DR} {i : Nat} {d : RD} {e e' : DR} {n : Int}
theorem J14.seqOK (h : J14 k la now tl dl l D R) (hd : D[i]? = some d) (he : R[i]? = some e) (hm : d.many = true) : SqOK la ⟨d.sh, d.cur, d.cac, d.first, d.ids⟩ := by
  have hr := h.rings i d e hd he
  have hf := h.fit i d hd
  have hz : d.size = 2 + 2 ^ d.sh := by simp [RD.size, hm]
  obtain ⟨a1, a2, a3, a4, a5, a6⟩ := hr.two hm
  have := hr.sh
  exact ⟨by simp only; omega, by simp only; omega, by simp only; omega, fun x hx => by rw [hr.ids] at hx; exact absurd hx List.not_mem_nil, by rw [hr.ids]; simp⟩
/-- The room's step of a claim of many, where the document's has been taken. -/
theorem m_next {s : Nat} {cl hi le : Int} {s' : Nat} {cl' hi' le' : Int} {o2 : Option Addr} {c2 : Nat} (h : JH c w r p ar ck tb tp la now tl dl l D ao cap ro rcap R') (g0 : J14 k la now tl dl l D R) (hd : D[i]? = some d) (he : R[i]? = some e) (hm : d.many = true) (hin : In c 314 w 1 o2 0 c2 []) (hb : -1 ≤ hi ∧ hi ≤ 4611686018427387904) (hs : s < 5)
    (hst : stepT ⟨d.sh, d.cur, d.cac, d.first, d.ids⟩ la ⟨n, s, cl, hi, [], le⟩ = (la', ⟨n, s', cl', hi', [], le'⟩, 0)) (hs2 : s ≠ 2)
    (hP : ∀ (c3 : Nat → Nat) (w3 : World) (o3 : Option Addr) (c4 : Nat), JH c3 w3 r p ar ck tb tp la' now tl dl l D ao cap ro rcap R' → In c3 314 w3 1 o3 0 c4 [] → CP k r p i n c3 w3 s' cl' hi' le' (mV d.sp n s' cl' hi' o3 0 c4 le')) :
    NextC k r p i n c w s' cl' hi' le' (mV d.sp n s cl hi o2 0 c2 le) := by
  intro c2 W hW
  have H2 := h.stp hW (fun j hj => .inr hj)
  have I2 := hin.stp hW (by decide)
  refine (rcstep_m (t := ⟨n, s, cl, hi, [], le⟩) (by decide) H2.code hd hm I2 (g0.seqOK hd he hm) ⟨hb, fun x hx => absurd hx List.not_mem_nil, by show s ≤ 6; omega, fun h => absurd h hs2⟩ hs).mono ?_
  rintro e2 w3 ⟨t', la2, er, tao', tcap', ev, hE, rfl, c3, t3, m3, i3, he3⟩
  have hE' := hE.out
  rw [hst] at hE'
  obtain ⟨e1, hE2⟩ := Prod.mk.inj hE'
  obtain ⟨e2, e3⟩ := Prod.mk.inj hE2
  subst e1 e2 e3
  clear hE hE' hE2
  have hev : ev = .nilIface := by
    rcases he3 with ⟨-, h⟩ | ⟨h, -⟩
    · exact h
    · exact absurd rfl h
  subst hev
  exact ⟨mV d.sp n s' cl' hi' tao' 0 tcap' le', rfl, c3, t3.mono (fun j hj => by omega), hP c3 w3 tao' tcap' (H2.stepA t3 (fun _ h => h) m3) i3⟩
end

section
variable {c c' : Nat → Nat} {w w' : World} {k r p i s : Nat} {n cl hi le : Int} {xu : CV}
set_option maxHeartbeats 2000000 in
/-- One step more in both. -/
theorem CP.step (h : CP k r p i n c w s cl hi le xu) (hs : s < 5) (hk : k < 150) : Calls Tryz.prog 134 #[.pointer (some ⟨p, 0, none⟩), .agg #[.int .i64 (i : Int), .int .i64 n, .int .i64 (s : Int), .int .i64 cl, .int .i64 hi, .int .i64 le, .slice none 0 0]] w fun e w' => ∃ (s' : Nat) (cl' hi' le' : Int), e = .returned (.tuple #[.agg #[.int .i64 (i : Int), .int .i64 n, .int .i64 (s' : Int), .int .i64 cl', .int .i64 hi', .int .i64 le', .slice none 0 0], .int .i64 0]) ∧ s < s' ∧ s' ≤ 6 ∧ ∃ c', Stp (3 ≤ ·) c c' w w' ∧ NextC k r p i n c' w' s' cl' hi' le' xu := by
  cases h with
  | sone _ h => omega
  | smany _ h => omega
  | @one ar ck tb tp la now tl dl l D ao cap ro rcap R d e h hd he hm hn =>
    have hr := h.law.rings i d e hd he
    have hp := (pow64 hr.sh).1
    have hpc := pow_cast d.sh
    have hbb := hr.b
    have hnn := hr.n
    have hem : e.many = false := hr.many.trans hm
    obtain ⟨a1, a2, a3, a4, a5, a6, a7⟩ := hr.one hm
    have hf := h.law.fit i d hd
    have hz : d.size = 1 := by simp [RD.size, hm]
    have hv : wrap64 (e.cl + n - e.n) = e.cl + n - e.n := IntWalk.wrap64_in _ (by constructor <;> omega)
    by_cases hq : e.cl + n - e.n ≤ e.pub
    · refine (r14step_s0ok h.doc he hem n e.cl (e.cl + n) 0 hv hq).mono ?_
      rintro e1 w1 ⟨rfl, c1, t1, d1⟩
      refine ⟨5, e.cl, e.cl + n, e.pub, rfl, by omega, by omega, c1, t1.mono (fun j hj => by omega), ?_⟩
      have H1 := h.toJH.stepD t1 (fun _ h => h) d1
      intro c2 W hW
      have H2 := H1.stp hW (fun j hj => .inr hj)
      refine (rcstep_s (by decide) H2.code hd hm (d.cl + n) (by omega) (by omega) (by rw [hr.ids]; rfl) (by omega) (by have := hr.sh; omega) (by rw [a2]; omega)).mono ?_
      rintro e2 w3 ⟨tao', m', cap', rfl, c3, t3, m3⟩
      refine ⟨sV d.sp (d.cl + n) tao' m' cap' (la.getD d.cur 0) true true false, rfl, c3, t3.mono (fun j hj => by unfold kb at hj; omega), ?_⟩
      have J3 := (H2.stepC hd t3 (fun _ h => h) m3 rfl rfl).toJW (h.law.cl_ok hd he hm n hn.1 hn.2)
      have := CP.sone (k := k) (r := r) (p := p) (i := i) (n := n) (s := 5) (cl := e.cl) (hi := e.cl + n) (le := e.pub) (sp := d.sp) (so := tao') (sn := m') (sc := cap') (m := la.getD d.cur 0) (sb := true) J3.toJE (.inl rfl)
      rw [a1]
      exact this
    · refine (r14step_s0full h.doc he hem n e.cl (e.cl + n) 0 hv (by omega)).mono ?_
      rintro e1 w1 ⟨rfl, c1, t1, d1⟩
      refine ⟨6, e.cl, e.cl + n, e.pub, rfl, by omega, by omega, c1, t1.mono (fun j hj => by omega), ?_⟩
      have H1 := h.toJH.stepD t1 (fun _ h => h) d1
      intro c2 W hW
      have H2 := H1.stp hW (fun j hj => .inr hj)
      refine (rcstep_nil_full (by decide) H2.code hd hm (d.cl + n) (by omega) (by omega) (by rw [hr.ids]; rfl) (by omega) (by have := hr.sh; omega) (by rw [a2]; omega)).mono ?_
      rintro e2 w3 ⟨tao', m', cap', rfl, c3, t3, m3⟩
      refine ⟨sV d.sp (d.cl + n) tao' m' cap' (la.getD d.cur 0) true true true, rfl, c3, t3.mono (fun j hj => by unfold kb at hj; omega), ?_⟩
      have J3 := (H2.stepC hd t3 (fun _ h => h) m3 rfl rfl).toJW (h.law.cl_full hd he hm)
      have := CP.sone (k := k) (r := r) (p := p) (i := i) (n := n) (s := 6) (cl := e.cl) (hi := e.cl + n) (le := e.pub) (sp := d.sp) (so := tao') (sn := m') (sc := cap') (m := la.getD d.cur 0) (sb := true) J3.toJE (.inr rfl)
      rw [a1]
      exact this
  | @many ar ck tb tp la now tl dl l D ao cap ro rcap R d e s cl hi le o2 c2 h hd he hm hn hin hb hst =>
    have hr := h.law.rings i d e hd he
    have hp := (pow64 hr.sh).1
    have hpc := pow_cast d.sh
    have hbb := hr.b
    have hnn := hr.n
    have hem : e.many = true := hr.many.trans hm
    obtain ⟨a1, a2, a3, a4, a5, a6⟩ := hr.two hm
    rcases hst with rfl | ⟨hst, rfl, rfl, hle⟩
    · refine (r14step_m0 h.doc he hem n cl hi le (by omega)).mono ?_
      rintro e1 w1 ⟨rfl, c1, t1⟩
      refine ⟨1, e.cl, e.cl + n, le, rfl, by omega, by omega, c1, t1.mono (fun _ h => h.elim), ?_⟩
      have hx := stepT0 (S := ⟨d.sh, d.cur, d.cac, d.first, d.ids⟩) (la := la) (n := n) (cl := cl) (hi := hi) (le := le) (by simp only; rw [a1]; exact next_of _ _ hn.1 (by omega) (by omega) (by omega))
      simp only [a1] at hx
      exact m_next (h.toJH.stp t1 (fun _ h => h.elim)) h.law hd he hm (hin.stp t1 id) hb (by omega) hx (by omega) (fun c3 w3 o3 c4 H3 I3 => .many (H3.toJW h.law) hd he hm hn I3 (by omega) (.inr ⟨.inl rfl, rfl, rfl, fun h => by omega⟩))
    · have hv : wrap64 (e.cl + n - e.n) = e.cl + n - e.n := IntWalk.wrap64_in _ (by constructor <;> omega)
      rcases hst with rfl | rfl | rfl
      · by_cases hq : e.cl + n - e.n ≤ e.seen
        · refine (r14step_m1yes h.doc he hem n e.cl (e.cl + n) le hv hq (by omega)).mono ?_
          rintro e1 w1 ⟨rfl, c1, t1⟩
          refine ⟨4, e.cl, e.cl + n, le, rfl, by omega, by omega, c1, t1.mono (fun _ h => h.elim), ?_⟩
          have hx := stepT1y (S := ⟨d.sh, d.cur, d.cac, d.first, d.ids⟩) (la := la) (n := n) (cl := e.cl) (hi := e.cl + n) (le := le) (by simp only; rw [a2]; omega)
          exact m_next (h.toJH.stp t1 (fun _ h => h.elim)) h.law hd he hm (hin.stp t1 id) hb (by omega) hx (by omega) (fun c3 w3 o3 c4 H3 I3 => .many (H3.toJW h.law) hd he hm hn I3 hb (.inr ⟨.inr (.inr rfl), rfl, rfl, fun h => by omega⟩))
        · refine (r14step_m1no h.doc he hem n e.cl (e.cl + n) le hv (by omega) (by omega)).mono ?_
          rintro e1 w1 ⟨rfl, c1, t1, d1⟩
          refine ⟨3, e.cl, e.cl + n, e.cl, rfl, by omega, by omega, c1, t1.mono (fun j hj => by omega), ?_⟩
          have hx := stepT1n (S := ⟨d.sh, d.cur, d.cac, d.first, d.ids⟩) (la := la) (n := n) (cl := e.cl) (hi := e.cl + n) (le := le) (by simp only; rw [a2]; omega) hr.ids (by simp only; omega)
          have d1' : DWR c1 w1 p tp now dl l ro rcap (R.set i e) := by rw [set_same he]; exact d1
          have H1 := h.toJH.stepD t1 (fun _ h => h) d1'
          rw [set_same he] at H1
          exact m_next H1 h.law hd he hm (hin.stp t1 (by decide)) hb (by omega) hx (by omega) (fun c3 w3 o3 c4 H3 I3 => .many (H3.toJW h.law) hd he hm hn I3 hb (.inr ⟨.inr (.inl rfl), rfl, rfl, fun _ => rfl⟩))
      · have hle' := hle rfl
        subst hle'
        refine (r14step_m3 h.doc he hem n e.cl (e.cl + n) e.cl).mono ?_
        rintro e1 w1 ⟨rfl, c1, t1, d1⟩
        refine ⟨4, e.cl, e.cl + n, e.cl, rfl, by omega, by omega, c1, t1.mono (fun j hj => by omega), ?_⟩
        have hx := stepT3 (S := ⟨d.sh, d.cur, d.cac, d.first, d.ids⟩) (la := la) (n := n) (cl := e.cl) (hi := e.cl + n) (le := e.cl)
        have H1 := h.toJH.stepD t1 (fun _ h => h) d1
        exact m_next H1 h.law hd he hm (hin.stp t1 (by decide)) hb (by omega) hx (by omega) (fun c3 w3 o3 c4 H3 I3 => .many (e := { e with seen := e.cl }) (H3.toJW (h.law.cl_seen hd he hm)) hd (List.getElem?_set_self (List.getElem?_eq_some_iff.1 he).1) hm hn I3 hb (.inr ⟨.inr (.inr rfl), rfl, rfl, fun h => by omega⟩))
      · refine (r14step_m4 h.doc he hem n e.cl (e.cl + n) le rfl).mono ?_
        rintro e1 w1 ⟨rfl, c1, t1, d1⟩
        refine ⟨5, e.cl, e.cl + n, le, rfl, by omega, by omega, c1, t1.mono (fun j hj => by omega), ?_⟩
        have hx := stepT4 (S := ⟨d.sh, d.cur, d.cac, d.first, d.ids⟩) (la := la) (n := n) (cl := e.cl) (hi := e.cl + n) (le := le) a1
        have H1 := h.toJH.stepD t1 (fun _ h => h) d1
        exact m_next H1 h.law hd he hm (hin.stp t1 (by decide)) hb (by omega) hx (by omega) (fun c3 w3 o3 c4 H3 I3 => .smany (H3.toJW (h.law.cl_m hd he hm n hn.1 hn.2)).toJE (.inl rfl))
set_option maxHeartbeats 2000000 in
/-- A claim is begun in both. -/
theorem CP.start {ar ck tb tp : Nat} {la : List Int} {now : Int} {tl dl : List Tm} {l : List One} {D : List RD} {ao : Option Addr} {cap : Nat} {ro : Option Addr} {rcap : Nat} {R : List DR} {d : RD} {e : DR} (h : JW c w k r p ar ck tb tp la now tl dl l D ao cap ro rcap R) (hd : D[i]? = some d) (he : R[i]? = some e) (n : Int) (hn : 1 ≤ n ∧ n ≤ 2 ^ d.sh) (hk : k < 150) :
    Calls Tryz.prog 8 #[.pointer (some ⟨r, 0, none⟩), .int .i64 (i : Int), .int .i64 n] w fun e w' => ∃ xu : CV, e = .returned (.tuple #[.agg #[.bool xu.b, .pointer xu.p1, .int .i64 xu.a, .slice xu.so xu.sn xu.sc, .int .i64 xu.m, .bool xu.s, .bool xu.d, .bool xu.f, .pointer xu.p2, .int .i64 xu.n, .int .i64 xu.st, .int .i64 xu.cl, .int .i64 xu.hi, .slice xu.o2 xu.n2 xu.c2, .int .i64 xu.mo], .nilIface]) ∧ ∃ c', Stp (3 ≤ ·) c c' w w' ∧ ∀ (c2 : Nat → Nat) (W : World), Stp (· = 2) c' c2 w' W → Calls Tryz.prog 132 #[.pointer (some ⟨p, 0, none⟩), .int .i64 (i : Int), .int .i64 n] W fun e2 w2 => ∃ (s : Nat) (cl hi le : Int), e2 = .returned (.tuple #[.agg #[.int .i64 (i : Int), .int .i64 n, .int .i64 (s : Int), .int .i64 cl, .int .i64 hi, .int .i64 le, .slice none 0 0], .int .i64 0]) ∧ ∃ c3, Stp (3 ≤ ·) c2 c3 W w2 ∧ CP k r p i n c3 w2 s cl hi le xu := by
  have hr := h.law.rings i d e hd he
  have hp := (pow64 hr.sh).1
  have hpc := pow_cast d.sh
  have hbb := hr.b
  have hnn := hr.n
  have hsh := hr.sh
  by_cases hm : d.many = true
  · have hem : e.many = true := hr.many.trans hm
    refine (rclaim_m (by decide) h.code hd hm n hn.1 hn.2).mono ?_
    rintro e1 w1 ⟨rfl, c1, t1, m1⟩
    refine ⟨mV d.sp n 0 0 0 none 0 0 0, rfl, c1, t1.mono (fun _ h => h.elim), fun c2 W hW => ?_⟩
    have H2 := ((h.stpF t1).toJH.stp hW (fun j hj => .inr hj))
    refine (r14trynew_m H2.doc he hem n (by omega)).mono ?_
    rintro e2 w2 ⟨rfl, c3, t3⟩
    exact ⟨0, 0, 0, 0, rfl, c3, t3.mono (fun _ h => h.elim), .many ((H2.stp t3 (fun _ h => h.elim)).toJW h.law) hd he hm hn (In.nil _ _ _ _ _) (by omega) (.inl rfl)⟩
  · have hm' : d.many = false := by simpa using hm
    have hem : e.many = false := hr.many.trans hm'
    obtain ⟨a1, a2, a3, a4, a5, a6, a7⟩ := hr.one hm'
    have hne := next_of d.cl n hn.1 (by omega) (by omega) (by omega)
    by_cases hq : d.cl + n - 2 ^ d.sh ≤ d.ca
    · refine (rclaim_done (by decide) h.code hd hm' (by omega) n hn.1 hn.2 hne (by omega) hq (by omega)).mono ?_
      rintro e1 w1 ⟨rfl, c1, t1, m1⟩
      refine ⟨sV d.sp (d.cl + n) none 0 0 0 false true false, rfl, c1, t1.mono (fun j hj => by unfold kb at hj; omega), fun c2 W hW => ?_⟩
      have H2 := ((h.toJH.stepC hd t1 (fun _ h => h) m1 rfl rfl).stp hW (fun j hj => .inr hj))
      refine (r14trynew_done H2.doc he hem n (by omega) (by omega) (by omega) (by omega)).mono ?_
      rintro e2 w2 ⟨rfl, c3, t3, d3⟩
      refine ⟨5, e.cl, e.cl + n, 0, rfl, c3, t3.mono (fun j hj => by omega), ?_⟩
      have J3 := (H2.stepD t3 (fun _ h => h) d3).toJW (h.law.cl_done hd he hm' n hn.1 hn.2)
      have := CP.sone (k := k) (r := r) (p := p) (i := i) (n := n) (s := 5) (cl := e.cl) (hi := e.cl + n) (le := 0) (sp := d.sp) (so := none) (sn := 0) (sc := 0) (m := 0) (sb := false) J3.toJE (.inl rfl)
      rw [a1]
      exact this
    · refine (rclaim_wait (by decide) h.code hd hm' (by omega) n hn.1 hn.2 hne (by omega) (by omega)).mono ?_
      rintro e1 w1 ⟨rfl, c1, t1, m1⟩
      refine ⟨sV d.sp (d.cl + n) none 0 0 0 false false false, rfl, c1, t1.mono (fun _ h => h.elim), fun c2 W hW => ?_⟩
      have H2 := ((h.stpF t1).toJH.stp hW (fun j hj => .inr hj))
      refine (r14trynew_wait H2.doc he hem n (by omega) (by omega) (by omega)).mono ?_
      rintro e2 w2 ⟨rfl, c3, t3⟩
      exact ⟨0, e.cl, e.cl + n, 0, rfl, c3, t3.mono (fun _ h => h.elim), .one ((H2.stp t3 (fun _ h => h.elim)).toJW h.law) hd he hm' hn⟩
end
end Go.Proofs.YtiphdedfbafhkaaGreatDoor
