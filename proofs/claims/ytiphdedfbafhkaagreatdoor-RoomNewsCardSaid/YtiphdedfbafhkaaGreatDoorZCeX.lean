/- Contracts that the closing theorem wants (CeX). No condition beyond each law's own. -/
import Derived.Test.YtiphdedfbafhkaaGreatDoorZRgA
import Derived.Test.YtiphdedfbafhkaaGreatDoorZCeA
import Derived.Test.YtiphdedfbafhkaaGreatDoorZBB
import Derived.Test.YtiphdedfbafhkaaGreatDoorZMulY
namespace Go.Proofs.YtiphdedfbafhkaaGreatDoor
open Go.RowKit

section
variable {c c' : Nat → Nat} {K k : Nat} {w w' : World} {r ar ck tb q p gp sh cid bp : Nat} {cl ca sc : Int} {ids : List Int} {S : Sq} {la la' : List Int} {now : Int} {tl : List Tm} {l : List One} {D : List RD} {ao : Option Addr} {cap i : Nat} {d : RD}
theorem sncursor_ok (h : SnAt c k w p q gp sh cid cl ca sc ids) : Calls Tryz.prog 69 #[.pointer (some ⟨p, 0, none⟩)] w fun e w' => e = .returned (.int .i64 cid) ∧ w = w' := by
  obtain ⟨s0, s1, s2, s3, s4, s5, s6⟩ := h.cs
  have lp := h.st.lt
  clear h
  go_enter Tryz.func69, Tryz.ntmps69
  go_wp2
  go_ret
  exact ⟨rfl, rfl⟩

theorem mcursor_ok (hB : SeqIs c k w p q bp gp S) : Calls Tryz.prog 70 #[.pointer (some ⟨p, 0, none⟩)] w fun e w' => e = .returned (.int .i64 S.cur) ∧ w = w' := by
  obtain ⟨s0, s1, s2, s3, s4, s5, lp⟩ := hB.cs
  clear hB
  go_enter Tryz.func70, Tryz.ntmps70
  go_wp2
  go_ret
  exact ⟨rfl, rfl⟩

theorem RMs.sl (h : RMs c K w r ar ck tb la now tl l D ao cap) (hd : D[i]? = some d) : w.cell? ⟨d.g, 1, none⟩ = some d.sl ∧ d.g < w.heap.size := by
  obtain ⟨-, h1, -, -, -, h5⟩ := ring_cells (h.rg i d hd).gb
  exact ⟨h1, h5⟩

theorem rmany_c (h : RMs c K w r ar ck tb la now tl l D ao cap) (hd : D[i]? = some d) :
    Calls Tryz.prog 31 #[.pointer (some ⟨r, 0, none⟩), .int .i64 (i : Int)] w fun e w' => e = .returned (.bool d.many) ∧ w = w' := by
  have H := Lib.hid h
  have HD := Lib.hid hd
  rcases hm : d.many with _ | _
  · obtain ⟨k0, k2, kl⟩ := h.one hd hm
    clear h hd hm
    go_enter Tryz.func31, Tryz.ntmps31
    go_wp2_with fail
    refine (rat_c H.out HD.out).mono ?_
    rintro e w1 ⟨rfl, rfl⟩
    go_wp2
    go_ret
    exact ⟨rfl, rfl⟩
  · obtain ⟨k0, k3, kl⟩ := h.two hd hm
    clear h hd hm
    go_enter Tryz.func31, Tryz.ntmps31
    go_wp2_with fail
    refine (rat_c H.out HD.out).mono ?_
    rintro e w1 ⟨rfl, rfl⟩
    go_wp2
    go_ret
    exact ⟨rfl, rfl⟩

theorem rslots_c (h : RMs c K w r ar ck tb la now tl l D ao cap) (hd : D[i]? = some d) :
    Calls Tryz.prog 28 #[.pointer (some ⟨r, 0, none⟩), .int .i64 (i : Int)] w fun e w' => e = .returned d.sl ∧ w = w' := by
  have H := Lib.hid h
  have HD := Lib.hid hd
  obtain ⟨k1, kl⟩ := h.sl hd
  clear h hd
  go_enter Tryz.func28, Tryz.ntmps28
  go_wp2_with fail
  refine (rat_c H.out HD.out).mono ?_
  rintro e w1 ⟨rfl, rfl⟩
  go_wp2
  go_ret
  exact ⟨rfl, rfl⟩

theorem rcursor_c (h : RMs c K w r ar ck tb la now tl l D ao cap) (hd : D[i]? = some d) :
    Calls Tryz.prog 24 #[.pointer (some ⟨r, 0, none⟩), .int .i64 (i : Int)] w fun e w' => e = .returned (.int .i64 (d.cur : Int)) ∧ w = w' := by
  have H := Lib.hid h
  have HD := Lib.hid hd
  rcases hm : d.many with _ | _
  · obtain ⟨k0, k2, kl⟩ := h.one hd hm
    have HS := Lib.hid (sncursor_ok ((h.rg i d hd).sn hm))
    clear h hd hm
    go_enter Tryz.func24, Tryz.ntmps24
    go_wp2_with fail
    refine (rat_c H.out HD.out).mono ?_
    rintro e w1 ⟨rfl, rfl⟩
    go_wp2_with fail
    refine HS.out.mono ?_
    rintro e w1 ⟨rfl, rfl⟩
    go_wp2
    go_ret
    exact ⟨rfl, rfl⟩
  · obtain ⟨k0, k3, kl⟩ := h.two hd hm
    have HS := Lib.hid (mcursor_ok ((h.rg i d hd).sq hm))
    clear h hd hm
    go_enter Tryz.func24, Tryz.ntmps24
    go_wp2_with fail
    refine (rat_c H.out HD.out).mono ?_
    rintro e w1 ⟨rfl, rfl⟩
    go_wp2_with fail
    refine HS.out.mono ?_
    rintro e w1 ⟨rfl, rfl⟩
    go_wp2
    go_ret
    exact ⟨rfl, rfl⟩

theorem rrings_c (h : RMs c K w r ar ck tb la now tl l D ao cap) :
    Calls Tryz.prog 23 #[.pointer (some ⟨r, 0, none⟩)] w fun e w' => e = .returned (.int .i64 (D.length : Int)) ∧ w = w' := by
  have c3 := h.rm.rb.cell 3
  simp at c3
  clear h
  go_enter Tryz.func23, Tryz.ntmps23
  go_wp2
  go_ret
  exact ⟨rfl, rfl⟩
end
end Go.Proofs.YtiphdedfbafhkaaGreatDoor

namespace Go.Proofs.YtiphdedfbafhkaaGreatDoor
open Go.RowKit

section
/-- A claim where one cell, that is -1, holds back, step by step: i steps are done. -/
def KT2 (S : Sq) (la : List Int) (n v : Int) (gi : Nat) (i : Nat) (la' : List Int) (t : Tr) : Prop :=
  t.n = n ∧ ((t.stage = 0 ∧ i = 0 ∧ la' = la ∧ t.ids = []) ∨ (t.claimed = v ∧ t.hi = v + n ∧
    ((t.stage = 1 ∧ i = 1 ∧ la' = la ∧ t.ids = []) ∨
     (v + n - 2 ^ S.sh ≤ -1 ∧ ((t.stage = 4 ∧ i = 2 ∧ la' = la) ∨ (t.stage = 5 ∧ i = 3 ∧ la' = la.set S.cur (v + n)))) ∨
     (-1 < v + n - 2 ^ S.sh ∧ ((t.stage = 2 ∧ i = 2 ∧ la' = la ∧ t.ids = [(gi : Int)] ∧ t.most = v) ∨ (t.stage = 6 ∧ i = 3 ∧ la' = la))))))
/-- What is known of the cells: x indexes are claimed, y published (of one). -/
structure CF (sh gi : Nat) (sc x y : Int) (la : List Int) (d : RD) : Prop where
  s0 : d.sh = sh
  i0 : d.ids = [(gi : Int)]
  u0 : d.cur < gi
  ug : gi < la.length
  g0 : la.getD gi 0 = -1
  one : d.many = false → d.cl = x - 1 ∧ d.ca = -1 ∧ (0 ≤ d.sc ∧ d.sc ≤ sc) ∧ la.getD d.cur 0 = y - 1
  two : d.many = true → d.cur < d.cac ∧ d.cac < d.first ∧ d.first + 2 ^ sh ≤ gi ∧ la.getD d.cac 0 = -1 ∧ la.getD d.cur 0 = x - 1
structure CW (c0 : Nat → Nat) (w0 : World) (K r ar ck tb sh gi sp : Nat) (sc x y : Int) (la : List Int) (d : RD) (ao : Option Addr) (cap : Nat) (c : Nat → Nat) (w : World) : Prop where
  st : Stp (K ≤ ·) c0 c w0 w
  rm : RMs c K w r ar ck tb la 0 [] [] [d] ao cap
  cf : CF sh gi sc x y la d
  sl : d.sl = .pointer (some ⟨sp, 0, none⟩)
  rg : RingAt c (kb K 0 + 5) w sp sh (List.replicate (2 ^ sh) ⟨0, 0⟩)
def CG (c0 : Nat → Nat) (w0 : World) (K r ar ck tb sh gi sp : Nat) (b : Bool) (sc x y : Int) (c : Nat → Nat) (w : World) : Prop :=
  ∃ la d ao cap, d.many = b ∧ CW c0 w0 K r ar ck tb sh gi sp sc x y la d ao cap c w

/-- A room's claim as numbers. -/
structure RV where
  b : Bool
  p1 : Option Addr
  a : Int
  so : Option Addr
  sn : Nat
  sc : Nat
  m : Int
  s : Bool
  d : Bool
  f : Bool
  p2 : Option Addr
  n : Int
  st : Int
  cl : Int
  hi : Int
  o2 : Option Addr
  n2 : Nat
  c2 : Nat
  mo : Int

/-- A claim under way: k steps are done; whether it is over. -/
def CC (c0 : Nat → Nat) (w0 : World) (K r ar ck tb sh gi sp : Nat) (b : Bool) (sc x cn : Int) (k : Nat) (dn : Bool) (V : List Value) (c : Nat → Nat) (w : World) : Prop :=
  k ≤ 3 ∧ ∃ la d ao cap, d.many = b ∧
    ((b = false ∧ ∃ sao m scap most seen full, V = [.bool false, .pointer (some ⟨d.sp, 0, none⟩), .int .i64 (x + cn - 1), .slice sao m scap, .int .i64 most, .bool seen, .bool dn, .bool full, .pointer none, .int .i64 0, .int .i64 0, .int .i64 0, .int .i64 0, .slice none 0 0, .int .i64 0] ∧
      ((dn = true ∧ full = false ∧ x + cn ≤ 2 ^ sh ∧ CW c0 w0 K r ar ck tb sh gi sp (sc + 1) (x + cn) x la d ao cap c w) ∨
       (dn = false ∧ 2 ^ sh < x + cn ∧ k = 0 ∧ full = false ∧ sao = none ∧ m = 0 ∧ scap = 0 ∧ most = 0 ∧ seen = false ∧ CW c0 w0 K r ar ck tb sh gi sp sc x x la d ao cap c w) ∨
       (dn = false ∧ 2 ^ sh < x + cn ∧ k = 1 ∧ full = false ∧ most = x - 1 ∧ seen = true ∧ m = 1 ∧ In c (kb K 0 + 4) w 1 sao 1 scap ([(gi : Int)].map (Value.int .i64)) ∧ CW c0 w0 K r ar ck tb sh gi sp (sc + 1) x x la d ao cap c w) ∨
       (dn = true ∧ 2 ^ sh < x + cn ∧ full = true ∧ CW c0 w0 K r ar ck tb sh gi sp (sc + 1) x x la d ao cap c w))) ∨
     (b = true ∧ ∃ (t : Tr) (la0 : List Int) (tao : Option Addr) (tcap : Nat), V = [.bool true, .pointer none, .int .i64 0, .slice none 0 0, .int .i64 0, .bool false, .bool false, .bool false, .pointer (some ⟨d.sp, 0, none⟩), .int .i64 t.n, .int .i64 (t.stage : Int), .int .i64 t.claimed, .int .i64 t.hi, .slice tao t.ids.length tcap, .int .i64 t.most] ∧
      KT2 ⟨d.sh, d.cur, d.cac, d.first, d.ids⟩ la0 cn (x - 1) gi k la t ∧ CF sh gi sc x x la0 d ∧ dn = decide (5 ≤ t.stage) ∧
      In c (K + 14) w 1 tao t.ids.length tcap (t.ids.map (Value.int .i64)) ∧ TrOK la t ∧
      Stp (K ≤ ·) c0 c w0 w ∧ RMs c K w r ar ck tb la 0 [] [] [d] ao cap ∧ d.sl = .pointer (some ⟨sp, 0, none⟩) ∧ RingAt c (kb K 0 + 5) w sp sh (List.replicate (2 ^ sh) ⟨0, 0⟩)))
end

section
variable {c0 : Nat → Nat} {w0 : World} {K r ar ck tb sh gi sp : Nat} {sc : Int} {b : Bool} {cn z y : Int} {c c' : Nat → Nat} {w w' : World} {k : Nat} {dn : Bool} {x : RV} {la : List Int} {d : RD} {ao : Option Addr} {cap : Nat} {m : Int}
end
end Go.Proofs.YtiphdedfbafhkaaGreatDoor
