/- A room's Many, Slots, Gate, Cursor, Shown, Rings, of both kinds. No condition beyond each contract's own. -/
import Derived.Test.YtiphdedfbafhkaaGreatDoorRgA
import Derived.Test.YtiphdedfbafhkaaGreatDoorCeA
import Derived.Test.YtiphdedfbafhkaaGreatDoorSlots2
import Derived.Test.YtiphdedfbafhkaaGreatDoorMulY
namespace Go.Proofs.YtiphdedfbafhkaaGreatDoor
open Go.RowKit

section
variable {c c' : Nat → Nat} {K k : Nat} {w w' : World} {r ar ck tb q p gp sh cid bp : Nat} {cl ca sc : Int} {ids : List Int} {S : Sq} {la la' : List Int} {now : Int} {tl : List Tm} {l : List One} {D : List RD} {ao : Option Addr} {cap i : Nat} {d : RD}
theorem sngate_ok (h : SnAt c k w p q gp sh cid cl ca sc ids) : Calls Tryz.prog 72 #[.pointer (some ⟨p, 0, none⟩)] w fun e w' => e = .returned (.pointer (some ⟨gp, 0, none⟩)) ∧ w = w' := by
  obtain ⟨s0, s1, s2, s3, s4, s5, s6⟩ := h.cs
  have lp := h.st.lt
  clear h
  go_enter Tryz.func72, Tryz.ntmps72
  go_wp2
  go_ret
  exact ⟨rfl, rfl⟩

theorem sncursor_ok (h : SnAt c k w p q gp sh cid cl ca sc ids) : Calls Tryz.prog 69 #[.pointer (some ⟨p, 0, none⟩)] w fun e w' => e = .returned (.int .i64 cid) ∧ w = w' := by
  obtain ⟨s0, s1, s2, s3, s4, s5, s6⟩ := h.cs
  have lp := h.st.lt
  clear h
  go_enter Tryz.func69, Tryz.ntmps69
  go_wp2
  go_ret
  exact ⟨rfl, rfl⟩

theorem mcursor_ok (hB : SeqIs c k w p q bp gp S) : Calls Tryz.prog 70 #[.pointer (some ⟨p, 0, none⟩)] w fun e w' => e = .returned (.int .i64 S.cur) ∧ w = w' := by
  obtain ⟨s0, s1, s2, s3, s4, s5, lp⟩ := hB.cs
  clear hB
  go_enter Tryz.func70, Tryz.ntmps70
  go_wp2
  go_ret
  exact ⟨rfl, rfl⟩

theorem mshown_ok (hB : SeqIs c k w p q bp gp S) : Calls Tryz.prog 79 #[.pointer (some ⟨p, 0, none⟩)] w fun e w' => e = .returned (.pointer (some ⟨bp, 0, none⟩)) ∧ w = w' := by
  obtain ⟨s0, s1, s2, s3, s4, s5, lp⟩ := hB.cs
  clear hB
  go_enter Tryz.func79, Tryz.ntmps79
  go_wp2
  go_ret
  exact ⟨rfl, rfl⟩

theorem RMs.sl (h : RMs c K w r ar ck tb la now tl l D ao cap) (hd : D[i]? = some d) : w.cell? ⟨d.g, 1, none⟩ = some d.sl ∧ d.g < w.heap.size := by
  obtain ⟨-, h1, -, -, -, h5⟩ := ring_cells (h.rg i d hd).gb
  exact ⟨h1, h5⟩

theorem rmany_c (h : RMs c K w r ar ck tb la now tl l D ao cap) (hd : D[i]? = some d) :
    Calls Tryz.prog 31 #[.pointer (some ⟨r, 0, none⟩), .int .i64 (i : Int)] w fun e w' => e = .returned (.bool d.many) ∧ w = w' := by
  have H := Lib.hid h
  have HD := Lib.hid hd
  rcases hm : d.many with _ | _
  · obtain ⟨k0, k2, kl⟩ := h.one hd hm
    clear h hd hm
    go_enter Tryz.func31, Tryz.ntmps31
    go_wp2_with fail
    refine (rat_c H.out HD.out).mono ?_
    rintro e w1 ⟨rfl, rfl⟩
    go_wp2
    go_ret
    exact ⟨rfl, rfl⟩
  · obtain ⟨k0, k3, kl⟩ := h.two hd hm
    clear h hd hm
    go_enter Tryz.func31, Tryz.ntmps31
    go_wp2_with fail
    refine (rat_c H.out HD.out).mono ?_
    rintro e w1 ⟨rfl, rfl⟩
    go_wp2
    go_ret
    exact ⟨rfl, rfl⟩

theorem rslots_c (h : RMs c K w r ar ck tb la now tl l D ao cap) (hd : D[i]? = some d) :
    Calls Tryz.prog 28 #[.pointer (some ⟨r, 0, none⟩), .int .i64 (i : Int)] w fun e w' => e = .returned d.sl ∧ w = w' := by
  have H := Lib.hid h
  have HD := Lib.hid hd
  obtain ⟨k1, kl⟩ := h.sl hd
  clear h hd
  go_enter Tryz.func28, Tryz.ntmps28
  go_wp2_with fail
  refine (rat_c H.out HD.out).mono ?_
  rintro e w1 ⟨rfl, rfl⟩
  go_wp2
  go_ret
  exact ⟨rfl, rfl⟩

theorem mgate_r (hB : SeqIs c k w p q bp gp S) : Calls Tryz.prog 73 #[.pointer (some ⟨p, 0, none⟩)] w fun e w' => e = .returned (.pointer (some ⟨gp, 0, none⟩)) ∧ w = w' := by
  obtain ⟨s0, s1, s2, s3, s4, s5, lp⟩ := hB.cs
  clear hB
  go_enter Tryz.func73, Tryz.ntmps73
  go_wp2
  go_ret
  exact ⟨rfl, rfl⟩

theorem rgate_c (h : RMs c K w r ar ck tb la now tl l D ao cap) (hd : D[i]? = some d) :
    Calls Tryz.prog 26 #[.pointer (some ⟨r, 0, none⟩), .int .i64 (i : Int)] w fun e w' => e = .returned (.pointer (some ⟨d.gp, 0, none⟩)) ∧ w = w' := by
  have H := Lib.hid h
  have HD := Lib.hid hd
  rcases hm : d.many with _ | _
  · obtain ⟨k0, k2, kl⟩ := h.one hd hm
    have HS := Lib.hid (sngate_ok ((h.rg i d hd).sn hm))
    clear h hd hm
    go_enter Tryz.func26, Tryz.ntmps26
    go_wp2_with fail
    refine (rat_c H.out HD.out).mono ?_
    rintro e w1 ⟨rfl, rfl⟩
    go_wp2_with fail
    refine HS.out.mono ?_
    rintro e w1 ⟨rfl, rfl⟩
    go_wp2
    go_ret
    exact ⟨rfl, rfl⟩
  · obtain ⟨k0, k3, kl⟩ := h.two hd hm
    have HS := Lib.hid (mgate_r ((h.rg i d hd).sq hm))
    clear h hd hm
    go_enter Tryz.func26, Tryz.ntmps26
    go_wp2_with fail
    refine (rat_c H.out HD.out).mono ?_
    rintro e w1 ⟨rfl, rfl⟩
    go_wp2_with fail
    refine HS.out.mono ?_
    rintro e w1 ⟨rfl, rfl⟩
    go_wp2
    go_ret
    exact ⟨rfl, rfl⟩

theorem rcursor_c (h : RMs c K w r ar ck tb la now tl l D ao cap) (hd : D[i]? = some d) :
    Calls Tryz.prog 24 #[.pointer (some ⟨r, 0, none⟩), .int .i64 (i : Int)] w fun e w' => e = .returned (.int .i64 (d.cur : Int)) ∧ w = w' := by
  have H := Lib.hid h
  have HD := Lib.hid hd
  rcases hm : d.many with _ | _
  · obtain ⟨k0, k2, kl⟩ := h.one hd hm
    have HS := Lib.hid (sncursor_ok ((h.rg i d hd).sn hm))
    clear h hd hm
    go_enter Tryz.func24, Tryz.ntmps24
    go_wp2_with fail
    refine (rat_c H.out HD.out).mono ?_
    rintro e w1 ⟨rfl, rfl⟩
    go_wp2_with fail
    refine HS.out.mono ?_
    rintro e w1 ⟨rfl, rfl⟩
    go_wp2
    go_ret
    exact ⟨rfl, rfl⟩
  · obtain ⟨k0, k3, kl⟩ := h.two hd hm
    have HS := Lib.hid (mcursor_ok ((h.rg i d hd).sq hm))
    clear h hd hm
    go_enter Tryz.func24, Tryz.ntmps24
    go_wp2_with fail
    refine (rat_c H.out HD.out).mono ?_
    rintro e w1 ⟨rfl, rfl⟩
    go_wp2_with fail
    refine HS.out.mono ?_
    rintro e w1 ⟨rfl, rfl⟩
    go_wp2
    go_ret
    exact ⟨rfl, rfl⟩

/-- Shown: none of a single ring, some of a multi one. -/
theorem rshown_c (h : RMs c K w r ar ck tb la now tl l D ao cap) (hd : D[i]? = some d) :
    Calls Tryz.prog 35 #[.pointer (some ⟨r, 0, none⟩), .int .i64 (i : Int)] w fun e w' => e = .returned (.pointer (if d.many = true then some ⟨d.bp, 0, none⟩ else none)) ∧ w = w' := by
  have H := Lib.hid h
  have HD := Lib.hid hd
  rcases hm : d.many with _ | _
  · obtain ⟨k0, k2, kl⟩ := h.one hd hm
    clear h hd hm
    go_enter Tryz.func35, Tryz.ntmps35
    go_wp2_with fail
    refine (rat_c H.out HD.out).mono ?_
    rintro e w1 ⟨rfl, rfl⟩
    go_wp2
    go_ret
    exact ⟨rfl, rfl⟩
  · obtain ⟨k0, k3, kl⟩ := h.two hd hm
    have HS := Lib.hid (mshown_ok ((h.rg i d hd).sq hm))
    clear h hd hm
    go_enter Tryz.func35, Tryz.ntmps35
    go_wp2_with fail
    refine (rat_c H.out HD.out).mono ?_
    rintro e w1 ⟨rfl, rfl⟩
    go_wp2_with fail
    refine HS.out.mono ?_
    rintro e w1 ⟨rfl, rfl⟩
    go_wp2
    go_ret
    exact ⟨rfl, rfl⟩

theorem rrings_c (h : RMs c K w r ar ck tb la now tl l D ao cap) :
    Calls Tryz.prog 23 #[.pointer (some ⟨r, 0, none⟩)] w fun e w' => e = .returned (.int .i64 (D.length : Int)) ∧ w = w' := by
  have c3 := h.rm.rb.cell 3
  simp at c3
  clear h
  go_enter Tryz.func23, Tryz.ntmps23
  go_wp2
  go_ret
  exact ⟨rfl, rfl⟩
end
end Go.Proofs.YtiphdedfbafhkaaGreatDoor

/- A law of one ring, of either kind, that one cell holds back: what its calls answer. No condition beyond each contract's own. -/
namespace Go.Proofs.YtiphdedfbafhkaaGreatDoor
open Go.RowKit

section
theorem cgetD_ne {la : List Int} {i j : Nat} (h : i ≠ j) (v : Int) : (la.set i v).getD j 0 = la.getD j 0 := by simp [List.getD, List.getElem?_set_ne h]
theorem cgetD_eq {la : List Int} {i : Nat} (h : i < la.length) (v : Int) : (la.set i v).getD i 0 = v := by simp [List.getD, h]
theorem cshowOne (la : List Int) (first sh : Nat) (k : Int) : showAll la first sh k 1 = la.set (first + slotOf sh k) (k / 2 ^ sh) := by
  simp [showAll]
theorem cnext_ok {v n : Int} (h1 : 1 ≤ n) (h2 : n ≤ 1048576) (h3 : -1 ≤ v) (h4 : v + n ≤ 4611686018427387904) : nextErr v n = 0 := by
  unfold nextErr
  rw [if_neg (by omega), if_neg (by omega), if_neg (by omega)]

/-- A claim where one cell, that is -1, holds back, step by step: i steps are done. -/
def KT2 (S : Sq) (la : List Int) (n v : Int) (gi : Nat) (i : Nat) (la' : List Int) (t : Tr) : Prop :=
  t.n = n ∧ ((t.stage = 0 ∧ i = 0 ∧ la' = la ∧ t.ids = []) ∨ (t.claimed = v ∧ t.hi = v + n ∧
    ((t.stage = 1 ∧ i = 1 ∧ la' = la ∧ t.ids = []) ∨
     (v + n - 2 ^ S.sh ≤ -1 ∧ ((t.stage = 4 ∧ i = 2 ∧ la' = la) ∨ (t.stage = 5 ∧ i = 3 ∧ la' = la.set S.cur (v + n)))) ∨
     (-1 < v + n - 2 ^ S.sh ∧ ((t.stage = 2 ∧ i = 2 ∧ la' = la ∧ t.ids = [(gi : Int)] ∧ t.most = v) ∨ (t.stage = 6 ∧ i = 3 ∧ la' = la))))))
theorem KT2.step {S : Sq} {la la' : List Int} {n v : Int} {gi i : Nat} {t : Tr} (h : KT2 S la n v gi i la' t) (hS : S.ids = [(gi : Int)]) (hv : la.getD S.cur 0 = v) (hc : la.getD S.cac 0 = -1) (hg : la.getD gi 0 = -1) (h1 : 1 ≤ n) (hsh : n ≤ 1048576) (hv1 : -1 ≤ v) (hv2 : v + n ≤ 4611686018427387904) (h5 : t.stage < 5) :
    KT2 S la n v gi (i + 1) (stepT S la' t).1 (stepT S la' t).2.1 ∧ (stepT S la' t).2.2 = 0 := by
  obtain ⟨tn, stage, claimed, hi, ids, most⟩ := t
  obtain ⟨e1, h⟩ := h
  simp only at e1 h h5
  subst e1
  rcases h with ⟨rfl, rfl, rfl, rfl⟩ | ⟨rfl, rfl, h⟩
  · have he : nextErr (la'.getD S.cur 0) tn = 0 := by rw [hv]; exact cnext_ok h1 hsh hv1 hv2
    have e : stepT S la' ⟨tn, 0, claimed, hi, [], most⟩ = (la', ⟨tn, 1, v, v + tn, [], most⟩, 0) := by
      rw [stepT, if_neg (by simp), if_pos rfl, if_neg (fun h => h he), hv]
    rw [e]
    exact ⟨⟨rfl, .inr ⟨rfl, rfl, .inl ⟨rfl, rfl, rfl, rfl⟩⟩⟩, rfl⟩
  · rcases h with ⟨rfl, rfl, rfl, rfl⟩ | ⟨hok, h⟩ | ⟨hfull, h⟩
    · by_cases hen : claimed + tn - 2 ^ S.sh ≤ -1
      · have e : stepT S la' ⟨tn, 1, claimed, claimed + tn, [], most⟩ = (la', ⟨tn, 4, claimed, claimed + tn, [], most⟩, 0) := by
          rw [stepT, if_neg (by simp), if_neg (by simp), if_pos rfl, if_pos (by rw [hc]; exact ⟨hen, hv1⟩)]
        rw [e]
        exact ⟨⟨rfl, .inr ⟨rfl, rfl, .inr (.inl ⟨hen, .inl ⟨rfl, rfl, rfl⟩⟩)⟩⟩, rfl⟩
      · have e : stepT S la' ⟨tn, 1, claimed, claimed + tn, [], most⟩ = (la', ⟨tn, 2, claimed, claimed + tn, [(gi : Int)], claimed⟩, 0) := by
          rw [stepT, if_neg (by simp), if_neg (by simp), if_pos rfl, if_neg (by rw [hc]; exact fun h => hen h.1), if_neg (by rw [hS]; simp), hS]
        rw [e]
        exact ⟨⟨rfl, .inr ⟨rfl, rfl, .inr (.inr ⟨by omega, .inl ⟨rfl, rfl, rfl, rfl, rfl⟩⟩)⟩⟩, rfl⟩
    · rcases h with ⟨rfl, rfl, rfl⟩ | ⟨rfl, -⟩
      · have e : stepT S la' ⟨tn, 4, claimed, claimed + tn, ids, most⟩ = (la'.set S.cur (claimed + tn), ⟨tn, 5, claimed, claimed + tn, ids, most⟩, 0) := by
          rw [stepT, if_neg (by simp), if_neg (by simp), if_neg (by simp), if_neg (by simp), if_neg (by simp), if_pos hv]
        rw [e]
        exact ⟨⟨rfl, .inr ⟨rfl, rfl, .inr (.inl ⟨hok, .inr ⟨rfl, rfl, rfl⟩⟩)⟩⟩, rfl⟩
      · omega
    · rcases h with ⟨rfl, rfl, rfl, rfl, rfl⟩ | ⟨rfl, -⟩
      · have hm : min most (valAt la' (gi : Int)) = -1 := by
          unfold valAt
          rw [show ((gi : Int)).toNat = gi by omega, hg]
          omega
        have e : stepT S la' ⟨tn, 2, most, most + tn, [(gi : Int)], most⟩ = (la', ⟨tn, 6, most, most + tn, [], -1⟩, 0) := by
          rw [stepT, if_neg (by simp), if_neg (by simp), if_neg (by simp), if_pos rfl, if_pos (by simp)]
          simp only [List.headD_cons, hm, judgeT]
          rw [if_pos hfull]
        rw [e]
        exact ⟨⟨rfl, .inr ⟨rfl, rfl, .inr (.inr ⟨hfull, .inr ⟨rfl, rfl, rfl⟩⟩)⟩⟩, rfl⟩
      · omega

/-- What is known of the cells: x indexes are claimed, y published (of one). -/
structure CF (sh gi : Nat) (sc x y : Int) (la : List Int) (d : RD) : Prop where
  s0 : d.sh = sh
  i0 : d.ids = [(gi : Int)]
  u0 : d.cur < gi
  ug : gi < la.length
  g0 : la.getD gi 0 = -1
  one : d.many = false → d.cl = x - 1 ∧ d.ca = -1 ∧ (0 ≤ d.sc ∧ d.sc ≤ sc) ∧ la.getD d.cur 0 = y - 1
  two : d.many = true → d.cur < d.cac ∧ d.cac < d.first ∧ d.first + 2 ^ sh ≤ gi ∧ la.getD d.cac 0 = -1 ∧ la.getD d.cur 0 = x - 1
theorem CF.up {sh gi : Nat} {sc sc' x y : Int} {la : List Int} {d : RD} (h : CF sh gi sc x y la d) (hs : sc ≤ sc') : CF sh gi sc' x y la d :=
  ⟨h.s0, h.i0, h.u0, h.ug, h.g0, fun e => ⟨(h.one e).1, (h.one e).2.1, ⟨(h.one e).2.2.1.1, by have := (h.one e).2.2.1.2; omega⟩, (h.one e).2.2.2⟩, h.two⟩

structure CW (c0 : Nat → Nat) (w0 : World) (K r ar ck tb sh gi sp : Nat) (sc x y : Int) (la : List Int) (d : RD) (ao : Option Addr) (cap : Nat) (c : Nat → Nat) (w : World) : Prop where
  st : Stp (K ≤ ·) c0 c w0 w
  rm : RMs c K w r ar ck tb la 0 [] [] [d] ao cap
  cf : CF sh gi sc x y la d
  sl : d.sl = .pointer (some ⟨sp, 0, none⟩)
  rg : RingAt c (kb K 0 + 5) w sp sh (List.replicate (2 ^ sh) ⟨0, 0⟩)
def CG (c0 : Nat → Nat) (w0 : World) (K r ar ck tb sh gi sp : Nat) (b : Bool) (sc x y : Int) (c : Nat → Nat) (w : World) : Prop :=
  ∃ la d ao cap, d.many = b ∧ CW c0 w0 K r ar ck tb sh gi sp sc x y la d ao cap c w

/-- A room's claim as numbers. -/
structure RV where
  b : Bool
  p1 : Option Addr
  a : Int
  so : Option Addr
  sn : Nat
  sc : Nat
  m : Int
  s : Bool
  d : Bool
  f : Bool
  p2 : Option Addr
  n : Int
  st : Int
  cl : Int
  hi : Int
  o2 : Option Addr
  n2 : Nat
  c2 : Nat
  mo : Int

/-- A claim under way: k steps are done; whether it is over. -/
def CC (c0 : Nat → Nat) (w0 : World) (K r ar ck tb sh gi sp : Nat) (b : Bool) (sc x cn : Int) (k : Nat) (dn : Bool) (V : List Value) (c : Nat → Nat) (w : World) : Prop :=
  k ≤ 3 ∧ ∃ la d ao cap, d.many = b ∧
    ((b = false ∧ ∃ sao m scap most seen full, V = [.bool false, .pointer (some ⟨d.sp, 0, none⟩), .int .i64 (x + cn - 1), .slice sao m scap, .int .i64 most, .bool seen, .bool dn, .bool full, .pointer none, .int .i64 0, .int .i64 0, .int .i64 0, .int .i64 0, .slice none 0 0, .int .i64 0] ∧
      ((dn = true ∧ full = false ∧ x + cn ≤ 2 ^ sh ∧ CW c0 w0 K r ar ck tb sh gi sp (sc + 1) (x + cn) x la d ao cap c w) ∨
       (dn = false ∧ 2 ^ sh < x + cn ∧ k = 0 ∧ full = false ∧ sao = none ∧ m = 0 ∧ scap = 0 ∧ most = 0 ∧ seen = false ∧ CW c0 w0 K r ar ck tb sh gi sp sc x x la d ao cap c w) ∨
       (dn = false ∧ 2 ^ sh < x + cn ∧ k = 1 ∧ full = false ∧ most = x - 1 ∧ seen = true ∧ m = 1 ∧ In c (kb K 0 + 4) w 1 sao 1 scap ([(gi : Int)].map (Value.int .i64)) ∧ CW c0 w0 K r ar ck tb sh gi sp (sc + 1) x x la d ao cap c w) ∨
       (dn = true ∧ 2 ^ sh < x + cn ∧ full = true ∧ CW c0 w0 K r ar ck tb sh gi sp (sc + 1) x x la d ao cap c w))) ∨
     (b = true ∧ ∃ (t : Tr) (la0 : List Int) (tao : Option Addr) (tcap : Nat), V = [.bool true, .pointer none, .int .i64 0, .slice none 0 0, .int .i64 0, .bool false, .bool false, .bool false, .pointer (some ⟨d.sp, 0, none⟩), .int .i64 t.n, .int .i64 (t.stage : Int), .int .i64 t.claimed, .int .i64 t.hi, .slice tao t.ids.length tcap, .int .i64 t.most] ∧
      KT2 ⟨d.sh, d.cur, d.cac, d.first, d.ids⟩ la0 cn (x - 1) gi k la t ∧ CF sh gi sc x x la0 d ∧ dn = decide (5 ≤ t.stage) ∧
      In c (K + 14) w 1 tao t.ids.length tcap (t.ids.map (Value.int .i64)) ∧ TrOK la t ∧
      Stp (K ≤ ·) c0 c w0 w ∧ RMs c K w r ar ck tb la 0 [] [] [d] ao cap ∧ d.sl = .pointer (some ⟨sp, 0, none⟩) ∧ RingAt c (kb K 0 + 5) w sp sh (List.replicate (2 ^ sh) ⟨0, 0⟩)))
end

section
variable {c0 : Nat → Nat} {w0 : World} {K r ar ck tb sh gi sp : Nat} {sc : Int} {b : Bool} {cn z y : Int} {c c' : Nat → Nat} {w w' : World} {k : Nat} {dn : Bool} {x : RV} {la : List Int} {d : RD} {ao : Option Addr} {cap : Nat} {m : Int}
theorem CW.stpF (h : CW c0 w0 K r ar ck tb sh gi sp sc z y la d ao cap c w) (t : Stp (fun _ => False) c c' w w') : CW c0 w0 K r ar ck tb sh gi sp sc z y la d ao cap c' w' :=
  ⟨h.st.trans (t.mono fun _ h => h.elim), h.rm.stpF t, h.cf, h.sl, h.rg.stp t id⟩
theorem CW.stp0 (h : CW c0 w0 K r ar ck tb sh gi sp sc z y la d ao cap c w) (t : Stp (· = 0) c c' w w') (hK : 2 ≤ K) (hn : Stp (K ≤ ·) c0 c' w0 w') : CW c0 w0 K r ar ck tb sh gi sp sc z y la d ao cap c' w' :=
  ⟨hn, h.rm.stp0 hK t, h.cf, h.sl, h.rg.stp t (by unfold kb; omega)⟩
theorem CG.stpF (h : CG c0 w0 K r ar ck tb sh gi sp b sc z y c w) (t : Stp (fun _ => False) c c' w w') : CG c0 w0 K r ar ck tb sh gi sp b sc z y c' w' := by
  obtain ⟨la, d, ao, cap, hb, h⟩ := h
  exact ⟨la, d, ao, cap, hb, h.stpF t⟩
theorem CG.st (h : CG c0 w0 K r ar ck tb sh gi sp b sc z y c w) : Stp (K ≤ ·) c0 c w0 w := by
  obtain ⟨la, d, ao, cap, hb, h⟩ := h
  exact h.st
theorem CC.stpF {V : List Value} (h : CC c0 w0 K r ar ck tb sh gi sp b sc m cn k dn V c w) (t : Stp (fun _ => False) c c' w w') : CC c0 w0 K r ar ck tb sh gi sp b sc m cn k dn V c' w' := by
  obtain ⟨hk, la, d, ao, cap, hb, ⟨hi, sao, m, scap, most, seen, full, hV, h⟩ | ⟨hi, u, la0, tao, tcap, hV, h1, h2, h3, h4, h5, h6, h7, h8, h9⟩⟩ := h
  · refine ⟨hk, la, d, ao, cap, hb, .inl ⟨hi, sao, m, scap, most, seen, full, hV, ?_⟩⟩
    rcases h with ⟨a1, a2, a3, h⟩ | ⟨a1, a2, a3, a4, a5, a6, a7, a8, a9, h⟩ | ⟨a1, a2, a3, a4, a5, a6, a7, a8, h⟩ | ⟨a1, a2, a3, h⟩
    · exact .inl ⟨a1, a2, a3, h.stpF t⟩
    · exact .inr (.inl ⟨a1, a2, a3, a4, a5, a6, a7, a8, a9, h.stpF t⟩)
    · exact .inr (.inr (.inl ⟨a1, a2, a3, a4, a5, a6, a7, a8.stp t id, h.stpF t⟩))
    · exact .inr (.inr (.inr ⟨a1, a2, a3, h.stpF t⟩))
  · exact ⟨hk, la, d, ao, cap, hb, .inr ⟨hi, u, la0, tao, tcap, hV, h1, h2, h3, h4.stp t id, h5, h6.trans (t.mono fun _ h => h.elim), h7.stpF t, h8, h9.stp t id⟩⟩
theorem CC.stp0 {V : List Value} (h : CC c0 w0 K r ar ck tb sh gi sp b sc m cn k dn V c w) (t : Stp (· = 0) c c' w w') (hK : 2 ≤ K) (hn : Stp (K ≤ ·) c0 c' w0 w') : CC c0 w0 K r ar ck tb sh gi sp b sc m cn k dn V c' w' := by
  obtain ⟨hk, la, d, ao, cap, hb, ⟨hi, sao, m, scap, most, seen, full, hV, h⟩ | ⟨hi, u, la0, tao, tcap, hV, h1, h2, h3, h4, h5, h6, h7, h8, h9⟩⟩ := h
  · refine ⟨hk, la, d, ao, cap, hb, .inl ⟨hi, sao, m, scap, most, seen, full, hV, ?_⟩⟩
    rcases h with ⟨a1, a2, a3, h⟩ | ⟨a1, a2, a3, a4, a5, a6, a7, a8, a9, h⟩ | ⟨a1, a2, a3, a4, a5, a6, a7, a8, h⟩ | ⟨a1, a2, a3, h⟩
    · exact .inl ⟨a1, a2, a3, h.stp0 t hK hn⟩
    · exact .inr (.inl ⟨a1, a2, a3, a4, a5, a6, a7, a8, a9, h.stp0 t hK hn⟩)
    · exact .inr (.inr (.inl ⟨a1, a2, a3, a4, a5, a6, a7, a8.stp t (by unfold kb; omega), h.stp0 t hK hn⟩))
    · exact .inr (.inr (.inr ⟨a1, a2, a3, h.stp0 t hK hn⟩))
  · exact ⟨hk, la, d, ao, cap, hb, .inr ⟨hi, u, la0, tao, tcap, hV, h1, h2, h3, h4.stp t (by omega), h5, hn, h7.stp0 hK t, h8, h9.stp t (by unfold kb; omega)⟩⟩
theorem CC.st {V : List Value} (h : CC c0 w0 K r ar ck tb sh gi sp b sc m cn k dn V c w) : Stp (K ≤ ·) c0 c w0 w := by
  obtain ⟨hk, la, d, ao, cap, hb, ⟨hi, sao, m, scap, most, seen, full, hV, h⟩ | ⟨hi, u, la0, tao, tcap, hV, h1, h2, h3, h4, h5, h6, h7, h8, h9⟩⟩ := h
  · rcases h with ⟨a1, a2, a3, h⟩ | ⟨a1, a2, a3, a4, a5, a6, a7, a8, a9, h⟩ | ⟨a1, a2, a3, a4, a5, a6, a7, a8, h⟩ | ⟨a1, a2, a3, h⟩ <;> exact h.st
  · exact h6
theorem JC : ∀ j, j = kb K 0 + 2 ∨ j = K + 10 → K ≤ j := fun j h => by unfold kb at h; omega
theorem JC5 : ¬ (kb K 0 + 5 = kb K 0 + 2 ∨ kb K 0 + 5 = K + 10) := fun h => by unfold kb at h; omega

/-- Claim. -/
theorem cclaim (h : CG c0 w0 K r ar ck tb sh gi sp b sc m m c w) (hK : 2 ≤ K) (hsh : sh < 21) (h1 : 1 ≤ cn) (h2 : cn ≤ 2 ^ sh) (h0 : 0 ≤ m) (h3 : m ≤ 1048576) :
    Calls Tryz.prog 8 #[.pointer (some ⟨r, 0, none⟩), .int .i64 0, .int .i64 cn] w fun e w' => ∃ (x : RV) (dn : Bool) (c' : Nat → Nat), e = .returned (.tuple #[.agg #[.bool x.b, .pointer x.p1, .int .i64 x.a, .slice x.so x.sn x.sc, .int .i64 x.m, .bool x.s, .bool x.d, .bool x.f, .pointer x.p2, .int .i64 x.n, .int .i64 x.st, .int .i64 x.cl, .int .i64 x.hi, .slice x.o2 x.n2 x.c2, .int .i64 x.mo], .nilIface]) ∧ CC c0 w0 K r ar ck tb sh gi sp b sc m cn 0 dn [.bool x.b, .pointer x.p1, .int .i64 x.a, .slice x.so x.sn x.sc, .int .i64 x.m, .bool x.s, .bool x.d, .bool x.f, .pointer x.p2, .int .i64 x.n, .int .i64 x.st, .int .i64 x.cl, .int .i64 x.hi, .slice x.o2 x.n2 x.c2, .int .i64 x.mo] c' w' := by
  have hb := two_pow_bd sh hsh
  obtain ⟨la, d, ao, cap, hm, st, rm, cf, sl, rg⟩ := h
  have e0 := cf.s0
  cases b with
  | false =>
    obtain ⟨o1, o2, o3, o4⟩ := cf.one hm
    by_cases hx : m + cn ≤ 2 ^ sh
    · refine (rclaim_done (i := 0) hK rm rfl hm (by rw [e0]; exact hsh) cn h1 (by rw [e0]; exact h2) (cnext_ok h1 (by omega) (by omega) (by omega)) (by omega) (by rw [e0]; omega) (by omega)).mono ?_
      rintro e w1 ⟨rfl, c1, t1, r1⟩
      refine ⟨⟨false, some ⟨d.sp, 0, none⟩, d.cl + cn, none, 0, 0, 0, false, true, false, none, 0, 0, 0, 0, none, 0, 0, 0⟩, true, c1, rfl, by decide, la, { d with cl := d.cl + cn, ca := d.ca, sc := d.sc }, ao, cap, hm, .inl ⟨rfl, none, 0, 0, 0, false, false, ?_, .inl ⟨rfl, rfl, hx, ?_⟩⟩⟩
      · rw [show d.cl + cn = m + cn - 1 by omega]
      · exact ⟨st.trans (t1.mono JC), r1, ⟨cf.s0, cf.i0, cf.u0, cf.ug, cf.g0, fun _ => ⟨by simp only; omega, o2, ⟨o3.1, by have := o3.2; simp only; omega⟩, o4⟩, fun e => absurd e (by simp [hm])⟩, sl, rg.stp t1 JC5⟩
    · refine (rclaim_wait (i := 0) hK rm rfl hm (by rw [e0]; exact hsh) cn h1 (by rw [e0]; exact h2) (cnext_ok h1 (by omega) (by omega) (by omega)) (by omega) (by rw [e0]; omega)).mono ?_
      rintro e w1 ⟨rfl, c1, t1, r1⟩
      refine ⟨⟨false, some ⟨d.sp, 0, none⟩, d.cl + cn, none, 0, 0, 0, false, false, false, none, 0, 0, 0, 0, none, 0, 0, 0⟩, false, c1, rfl, by decide, la, d, ao, cap, hm, .inl ⟨rfl, none, 0, 0, 0, false, false, ?_, .inr (.inl ⟨rfl, by omega, rfl, rfl, rfl, rfl, rfl, rfl, rfl, ?_⟩)⟩⟩
      · rw [show d.cl + cn = m + cn - 1 by omega]
      · exact ⟨st.trans (t1.mono fun _ h => h.elim), r1, cf, sl, rg.stp t1 id⟩
  | true =>
    refine (rclaim_m (i := 0) hK rm rfl hm cn h1 (by rw [e0]; exact h2)).mono ?_
    rintro e w1 ⟨rfl, c1, t1, r1⟩
    exact ⟨⟨true, none, 0, none, 0, 0, 0, false, false, false, some ⟨d.sp, 0, none⟩, cn, 0, 0, 0, none, 0, 0, 0⟩, false, c1, rfl, by decide, la, d, ao, cap, hm, .inr ⟨rfl, Tr.start cn, la, none, 0, rfl, ⟨rfl, .inl ⟨rfl, rfl, rfl, rfl⟩⟩, cf, rfl, In.nil _ _ _ _ _, TrOK.start, st.trans (t1.mono fun _ h => h.elim), r1, sl, rg.stp t1 id⟩⟩

theorem cdone (h : CC c0 w0 K r ar ck tb sh gi sp b sc m cn k dn [.bool x.b, .pointer x.p1, .int .i64 x.a, .slice x.so x.sn x.sc, .int .i64 x.m, .bool x.s, .bool x.d, .bool x.f, .pointer x.p2, .int .i64 x.n, .int .i64 x.st, .int .i64 x.cl, .int .i64 x.hi, .slice x.o2 x.n2 x.c2, .int .i64 x.mo] c w) :
    Calls Tryz.prog 39 #[.agg #[.bool x.b, .pointer x.p1, .int .i64 x.a, .slice x.so x.sn x.sc, .int .i64 x.m, .bool x.s, .bool x.d, .bool x.f, .pointer x.p2, .int .i64 x.n, .int .i64 x.st, .int .i64 x.cl, .int .i64 x.hi, .slice x.o2 x.n2 x.c2, .int .i64 x.mo]] w fun e w' => e = .returned (.bool dn) ∧ ∃ c', Stp (fun _ => False) c c' w w' ∧ CC c0 w0 K r ar ck tb sh gi sp b sc m cn k dn [.bool x.b, .pointer x.p1, .int .i64 x.a, .slice x.so x.sn x.sc, .int .i64 x.m, .bool x.s, .bool x.d, .bool x.f, .pointer x.p2, .int .i64 x.n, .int .i64 x.st, .int .i64 x.cl, .int .i64 x.hi, .slice x.o2 x.n2 x.c2, .int .i64 x.mo] c' w' := by
  obtain ⟨xb, xp1, xa, xso, xsn, xsc, xm, xs, xd, xf, xp2, xn, xst, xcl, xhi, xo2, xn2, xc2, xmo⟩ := x
  dsimp only at h ⊢
  have h' := h
  obtain ⟨hk, la, d, ao, cap, hb, ⟨hi, sao, m, scap, most, seen, full, hV, -⟩ | ⟨hi, u, la0, tao, tcap, hV, h1, h2, h3, -⟩⟩ := h'
  · cases hV
    refine (rcdone_s c _ _ _ _ _ _ _ dn _ w).mono ?_
    rintro e w1 ⟨rfl, c1, t1⟩
    exact ⟨rfl, c1, t1, h.stpF t1⟩
  · cases hV
    refine (rcdone_m c _ _ _ _ _ _ _ _ _ w (b := dn) (by rw [h3]; simp; omega)).mono ?_
    rintro e w1 ⟨rfl, c1, t1⟩
    exact ⟨rfl, c1, t1, h.stpF t1⟩

/-- Full, of a claim that is over. -/
theorem cfull (h : CC c0 w0 K r ar ck tb sh gi sp b sc m cn k true [.bool x.b, .pointer x.p1, .int .i64 x.a, .slice x.so x.sn x.sc, .int .i64 x.m, .bool x.s, .bool x.d, .bool x.f, .pointer x.p2, .int .i64 x.n, .int .i64 x.st, .int .i64 x.cl, .int .i64 x.hi, .slice x.o2 x.n2 x.c2, .int .i64 x.mo] c w) :
    Calls Tryz.prog 41 #[.agg #[.bool x.b, .pointer x.p1, .int .i64 x.a, .slice x.so x.sn x.sc, .int .i64 x.m, .bool x.s, .bool x.d, .bool x.f, .pointer x.p2, .int .i64 x.n, .int .i64 x.st, .int .i64 x.cl, .int .i64 x.hi, .slice x.o2 x.n2 x.c2, .int .i64 x.mo]] w fun e w' => e = .returned (.bool (decide ((2 : Int) ^ sh < m + cn))) ∧ ∃ c', Stp (fun _ => False) c c' w w' ∧ CC c0 w0 K r ar ck tb sh gi sp b sc m cn k true [.bool x.b, .pointer x.p1, .int .i64 x.a, .slice x.so x.sn x.sc, .int .i64 x.m, .bool x.s, .bool x.d, .bool x.f, .pointer x.p2, .int .i64 x.n, .int .i64 x.st, .int .i64 x.cl, .int .i64 x.hi, .slice x.o2 x.n2 x.c2, .int .i64 x.mo] c' w' := by
  obtain ⟨xb, xp1, xa, xso, xsn, xsc, xm, xs, xd, xf, xp2, xn, xst, xcl, xhi, xo2, xn2, xc2, xmo⟩ := x
  dsimp only at h ⊢
  have h' := h
  obtain ⟨hk, la, d, ao, cap, hb, ⟨hi, sao, m, scap, most, seen, full, hV, hh⟩ | ⟨hi, u, la0, tao, tcap, hV, h1, h2, h3, -⟩⟩ := h'
  · cases hV
    rcases hh with ⟨-, e, hx, -⟩ | ⟨e, -⟩ | ⟨e, -⟩ | ⟨-, hx, e, -⟩
    · subst e
      refine (rcfull_s c _ _ _ _ _ _ _ true w).mono ?_
      rintro e w1 ⟨rfl, c1, t1⟩
      exact ⟨by rw [decide_eq_false (by omega)], c1, t1, h.stpF t1⟩
    · cases e
    · cases e
    · subst e
      refine (rcfull_s1 c _ _ _ _ _ _ _ true w).mono ?_
      rintro e w1 ⟨rfl, c1, t1⟩
      exact ⟨by rw [decide_eq_true hx], c1, t1, h.stpF t1⟩
  · cases hV
    have e0 := h2.s0
    have h5 : 5 ≤ u.stage := by simpa using h3
    have h6 : (((u.stage : Nat) : Int) == 6) = decide ((2 : Int) ^ sh < m + cn) := by
      rcases h1.2 with ⟨h, -⟩ | ⟨-, -, ⟨h, -⟩ | ⟨hx, ⟨h, -⟩ | ⟨h, -⟩⟩ | ⟨hx, ⟨h, -⟩ | ⟨h, -⟩⟩⟩
      · omega
      · omega
      · omega
      · simp only at hx
        rw [e0] at hx
        rw [h, decide_eq_false (by omega)]; rfl
      · omega
      · simp only at hx
        rw [e0] at hx
        rw [h, decide_eq_true (by omega)]; rfl
    refine (rcfull_m c _ _ _ _ _ _ _ _ _ w (b := decide ((2 : Int) ^ sh < m + cn)) h6).mono ?_
    rintro e w1 ⟨rfl, c1, t1⟩
    exact ⟨rfl, c1, t1, h.stpF t1⟩

/-- What a claim that is over leaves. -/
theorem CC.over (h : CC c0 w0 K r ar ck tb sh gi sp b sc m cn k true [.bool x.b, .pointer x.p1, .int .i64 x.a, .slice x.so x.sn x.sc, .int .i64 x.m, .bool x.s, .bool x.d, .bool x.f, .pointer x.p2, .int .i64 x.n, .int .i64 x.st, .int .i64 x.cl, .int .i64 x.hi, .slice x.o2 x.n2 x.c2, .int .i64 x.mo] c w) (_h0 : 1 ≤ cn) : (m + cn ≤ 2 ^ sh → CG c0 w0 K r ar ck tb sh gi sp b (sc + 1) (m + cn) m c w) ∧ (2 ^ sh < m + cn → CG c0 w0 K r ar ck tb sh gi sp b (sc + 1) m m c w) := by
  obtain ⟨hk, la, d, ao, cap, hb, ⟨hi, sao, m, scap, most, seen, full, hV, hh⟩ | ⟨hi, u, la0, tao, tcap, hV, h1, h2, h3, h4, h5, h6, h7, h8, h9⟩⟩ := h
  · rcases hh with ⟨-, e, hx, h⟩ | ⟨e, -⟩ | ⟨e, -⟩ | ⟨-, hx, e, h⟩
    · exact ⟨fun _ => ⟨la, d, ao, cap, hb, h⟩, fun h => by omega⟩
    · cases e
    · cases e
    · exact ⟨fun h => by omega, fun _ => ⟨la, d, ao, cap, hb, h⟩⟩
  · have e0 := h2.s0
    have g5 : 5 ≤ u.stage := by simpa using h3
    have hm : d.many = true := by rw [hb, hi]
    obtain ⟨t1, t2, t3, t4, t5⟩ := h2.two hm
    rcases h1.2 with ⟨h, -⟩ | ⟨-, -, ⟨h, -⟩ | ⟨hx, ⟨h, -⟩ | ⟨h, -, hl⟩⟩ | ⟨hx, ⟨h, -⟩ | ⟨h, -, hl⟩⟩⟩
    · omega
    · omega
    · omega
    · simp only at hx hl
      rw [e0] at hx
      refine ⟨fun _ => ⟨la, d, ao, cap, hb, h6, h7, ?_, h8, h9⟩, fun h => by omega⟩
      subst hl
      have := h2.ug
      have := h2.u0
      refine ⟨h2.s0, h2.i0, h2.u0, by rw [List.length_set]; exact h2.ug, by rw [cgetD_ne (by omega)]; exact h2.g0, fun e => absurd e (by simp [hm]), fun _ => ⟨t1, t2, t3, by rw [cgetD_ne (by omega)]; exact t4, by rw [cgetD_eq (by omega)]; omega⟩⟩
    · omega
    · simp only at hx hl
      rw [e0] at hx
      subst hl
      exact ⟨fun h => by omega, fun _ => ⟨la, d, ao, cap, hb, h6, h7, h2.up (by omega), h8, h9⟩⟩

/-- Step, of a claim that isn't over. -/
theorem cstep (h : CC c0 w0 K r ar ck tb sh gi sp b sc m cn k false [.bool x.b, .pointer x.p1, .int .i64 x.a, .slice x.so x.sn x.sc, .int .i64 x.m, .bool x.s, .bool x.d, .bool x.f, .pointer x.p2, .int .i64 x.n, .int .i64 x.st, .int .i64 x.cl, .int .i64 x.hi, .slice x.o2 x.n2 x.c2, .int .i64 x.mo] c w) (hK : 2 ≤ K) (hsh : sh < 21) (h1 : 1 ≤ cn) (h2 : cn ≤ 2 ^ sh) (h0 : 0 ≤ m) (h3 : m ≤ 1048576) (hsc : 0 ≤ sc ∧ sc ≤ 1048576) :
    Calls Tryz.prog 40 #[.agg #[.bool x.b, .pointer x.p1, .int .i64 x.a, .slice x.so x.sn x.sc, .int .i64 x.m, .bool x.s, .bool x.d, .bool x.f, .pointer x.p2, .int .i64 x.n, .int .i64 x.st, .int .i64 x.cl, .int .i64 x.hi, .slice x.o2 x.n2 x.c2, .int .i64 x.mo]] w fun e w' => ∃ (x : RV) (dn : Bool) (c' : Nat → Nat), e = .returned (.tuple #[.agg #[.bool x.b, .pointer x.p1, .int .i64 x.a, .slice x.so x.sn x.sc, .int .i64 x.m, .bool x.s, .bool x.d, .bool x.f, .pointer x.p2, .int .i64 x.n, .int .i64 x.st, .int .i64 x.cl, .int .i64 x.hi, .slice x.o2 x.n2 x.c2, .int .i64 x.mo], .nilIface]) ∧ Stp (K ≤ ·) c c' w w' ∧ CC c0 w0 K r ar ck tb sh gi sp b sc m cn (k + 1) dn [.bool x.b, .pointer x.p1, .int .i64 x.a, .slice x.so x.sn x.sc, .int .i64 x.m, .bool x.s, .bool x.d, .bool x.f, .pointer x.p2, .int .i64 x.n, .int .i64 x.st, .int .i64 x.cl, .int .i64 x.hi, .slice x.o2 x.n2 x.c2, .int .i64 x.mo] c' w' := by
  obtain ⟨xb, xp1, xa, xso, xsn, xsc, xm, xs, xd, xf, xp2, xn, xst, xcl, xhi, xo2, xn2, xc2, xmo⟩ := x
  dsimp only at h ⊢
  have hbd := two_pow_bd sh hsh
  obtain ⟨hk, la, d, ao, cap, hb, ⟨hi, sao, m', scap, most, seen, full, hV, hh⟩ | ⟨hi, u, la0, tao, tcap, hV, kt, cf, h3', hin, htr, st, rm, sl, rg⟩⟩ := h
  · subst hi
    rcases hh with ⟨e, -⟩ | ⟨-, hx, rfl, rfl, rfl, rfl, rfl, rfl, rfl, st, rm, cf, sl, rg⟩ | ⟨-, hx, rfl, rfl, rfl, rfl, rfl, hin, st, rm, cf, sl, rg⟩ | ⟨e, -⟩
    · cases e
    · cases hV
      obtain ⟨o1, o2, o3, o4⟩ := cf.one hb
      have e0 := cf.s0
      have ug := cf.ug
      have u0 := cf.u0
      refine (rcstep_more (i := 0) hK rm rfl hb (m + cn - 1) (by omega) (by omega) (by rw [cf.i0]; simp) (by rw [cf.i0]; simp) (by omega) (by rw [e0]; exact hsh)).mono ?_
      rintro e w1 ⟨tao', m1, cap', hm1, rfl, c1, t1, r1, i1⟩
      rw [cf.i0] at hm1 i1
      simp only [List.length_singleton] at hm1
      subst hm1
      refine ⟨⟨false, some ⟨d.sp, 0, none⟩, m + cn - 1, tao', 1, cap', la.getD d.cur 0, true, false, false, none, 0, 0, 0, 0, none, 0, 0, 0⟩, false, c1, rfl, t1.mono JC, by decide, la, { d with cl := d.cl, ca := d.ca, sc := d.sc + 1 }, ao, cap, hb, .inl ⟨rfl, tao', 1, cap', _, true, false, rfl, .inr (.inr (.inl ⟨rfl, hx, rfl, rfl, o4, rfl, rfl, i1, st.trans (t1.mono JC), r1, ?_, sl, rg.stp t1 JC5⟩))⟩⟩
      exact ⟨cf.s0, cf.i0, cf.u0, cf.ug, cf.g0, fun _ => ⟨o1, o2, by simp only; omega, o4⟩, fun e => absurd e (by simp [hb])⟩
    · cases hV
      obtain ⟨o1, o2, o3, o4⟩ := cf.one hb
      have e0 := cf.s0
      have ug := cf.ug
      have hva : valAt la (gi : Int) = -1 := by
        unfold valAt
        rw [show ((gi : Int)).toNat = gi by omega]
        exact cf.g0
      have hmin : min (m - 1) (valAt la (gi : Int)) = -1 := by rw [hva]; omega
      refine (rcstep_full (i := 0) (x1 := (gi : Int)) (m0 := m - 1) hK rm rfl hb (m + cn - 1) hin (by omega) (by omega) (by rw [e0]; exact hsh) (by rw [hmin, e0]; omega)).mono ?_
      rintro e w1 ⟨tao', m1, cap', rfl, c1, t1, r1⟩
      refine ⟨⟨false, some ⟨d.sp, 0, none⟩, m + cn - 1, tao', m1, cap', min (m - 1) (valAt la (gi : Int)), true, true, true, none, 0, 0, 0, 0, none, 0, 0, 0⟩, true, c1, rfl, t1.mono JC, by decide, la, { d with cl := d.cl, ca := min (m - 1) (valAt la (gi : Int)), sc := d.sc }, ao, cap, hb, .inl ⟨rfl, tao', m1, cap', _, true, true, rfl, .inr (.inr (.inr ⟨rfl, hx, rfl, st.trans (t1.mono JC), r1, ?_, sl, rg.stp t1 JC5⟩))⟩⟩
      exact ⟨cf.s0, cf.i0, cf.u0, cf.ug, cf.g0, fun _ => ⟨o1, hmin, o3, o4⟩, fun e => absurd e (by simp [hb])⟩
    · cases e
  · subst hi
    cases hV
    have h5 : u.stage < 5 := by
      have : ¬ 5 ≤ u.stage := by simpa using h3'
      omega
    obtain ⟨t1, t2, t3, t4, t5⟩ := cf.two hb
    have e0 := cf.s0
    have ug := cf.ug
    have t3' : d.first ≤ gi := Nat.le_trans (Nat.le_add_right _ _) t3
    have hk3 : k ≤ 2 := by
      rcases kt.2 with ⟨-, h, -⟩ | ⟨-, -, ⟨-, h, -⟩ | ⟨-, ⟨-, h, -⟩ | ⟨h, -⟩⟩ | ⟨-, ⟨-, h, -⟩ | ⟨h, -⟩⟩⟩ <;> omega
    obtain ⟨ks, kz⟩ := KT2.step kt cf.i0 t5 t4 cf.g0 h1 (by omega) (by omega) (by omega) h5
    have hlen : la.length = la0.length := by
      rcases kt.2 with ⟨-, -, rfl, -⟩ | ⟨-, -, ⟨-, -, rfl, -⟩ | ⟨-, ⟨-, -, rfl⟩ | ⟨-, -, rfl⟩⟩ | ⟨-, ⟨-, -, rfl, -⟩ | ⟨-, -, rfl⟩⟩⟩ <;> simp
    have hSq : SqOK la ⟨d.sh, d.cur, d.cac, d.first, d.ids⟩ := ⟨by simp only; omega, by simp only; omega, by simp only; omega, by simp only; rw [cf.i0]; simp; omega, by simp only; rw [cf.i0]; simp⟩
    have HT := TrOK.step hSq htr
    refine (rcstep_m (i := 0) hK rm rfl hb hin hSq htr h5).mono ?_
    rintro e w1 ⟨t', la', er, tao', tcap', ev, HE, rfl, c1, tt1, r1, i1, he⟩
    rw [HE.out] at ks kz HT
    simp only at ks kz HT
    have hev : ev = .nilIface := by
      rcases he with ⟨-, h⟩ | ⟨h, -⟩
      · exact h
      · exact absurd kz h
    subst hev
    exact ⟨⟨true, none, 0, none, 0, 0, 0, false, false, false, some ⟨d.sp, 0, none⟩, t'.n, t'.stage, t'.claimed, t'.hi, tao', t'.ids.length, tcap', t'.most⟩, decide (5 ≤ t'.stage), c1, rfl, tt1.mono (fun j h => by omega), by omega, la', d, ao, cap, hb, .inr ⟨rfl, t', la0, tao', tcap', rfl, ks, cf, rfl, i1, HT, st.trans (tt1.mono fun j h => by omega), r1, sl, rg.stp tt1 (by unfold kb; omega)⟩⟩

/-- Show. -/
theorem cshow (h : CG c0 w0 K r ar ck tb sh gi sp b sc m y c w) (hsh : sh < 21) (h4 : 0 ≤ y) (h5 : y < m) (h3 : m ≤ 1048576) :
    Calls Tryz.prog 9 #[.pointer (some ⟨r, 0, none⟩), .int .i64 0, .int .i64 y, .int .i64 (m - 1)] w fun e w' => ∃ (t2 : Int) (c' : Nat → Nat), e = .returned (.tuple #[.int .i64 t2, .nilIface]) ∧ y < t2 ∧ t2 ≤ m ∧ CG c0 w0 K r ar ck tb sh gi sp b sc m t2 c' w' := by
  have hbd := two_pow_bd sh hsh
  obtain ⟨la, d, ao, cap, hm, st, rm, cf, sl, rg⟩ := h
  have ug := cf.ug
  have u0 := cf.u0
  cases b with
  | false =>
    obtain ⟨o1, o2, o3, o4⟩ := cf.one hm
    refine (rshow_s (i := 0) rm rfl hm (by omega) y (m - 1) (by omega) (by omega) (by omega) (by omega)).mono ?_
    rintro e w1 ⟨rfl, c1, t1, r1⟩
    refine ⟨_, c1, rfl, by omega, by omega, _, d, ao, cap, hm, st.trans (t1.mono fun j h => by omega), r1, ?_, sl, rg.stp t1 (by unfold kb; omega)⟩
    exact ⟨cf.s0, cf.i0, cf.u0, by rw [List.length_set]; exact cf.ug, by rw [cgetD_ne (by omega)]; exact cf.g0, fun _ => ⟨o1, o2, o3, by rw [cgetD_eq (by omega)]; omega⟩, fun e => absurd e (by simp [hm])⟩
  | true =>
    obtain ⟨t1, t2, t3, t4, t5⟩ := cf.two hm
    have hs := (slotOf_lt sh y hsh).1
    refine (rshow_m (i := 0) rm rfl hm (by omega) t5 (by rw [cf.s0]; omega) y (m - 1) (by omega) (by omega) (by omega) (by omega)).mono ?_
    rintro e w1 ⟨rfl, c1, tt1, r1⟩
    rw [cf.s0, cshowOne] at r1
    refine ⟨_, c1, rfl, by omega, by omega, _, d, ao, cap, hm, st.trans (tt1.mono fun j h => by omega), r1, ?_, sl, rg.stp tt1 (by unfold kb; omega)⟩
    exact ⟨cf.s0, cf.i0, cf.u0, by rw [List.length_set]; exact cf.ug, by rw [cgetD_ne (by omega)]; exact cf.g0, fun e => absurd e (by simp [hm]), fun _ => ⟨t1, t2, t3, by rw [cgetD_ne (by omega)]; exact t4, by rw [cgetD_ne (by omega)]; exact t5⟩⟩

/-- A cell more that holds back. -/
theorem cadd (h : RMs c K w r ar ck tb la 0 [] [] [d] ao cap) (id : Nat) (hid : (id : Int) < 2097152) (hd : d.ids = []) :
    Calls Tryz.prog 38 #[.pointer (some ⟨d.gp, 0, none⟩), .int .i64 id] w fun e w' => e = .returned .nilIface ∧ ∃ c', Stp (fun j => j = kb K 0 + 3 ∨ j = K + 13) c c' w w' ∧ RMs c' K w' r ar ck tb la 0 [] [] [{ d with ids := [(id : Int)] }] ao cap := by
  have he : gaddErr d.ids id = 0 := by rw [hd]; unfold gaddErr; rw [if_neg (by omega), if_neg (by simp), if_neg (by simp)]
  have hr := h.rg 0 d rfl
  have fin : ∀ {c' : Nat → Nat} {w' : World}, Stp (fun j => j = kb K 0 + 3 ∨ j = K + 13) c c' w w' → RI c' K (kb K 0) w' ar { d with ids := [(id : Int)] } → RMs c' K w' r ar ck tb la 0 [] [] [{ d with ids := [(id : Int)] }] ao cap := fun {c' w'} t g =>
    ⟨h.rm.stp t (by unfold kb; omega) (by unfold kb; omega) (by unfold kb; omega) (by unfold kb; omega) (by unfold kb; omega), h.rr.stp t (by unfold kb; omega), fun i y hy => by
      match i, hy with
      | 0, hy => cases hy; exact g
      | i + 1, hy => cases hy⟩
  by_cases hm : d.many = true
  · have sq := hr.sq hm
    refine (gadd_ok sq.gr id he).mono ?_
    rintro e w' ⟨rfl, c', t, g⟩
    have t' : Stp (fun j => j = kb K 0 + 3 ∨ j = K + 13) c c' w w' := t.mono fun j h => .inr h
    simp only at g
    rw [hd] at g
    exact ⟨rfl, c', t', fin t' ⟨hr.gb.stp t (by unfold kb; omega), hr.wr.stp t (by unfold kb; omega), fun _ => ⟨sq.st.stp t (by omega), sq.bf.stp t (by omega), g⟩, fun e => absurd e (by simp [hm])⟩⟩
  · have hm : d.many = false := by simpa using hm
    have sn := hr.sn hm
    refine (gadd_ok sn.gr id he).mono ?_
    rintro e w' ⟨rfl, c', t, g⟩
    have t' : Stp (fun j => j = kb K 0 + 3 ∨ j = K + 13) c c' w w' := t.mono fun j h => .inl h
    rw [hd] at g
    exact ⟨rfl, c', t', fin t' ⟨hr.gb.stp t (by unfold kb; omega), hr.wr.stp t (by unfold kb; omega), fun e => absurd e (by simp [hm]), fun _ => ⟨sn.st.stp t (by omega), g⟩⟩⟩

end
end Go.Proofs.YtiphdedfbafhkaaGreatDoor
