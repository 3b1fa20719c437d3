/- The walk of the law AvailPlays. No condition but that the table of math/bits holds what the program lays there. -/
import Derived.Test.YteicmmgpkhmlbaaDoorAvailRef
import Derived.Test.YteicmmgpkhmlbaaDoorMem4
namespace Go.Proofs.YteicmmgpkhmlbaaDoor
open Go.RowKit Go.ChangeShapes Go.WideShapes Go.Deep Go.Joins

theorem awake7k (K : Nat) (hK : 2 ≤ K) (c : Nat → Nat) (w : World) (ht : Tab w) (hc : c 2 = 0) :
    Calls Tryd.prog 49 #[] w fun e w' => e = .returned (.bool true) ∧ ∃ c', Stp (K ≤ ·) c c' w w' := by
  have Ht := Lib.hid ht
  have Hc := Lib.hid hc
  clear ht hc
  go_enter Tryd.func49, Tryd.ntmps49
  go_wp2_with fail
  refine (new_any c K _).mono ?_
  rintro e w1 ⟨rfl, c1, s1, h1⟩
  have S1 := Lib.hid (s1.mono (J' := (K ≤ ·)) (fun _ h => Nat.le_of_eq h.symm))
  have H1 := Lib.hid h1
  clear s1 h1
  go_wp2_with fail
  refine (of_pow c1 2 (by decide) _ (Ht.out.stp S1.out (by rw [Hc.out]; omega))).mono ?_
  rintro e w2 ⟨rfl, c2, s2⟩
  obtain ⟨c3, -, A3⟩ := (s2.alloc (.cells #[.int .i64 2] 24) K).name
  have S3 := Lib.hid (S1.out.trans (A3.out.mono (fun _ h => h.elim)))
  have H3 := Lib.hid (H1.out.stp A3.out (fun h => h))
  clear s2 A3 S1 H1
  go_wp2_with fail
  refine (avnew_ok H3.out (K + 1) 2 (by omega) (by decide) (by simp)).mono ?_
  rintro e w4 ⟨p, rfl, c4, s4, h4, b4⟩
  have S4 := Lib.hid (S3.out.trans (s4.mono (fun _ h => Nat.le_of_eq h.symm)))
  have H4 := Lib.hid (show ArenaS c4 K w4 w.heap.size ([] ++ List.replicate (2 ^ 2) (-1)) from ⟨_, h4⟩)
  have B4 := Lib.hid (show BufAt c4 (K + 1) w4 p 2 0 from b4)
  clear s4 h4 b4 S3 H3
  go_wp2_with fail
  refine (avshow_ok B4.out H4.out (by omega) (by decide) 0 0 (by decide) (by decide) (by decide) (by decide)).mono ?_
  rintro e w5 ⟨rfl, c5, s5, h5⟩
  have S5 := Lib.hid (S4.out.trans (s5.mono (fun _ h => Nat.le_of_eq h.symm)))
  have H5 := Lib.hid h5
  have B5 := Lib.hid (B4.out.stp s5 (by omega))
  clear s5 h5 S4 H4 B4
  go_wp2_with fail
  refine (avshow_ok B5.out H5.out (by omega) (by decide) 2 2 (by decide) (by decide) (by decide) (by decide)).mono ?_
  rintro e w6 ⟨rfl, c6, s6, h6⟩
  have S6 := Lib.hid (S5.out.trans (s6.mono (fun _ h => Nat.le_of_eq h.symm)))
  have H6 := Lib.hid (show ArenaS c6 K w6 w.heap.size cells7 from h6)
  have B6 := Lib.hid (B5.out.stp s6 (by omega))
  clear s6 h6 S5 H5 B5
  go_wp2_with fail
  refine (avhigh_ok B6.out H6.out (by omega) (by decide) 0 3 (by decide) (by decide) (by decide) (by decide)).mono ?_
  rintro e w7 ⟨x, rfl, hx, c7, s7, h7⟩
  obtain rfl : x = 0 := hx.uniq hi7
  have S7 := Lib.hid (S6.out.trans (s7.mono (fun _ h => Nat.le_of_eq h.symm)))
  have H7 := Lib.hid h7
  have B7 := Lib.hid (B6.out.stp s7 (by omega))
  clear s7 h7 S6 H6 B6 hx
  go_wp2_with fail
  refine (avis_ok B7.out H7.out (by omega) (by decide) 2 (by decide) (by decide)).mono ?_
  rintro e w8 ⟨rfl, c8, s8, h8⟩
  rw [show shownAt cells7 0 2 2 = true from rfl]
  have S8 := Lib.hid (S7.out.trans (s8.mono (fun _ h => Nat.le_of_eq h.symm)))
  clear s8 h8
  go_wp2
  go_ret
  exact ⟨rfl, c8, S8.out⟩

structure Sp where
  lo : Int
  hi : Int
def Sp.cells (x : Sp) : List Value := [.int .i64 x.lo, .int .i64 x.hi]
theorem Sp.len (x : Sp) : x.cells.length = 2 := rfl
def Sp.ok (x : Sp) : Prop := (-9223372036854775808 ≤ x.lo ∧ x.lo ≤ 9223372036854775807) ∧ (-9223372036854775808 ≤ x.hi ∧ x.hi ≤ 9223372036854775807)

structure AvInv (w0 : World) (q : Sp) (arena p sh A : Nat) (c : Nat → Nat) (wr : World) (la shown : List Int) (ao : Option Addr) (cap : Nat) : Prop where
  st : Stp (2 ≤ ·) (fun _ => 0) c w0 wr
  ar : ArenaS c 2 wr arena la
  bf : BufAt c 3 wr p sh A
  row : Row c 4 wr 2 1 ao shown.length cap (shown.map (Value.int .i64))
  qb : Blk c 0 wr w0.heap.size q.cells 83
  len : la.length = A + 2 ^ sh
  low : ∀ i, i < A → la[i]? = some (-5)
  pos : ∀ x ∈ shown, 0 ≤ x

theorem AvInv.stp {w0 : World} {q : Sp} {arena p sh A : Nat} {c c' : Nat → Nat} {wr w' : World} {la shown : List Int} {ao : Option Addr} {cap : Nat} (h : AvInv w0 q arena p sh A c wr la shown ao cap) (s : Stp (fun _ => False) c c' wr w') : AvInv w0 q arena p sh A c' w' la shown ao cap :=
  ⟨h.st.trans (s.mono (fun _ h => h.elim)), h.ar.stp s id, h.bf.stp s id, h.row.stp s id, h.qb.stp s id, h.len, h.low, h.pos⟩

theorem AvInv.arena {w0 : World} {q : Sp} {arena p sh A : Nat} {c c' : Nat → Nat} {wr w' : World} {la shown : List Int} {ao : Option Addr} {cap : Nat} (h : AvInv w0 q arena p sh A c wr la shown ao cap) (s : Stp (· = 2) c c' wr w') {la' : List Int} (ha : ArenaS c' 2 w' arena la') (hl : la'.length = la.length) (hw : ∀ i, i < A → la'[i]? = la[i]?) : AvInv w0 q arena p sh A c' w' la' shown ao cap :=
  ⟨h.st.trans (s.up (by decide)), ha, h.bf.stp s (by decide), h.row.stp s (by decide), h.qb.stp s (by decide), by rw [hl, h.len], fun i hi => by rw [hw i hi, h.low i hi], h.pos⟩

theorem AvInv.app {w0 : World} {q : Sp} {arena p sh A : Nat} {c c1 : Nat → Nat} {wr w1 : World} {la shown : List Int} {ao ao' : Option Addr} {cap cap' : Nat} (h : AvInv w0 q arena p sh A c wr la shown ao cap) {o : Obj} {k : Int}
    (st : Stp (· = 4) (paint c wr.heap.size 4) c1 (wr.alloc o) w1) (hr : Row c1 4 w1 2 1 ao' (shown.length + 1) cap' (shown.map (Value.int .i64) ++ [.int .i64 k])) (hk : 0 ≤ k) : AvInv w0 q arena p sh A c1 w1 la (shown ++ [k]) ao' cap' := by
  have s0 : Stp (· = 4) c c1 wr w1 := ((Stp.refl _ c wr).alloc o 4).trans st
  exact ⟨h.st.trans (s0.up (by decide)), h.ar.stp s0 (by decide), h.bf.stp s0 (by decide), by simpa using hr, h.qb.stp s0 (by decide), h.len, h.low, fun x hx => by
    rcases List.mem_append.1 hx with hx | hx
    · exact h.pos x hx
    · simp at hx; omega⟩

def RunRel (w : World) (q : Sp) (arena p sh A xb : Nat) (x : Sp) (la shown : List Int) (n : Nat) (v k : Value) (wr : World) : Prop :=
  ∃ (c : Nat → Nat) (shown' : List Int) (ao : Option Addr) (cap t : Nat), v = .slice ao shown'.length cap ∧ k = .int .i64 (x.lo + t) ∧ t ≤ n ∧ shown' = shown ++ runOf x.lo t ∧ AvInv w q arena p sh A c wr la shown' ao cap ∧ Blk c 0 wr xb x.cells 83

def SeqRel (w : World) (q : Sp) (arena p sh A : Nat) (la shown : List Int) (ao : Option Addr) (cap m : Nat) (i : Value) (wr : World) : Prop :=
  ∃ (c : Nat → Nat) (t : Nat), i = .int .i64 t ∧ t ≤ m ∧ AvInv w q arena p sh A c wr la shown ao cap

def LowRel (w0 : World) (q : Sp) (arena x sh : Nat) (A : Nat) (i : Value) (wr : World) : Prop :=
  ∃ (c' : Nat → Nat) (j : Nat), i = .int .u8 j ∧ j ≤ A ∧ Stp (2 ≤ ·) (fun _ => 0) c' w0 wr ∧ ArenaAt c' 2 wr arena (List.replicate j (-5)) 0 ∧ Blk c' 0 wr w0.heap.size q.cells 83 ∧ Blk c' 0 wr x [.int .i64 sh] 24

def PlaysRel (w : World) (q : Sp) (arena p sh A n : Nat) (v i : Value) (wr : World) : Prop :=
  ∃ (c : Nat → Nat) (la shown : List Int) (ao : Option Addr) (cap j : Nat), v = .slice ao shown.length cap ∧ i = .int .i64 j ∧ j ≤ n ∧ AvInv w q arena p sh A c wr la shown ao cap ∧ ShownAs la shown A sh ∧ shown.length ≤ 32 * j

/-- How an index pair may be refused. -/
theorem refused {sh : Nat} {x : Sp} (h : x.lo < 0 ∨ 4611686018427387904 < x.lo ∨ x.hi < x.lo ∨ 4611686018427387904 < x.hi ∨ 2 ^ sh ≤ x.hi - x.lo) :
    (decide (x.lo < 0) = true ∧ (if x.lo < 0 ∨ 4611686018427387904 < x.lo then (5 : Int) else 1) = 5) ∨
    (decide (x.lo < 0) = false ∧ decide ((4611686018427387904 : Int) < x.lo) = true ∧ (if x.lo < 0 ∨ 4611686018427387904 < x.lo then (5 : Int) else 1) = 5) ∨
    (decide (x.lo < 0) = false ∧ decide ((4611686018427387904 : Int) < x.lo) = false ∧ decide (x.hi < x.lo) = true ∧ (if x.lo < 0 ∨ 4611686018427387904 < x.lo then (5 : Int) else 1) = 1) ∨
    (decide (x.lo < 0) = false ∧ decide ((4611686018427387904 : Int) < x.lo) = false ∧ decide (x.hi < x.lo) = false ∧ decide ((4611686018427387904 : Int) < x.hi) = true ∧ (if x.lo < 0 ∨ 4611686018427387904 < x.lo then (5 : Int) else 1) = 1) ∨
    (decide (x.lo < 0) = false ∧ decide ((4611686018427387904 : Int) < x.lo) = false ∧ decide (x.hi < x.lo) = false ∧ decide ((4611686018427387904 : Int) < x.hi) = false ∧ decide ((2 : Int) ^ sh ≤ x.hi - x.lo) = true ∧ 0 ≤ x.lo ∧ x.lo ≤ x.hi ∧ (if x.lo < 0 ∨ 4611686018427387904 < x.lo then (5 : Int) else 1) = 1) := by
  by_cases h1 : x.lo < 0
  · exact .inl ⟨by simpa using h1, if_pos (.inl h1)⟩
  · by_cases h2 : 4611686018427387904 < x.lo
    · exact .inr (.inl ⟨by simpa using h1, by simpa using h2, if_pos (.inr h2)⟩)
    · have e : (if x.lo < 0 ∨ 4611686018427387904 < x.lo then (5 : Int) else 1) = 1 := if_neg (by omega)
      by_cases h3 : x.hi < x.lo
      · exact .inr (.inr (.inl ⟨by simpa using h1, by simpa using h2, by simpa using h3, e⟩))
      · by_cases h4 : 4611686018427387904 < x.hi
        · exact .inr (.inr (.inr (.inl ⟨by simpa using h1, by simpa using h2, by simpa using h3, by simpa using h4, e⟩)))
        · exact .inr (.inr (.inr (.inr ⟨by simpa using h1, by simpa using h2, by simpa using h3, by simpa using h4, by simp; omega, by omega, by omega, e⟩)))

set_option maxRecDepth 100000 in
set_option maxHeartbeats 4000000 in
theorem avplays_in {w : World} (s ah sh A : Nat) (ao bo : Option Addr) (n cap m bcap : Nat) (l : List Sp) (sq : List Int) (q : Sp) (hs : s % 6 = sh) (hA : ah % 5 = A)
    (hl : In (fun _ => 0) 0 w 2 ao n cap (l.flatMap Sp.cells)) (hlen : l.length = n) (hok : ∀ x ∈ l, x.ok) (hn : n ≤ 30)
    (hq : In (fun _ => 0) 0 w 1 bo m bcap (sq.map (Value.int .i64))) (hm : m ≤ 20) (hqok : q.ok) (ht : Tab w) :
    Calls Tryd.prog 11 #[.int .u8 s, .int .u8 ah, .slice ao n cap, .slice bo m bcap, .agg #[.int .i64 q.lo, .int .i64 q.hi]] w fun e w' => e = .returned (.bool true) ∧ Below w.heap.size w w' := by
  have hsh : sh < 6 := by omega
  have hA5 : A < 5 := by omega
  have hw := wrap_two_pow sh (by omega)
  have hbd := two_pow_bd sh (by omega)
  have b1 := hbd.1
  have b2 : (2 : Int) ^ sh ≤ 32 := by
    have : 2 ^ sh ≤ 2 ^ 5 := Nat.pow_le_pow_right (by decide) (by omega)
    have := two_pow_cast sh
    omega
  have Ht := Lib.hid ht
  have Hg := Lib.hid (World.block_lt_of_cell? w _ (ht 0 (by decide)))
  have hN : wrap64 (2 ^ (s % 6)) = 2 ^ sh := by rw [hs, hw]
  have hAi : (ah : Int) % 5 = (A : Int) := by omega
  have Hl := Lib.hid hl
  have Hq := Lib.hid hq
  have Hok := Lib.hid hok
  have Hqok := Lib.hid hqok
  have Hlen := Lib.hid hlen
  have g1 : decide ((30 : Int) < (n : Int)) = false := by simp; omega
  have g2 : decide ((20 : Int) < (m : Int)) = false := by simp; omega
  clear hs hA ht hw hbd hl hq hok hlen hqok
  go_enter Tryd.func11, Tryd.ntmps11
  go_wp2_with fail
  refine (new_any (paint (fun _ => 0) w.heap.size 0) 2 _).mono ?_
  rintro e w1 ⟨rfl, c1, s1, h1⟩
  have S1 := Lib.hid ((((Stp.refl (2 ≤ ·) (fun _ => 0) w).alloc (.cells #[.int .i64 q.lo, .int .i64 q.hi] 83) 0)).trans (s1.up (by decide)))
  have Q1 := Lib.hid ((Blk.new (fun _ => 0) 0 w q.cells 83).stp s1 (by decide))
  have H1 := Lib.hid h1
  clear s1 h1
  go_wp2_with fail
  try simp only [hN]
  refine (of_pow c1 sh (by omega) _ (Ht.out.stp S1.out (by decide))).mono ?_
  rintro e w2 ⟨rfl, c2, s2⟩
  obtain ⟨c3, hc3, A3⟩ := (s2.alloc (.cells #[.int .i64 sh] 24) 0).name
  have S3 := Lib.hid (S1.out.trans (A3.out.mono (fun _ h => h.elim)))
  have Q3 := Lib.hid (Q1.out.stp A3.out (fun h => h))
  have H3 := Lib.hid (H1.out.stp A3.out (fun h => h))
  have X3 := Lib.hid (show Blk c3 0 (w2.alloc (.cells #[.int .i64 sh] 24)) w2.heap.size [.int .i64 sh] 24 by rw [hc3.out]; exact Blk.new c2 0 w2 [.int .i64 sh] 24)
  clear s2 A3 S1 H1 hc3 Q1
  go_wp2_with fail
  try simp only [hAi]
  go_loopw [51] (fun i wr => LowRel w q (w.heap.size + 1) w2.heap.size sh A i wr) (fun i _ => (A - intOf i).toNat)
  case atStart => exact ⟨c3, 0, rfl, Nat.zero_le _, S3.out, by simpa using H3.out, Q3.out, X3.out⟩
  case round =>
    obtain ⟨c', j, rfl, hj, st, hat, hqb, hxb⟩ := hrel
    have St := Lib.hid st
    have Hat := Lib.hid hat
    have Hqb := Lib.hid hqb
    have Hxb := Lib.hid hxb
    clear st hat hqb hxb S3 H3 Q3 X3
    by_cases hlt : j < A
    · go_wp2_with fail
      refine (alloc_ok Hat.out (-5) (by simp; omega)).mono ?_
      rintro e w3 ⟨rfl, c4, s4, h4⟩
      have S4 := Lib.hid (St.out.trans (s4.up (by decide)))
      have H4 := Lib.hid h4
      have Q4 := Lib.hid (Hqb.out.stp s4 (by decide))
      have X4 := Lib.hid (Hxb.out.stp s4 (by decide))
      clear s4 h4
      go_wp2
      go_roundw
      case rel => exact ⟨c4, j + 1, by go_num, by omega, S4.out, by rw [List.replicate_succ']; exact H4.out, Q4.out, X4.out⟩
      case measure => simp [intOf]; omega
    · have hjn : j = A := by omega
      subst hjn
      have x0 := Hxb.out.cell 0
      simp at x0
      go_wp2_with fail
      refine (avnew_ok Hat.out 3 sh (by decide) (by omega) (by simp; omega)).mono ?_
      rintro e w4 ⟨p, rfl, c4, s4, h4, b4⟩
      have S4 := Lib.hid (St.out.trans (s4.up (by decide)))
      have Q4 := Lib.hid (Hqb.out.stp s4 (by decide))
      have H4 := Lib.hid h4
      have B4 := Lib.hid (show BufAt c4 3 w4 p sh j by simpa using b4)
      clear s4 h4 b4
      have hlen4 : ((List.replicate j (-5 : Int) ++ List.replicate (2 ^ sh) (-1)).length : Int) = (j : Int) + 2 ^ sh := by simp
      go_wp2_with (go_at_call 51; refine (len_any H4.out).mono ?_; rintro e w' ⟨rfl, rfl⟩; rw [hlen4])
      have I4 : AvInv w q (w.heap.size + 1) p sh j c4 w4 (List.replicate j (-5) ++ List.replicate (2 ^ sh) (-1)) [] none 0 :=
        ⟨S4.out, ⟨_, H4.out⟩, B4.out, Row.nil _ _ _ _ _, Q4.out, by simp, fun i hi => by rw [List.getElem?_append_left (by simpa using hi)]; simp [hi], by simp⟩
      have P4 : ShownAs (List.replicate j (-5) ++ List.replicate (2 ^ sh) (-1)) [] j sh := by simpa using ShownAs.start (List.replicate j (-5)) sh (by omega)
      have HI4 := Lib.hid I4
      have HP4 := Lib.hid P4
      clear I4 P4 hlen4 S4 Q4 H4 B4 St Hat Hqb Hxb x0
      try simp only [hAi]
      go_loopw [17, 88] (fun v i wr => PlaysRel w q (w.heap.size + 1) p sh j n v i wr) (fun _ i _ => n - (intOf i).toNat)
      case atStart => exact ⟨c4, _, [], none, 0, 0, rfl, rfl, Nat.zero_le _, HI4.out, HP4.out, by simp⟩
      case round =>
        obtain ⟨c, la, shown, ao2, cap2, i, rfl, rfl, hi, hinv, hsa, hsl⟩ := hrel
        have I := Lib.hid hinv
        have SA := Lib.hid hsa
        clear hinv hsa HI4 HP4
        by_cases hlt : i < n
        · have hil : i < l.length := by rw [Hlen.out]; exact hlt
          obtain ⟨x, hx⟩ : ∃ x, l[i]? = some x := ⟨_, List.getElem?_eq_getElem hil⟩
          have hInr := Hl.out.stp I.out.st (by decide)
          obtain ⟨a, ha, y0⟩ := hInr.field Sp.len hx (f := 0) (v := .int .i64 x.lo) rfl
          obtain ⟨a', ha', y1⟩ := hInr.field Sp.len hx (f := 1) (v := .int .i64 x.hi) rfl
          subst ha
          cases ha'
          have y1' : wr.cell? ⟨(a.add (i * 2)).block, (a.add (i * 2)).off + 1, none⟩ = some (.int .i64 x.hi) := by rw [← add_add'] at y1; exact y1
          rw [Nat.add_zero] at y0
          clear y1
          obtain ⟨⟨x0a, x0b⟩, ⟨x1a, x1b⟩⟩ := Hok.out x (List.mem_of_getElem? hx)
          clear hInr hx
          by_cases hbad : x.lo < 0 ∨ 4611686018427387904 < x.lo ∨ x.hi < x.lo ∨ 4611686018427387904 < x.hi ∨ 2 ^ sh ≤ x.hi - x.lo
          · have Hbad := Lib.hid hbad
            obtain ⟨c5, hc5, A5⟩ := ((Stp.refl (fun _ => False) c wr).alloc (.cells #[.int .i64 x.lo, .int .i64 x.hi] 83) 0).name
            have I5 := Lib.hid (I.out.stp A5.out)
            have X5 := Lib.hid (show Blk c5 0 _ wr.heap.size x.cells 83 by rw [hc5.out]; exact Blk.new c 0 wr x.cells 83)
            clear hc5 A5 hbad
            go_wp2_with fail
            refine (avshow_bad (c := c5) I5.out.bf x.lo x.hi ⟨x0a, x0b⟩ ⟨x1a, x1b⟩ _ rfl Hbad.out).mono ?_
            rintro e w6 ⟨ev, rfl, c6, s6, e6⟩
            have I6 := Lib.hid (I5.out.stp s6)
            have hx6 := X5.out.stp s6 id
            have d0 := hx6.cell 0
            have d1 := hx6.cell 1
            simp [Sp.cells] at d0 d1
            clear hx6 X5 I5 s6
            rcases refused Hbad.out with ⟨t1, he⟩ | ⟨t1, t2, he⟩ | ⟨t1, t2, t3, he⟩ | ⟨t1, t2, t3, t4, he⟩ | ⟨t1, t2, t3, t4, t5, t6, t7, he⟩
            all_goals
              rw [he] at e6
              have E6 := Lib.hid (e6.err (by decide))
              clear he e6
              go_wp2_with (go_at_call 23; refine (lawis E6.out _).mono ?_; rintro e w' ⟨rfl, rfl⟩)
              go_roundw
              case rel => exact ⟨c6, la, shown, ao2, cap2, i + 1, rfl, by go_num, by omega, I6.out, SA.out, by omega⟩
              case measure => simp [intOf]; omega
          · have l0 : 0 ≤ x.lo := by omega
            have l1 : x.lo ≤ x.hi := by omega
            have l2 : x.hi ≤ 4611686018427387904 := by omega
            have l3 : x.hi - x.lo < 2 ^ sh := by omega
            have t1 : decide (x.lo < 0) = false := by simp; omega
            have t2 : decide ((4611686018427387904 : Int) < x.lo) = false := by simp; omega
            have t3 : decide (x.hi < x.lo) = false := by simp; omega
            have t4 : decide ((4611686018427387904 : Int) < x.hi) = false := by simp; omega
            have t5 : decide ((2 : Int) ^ sh ≤ x.hi - x.lo) = false := by simp; omega
            obtain ⟨c5, hc5, A5⟩ := ((Stp.refl (fun _ => False) c wr).alloc (.cells #[.int .i64 x.lo, .int .i64 x.hi] 83) 0).name
            have I5 := Lib.hid (I.out.stp A5.out)
            have X5 := Lib.hid (show Blk c5 0 _ wr.heap.size x.cells 83 by rw [hc5.out]; exact Blk.new c 0 wr x.cells 83)
            clear hc5 A5 hbad
            go_wp2_with fail
            refine (avshow_ok I5.out.bf I5.out.ar (by decide) (by rw [I5.out.len]; exact Nat.le_refl _) x.lo x.hi l0 l1 l2 l3).mono ?_
            rintro e w6 ⟨rfl, c6, s6, a6⟩
            have hLA := I.out.len
            have I6 := Lib.hid (I5.out.arena s6 a6 (showAll_len _ _ _ _ _) (fun i hi => showAll_low hi _))
            have X6 := Lib.hid (X5.out.stp s6 (by decide))
            obtain ⟨N, hN2⟩ : ∃ N : Nat, N = (x.hi - x.lo + 1).toNat := ⟨_, rfl⟩
            rw [← hN2] at I6
            have N1 : (N : Int) = x.hi - x.lo + 1 := by omega
            have HN1 := Lib.hid N1
            have N2 : N ≤ 32 := by omega
            have SA6 := Lib.hid (SA.out.run (by omega) (by rw [hLA]; exact Nat.le_refl _) x.lo l0 N)
            have d0 := X6.out.cell 0
            have d1 := X6.out.cell 1
            simp [Sp.cells] at d0 d1
            clear s6 a6 hLA hN2 N1 I5 X5
            go_wp2
            go_loopw [17, 21] (fun v k wr2 => RunRel w q (w.heap.size + 1) p sh j wr.heap.size x (showAll la j sh x.lo N) shown N v k wr2) (fun _ k _ => (x.hi + 1 - intOf k).toNat)
            case atStart => exact ⟨c6, shown, ao2, cap2, 0, rfl, by simp, Nat.zero_le _, by simp [runOf], I6.out, X6.out⟩
            case round =>
              obtain ⟨c7, shown', ao3, cap3, t, rfl, rfl, ht, hsh', hinv, hxb⟩ := hrel
              have HS := Lib.hid hsh'
              have I7 := Lib.hid hinv
              have X7 := Lib.hid hxb
              have hb7 : (shown'.length : Int) ≤ 1000 := by
                rw [hsh', List.length_append]
                have : (runOf x.lo t).length = t := by simp [runOf]
                omega
              have Hb7 := Lib.hid hb7
              have q0 := hxb.cell 0
              have q1 := hxb.cell 1
              simp [Sp.cells] at q0 q1
              clear hsh' hinv hxb I6 X6 hb7 d0 d1
              by_cases hlt2 : t < N
              · have u1 : x.lo + (t : Int) ≤ x.hi := by have := HN1.out; omega
                have u2 : decide (x.lo + (t : Int) ≤ x.hi) = true := by simpa using u1
                go_wp2_with (at_builtin; refine wpList_append_row _ rfl (.tmp 109) (.tmp 111) 46 rfl _ 4 2 (.int .i64 0) 1 8 Tryd.underlying46 Tryd.info2 rfl ao3 shown'.length cap3 (shown'.map (Value.int .i64)) rfl (I7.out.row.alloc _ 4) _ 1 [.int .i64 (x.lo + t)] rfl (Src.one _ _ _) ?d1 ?d2 ?d3 ?_)
                case d1 => simp [Value.oneCell']
                case d2 => have := Hb7.out; unfold maxLen; omega
                case d3 => have := Hb7.out; omega
                intro ao4 cap4 w8 hr8 st8 ot8
                have I8 := Lib.hid (I7.out.app st8 hr8 (by omega))
                have X8 := Lib.hid ((X7.out.alloc (.cells #[.int .i64 (x.lo + t)] 2) 4).stp st8 (by decide))
                clear hr8 st8 ot8
                go_wp2
                go_roundw
                case rel => exact ⟨_, shown' ++ [x.lo + t], ao4, cap4, t + 1, by simp, by rw [Int.natCast_add, ← Int.add_assoc]; go_num, by omega, by rw [HS.out, runOf_succ, List.append_assoc], I8.out, X8.out⟩
                case measure => simp [intOf]; omega
              · have htN : t = N := by omega
                subst htN
                have u2 : decide (x.lo + (t : Int) ≤ x.hi) = false := by have := HN1.out; simp; omega
                go_wp2
                go_roundw
                case rel => exact ⟨c7, _, shown', ao3, cap3, i + 1, rfl, by go_num, by omega, I7.out, by rw [HS.out]; exact SA6.out, by rw [HS.out, List.length_append, show (runOf x.lo t).length = t by simp [runOf]]; omega⟩
                case measure => simp [intOf]; omega
        · have t0 : decide ((i : Int) < (n : Int)) = false := by simp; omega
          clear hi hsl
          go_wp2
          clear hlt t0
          go_loopw [151] (fun k wr2 => SeqRel w q (w.heap.size + 1) p sh j la shown ao2 cap2 m k wr2) (fun k _ => m - (intOf k).toNat)
          case atStart => exact ⟨c, 0, rfl, Nat.zero_le _, I.out⟩
          case round =>
            obtain ⟨c5, t, rfl, ht, hinv⟩ := hrel
            have I5 := Lib.hid hinv
            clear hinv
            by_cases hlt : t < m
            · obtain ⟨b, hb, y0⟩ := (Hq.out.stp I5.out.st (by decide)).ints hlt
              subst hb
              generalize sq.getD t 0 = k at *
              by_cases hbad : k < 0 ∨ 4611686018427387904 < k
              · have Hbad := Lib.hid hbad
                clear hbad
                go_wp2_with fail
                refine (avis_bad (c := c5) k Hbad.out).mono ?_
                rintro e w6 ⟨ev, rfl, c6, s6, e6⟩
                have I6 := Lib.hid (I5.out.stp s6)
                have E6 := Lib.hid (e6.err (by decide))
                clear s6 e6
                rcases (show decide (k < 0) = true ∨ (decide (k < 0) = false ∧ decide ((4611686018427387904 : Int) < k) = true) by
                  rcases Hbad.out with h | h
                  · exact .inl (by simpa using h)
                  · exact .inr ⟨by simp; omega, by simpa using h⟩) with t1 | ⟨t1, t2⟩
                all_goals
                  go_wp2_with (go_at_call 23; refine (lawis E6.out _).mono ?_; rintro e w' ⟨rfl, rfl⟩)
                  go_roundw
                  case rel => exact ⟨c6, t + 1, by go_num, by omega, I6.out⟩
                  case measure => simp [intOf]; omega
              · have k0 : 0 ≤ k := by omega
                have k1 : k ≤ 4611686018427387904 := by omega
                have t1 : decide (k < 0) = false := by simp; omega
                have t2 : decide ((4611686018427387904 : Int) < k) = false := by simp; omega
                clear hbad
                go_wp2_with fail
                refine (avis_ok I5.out.bf I5.out.ar (by decide) (by rw [I5.out.len]; exact Nat.le_refl _) k k0 k1).mono ?_
                rintro e w6 ⟨rfl, c6, s6, a6⟩
                have I6 := Lib.hid (I5.out.arena s6 a6 rfl (fun _ _ => rfl))
                rw [SA.out k k0]
                clear s6 a6
                go_wp2_with fail
                refine (r07is_any I6.out.row.toIn (2 ^ sh) k I6.out.pos k0 b1).mono ?_
                rintro e w7 ⟨rfl, s7⟩
                have I7 := Lib.hid (I6.out.stp s7)
                clear s7
                generalize refIs shown (2 ^ sh) k = z at *
                go_wp2
                go_roundw
                case rel => exact ⟨c6, t + 1, by go_num, by omega, I7.out⟩
                case measure => simp [intOf]; omega
            · go_wp2
              try simp only [hAi]
              go_loopw [188] (fun k wr2 => SeqRel w q (w.heap.size + 1) p sh j la shown ao2 cap2 j k wr2) (fun k _ => j - (intOf k).toNat)
              case atStart => exact ⟨c5, 0, rfl, Nat.zero_le _, I5.out⟩
              case round =>
                obtain ⟨c6, r, rfl, hr, hinv⟩ := hrel
                have I6 := Lib.hid hinv
                clear hinv I5
                by_cases hlt2 : r < j
                · go_wp2_with fail
                  refine (load_s I6.out.ar r (by rw [I6.out.len]; exact Nat.lt_of_lt_of_le hlt2 (Nat.le_add_right _ _))).mono ?_
                  rintro e w7 ⟨rfl, c7, s7, a7⟩
                  have I7 := Lib.hid (I6.out.arena s7 a7 rfl (fun _ _ => rfl))
                  rw [show la.getD r 0 = -5 by rw [List.getD_eq_getElem?_getD, I6.out.low r hlt2]; rfl]
                  clear s7 a7
                  go_wp2
                  go_roundw
                  case rel => exact ⟨c7, r + 1, by go_num, by omega, I7.out⟩
                  case measure => simp [intOf]; omega
                · have q0 := I6.out.qb.cell 0
                  have q1 := I6.out.qb.cell 1
                  simp [Sp.cells] at q0 q1
                  obtain ⟨⟨v0, v1⟩, ⟨v2, v3⟩⟩ := Hqok.out
                  by_cases hbad : q.lo < 0 ∨ 4611686018427387904 < q.lo ∨ 4611686018427387904 < q.hi
                  · have Hbad := Lib.hid hbad
                    clear hbad
                    go_wp2_with fail
                    refine (avhigh_bad (c := c6) q.lo q.hi _ rfl Hbad.out).mono ?_
                    rintro e w7 ⟨ev, rfl, c7, s7, e7⟩
                    have I7 := Lib.hid (I6.out.stp s7)
                    have p0 := I7.out.qb.cell 0
                    have p1 := I7.out.qb.cell 1
                    simp [Sp.cells] at p0 p1
                    clear s7 q0 q1
                    rcases (show (decide (q.lo < 0) = true ∧ (if q.lo < 0 ∨ 4611686018427387904 < q.lo then (5 : Int) else 1) = 5) ∨ (decide (q.lo < 0) = false ∧ decide ((4611686018427387904 : Int) < q.lo) = true ∧ (if q.lo < 0 ∨ 4611686018427387904 < q.lo then (5 : Int) else 1) = 5) ∨ (decide (q.lo < 0) = false ∧ decide ((4611686018427387904 : Int) < q.lo) = false ∧ decide ((4611686018427387904 : Int) < q.hi) = true ∧ (if q.lo < 0 ∨ 4611686018427387904 < q.lo then (5 : Int) else 1) = 1) by
                      by_cases h1 : q.lo < 0
                      · exact .inl ⟨by simpa using h1, if_pos (.inl h1)⟩
                      · by_cases h2 : 4611686018427387904 < q.lo
                        · exact .inr (.inl ⟨by simpa using h1, by simpa using h2, if_pos (.inr h2)⟩)
                        · exact .inr (.inr ⟨by simpa using h1, by simpa using h2, by have := Hbad.out; simp; omega, if_neg (by omega)⟩)) with ⟨t1, he⟩ | ⟨t1, t2, he⟩ | ⟨t1, t2, t3, he⟩
                    all_goals
                      rw [he] at e7
                      have E7 := Lib.hid e7
                      clear he e7
                      go_wp2_with fail
                      refine (awake7k 5 (by decide) c7 _ (Ht.out.stp I7.out.st (by decide)) (I7.out.st.col _ Hg.out)).mono ?_
                      rintro e w8 ⟨rfl, c8, s8⟩
                      have S8 := Lib.hid (I7.out.st.trans (s8.mono (J' := (2 ≤ ·)) (fun k hk => by omega)))
                      have E8 := Lib.hid ((E7.out.stp s8 (by decide)).err (by decide))
                      clear s8
                      go_wp2_with (go_at_call 23; refine (lawis E8.out _).mono ?_; rintro e w' ⟨rfl, rfl⟩)
                      go_ret
                      exact ⟨by simp, S8.out.fin⟩
                  · have m0 : 0 ≤ q.lo := by omega
                    have m1 : q.lo ≤ 4611686018427387904 := by omega
                    have m2 : q.hi ≤ 4611686018427387904 := by omega
                    have t1 : decide (q.lo < 0) = false := by simp; omega
                    have t2 : decide ((4611686018427387904 : Int) < q.lo) = false := by simp; omega
                    have t3 : decide ((4611686018427387904 : Int) < q.hi) = false := by simp; omega
                    clear hbad
                    go_wp2_with fail
                    refine (avhigh_ok I6.out.bf I6.out.ar (by decide) (by rw [I6.out.len]; exact Nat.le_refl _) q.lo q.hi m0 m1 m2 v2).mono ?_
                    rintro e w7 ⟨y, rfl, hy, c7, s7, a7⟩
                    have I7 := Lib.hid (I6.out.arena s7 a7 rfl (fun _ _ => rfl))
                    have Hy := Lib.hid hy
                    have p0 := I7.out.qb.cell 0
                    have p1 := I7.out.qb.cell 1
                    simp [Sp.cells] at p0 p1
                    clear s7 a7 q0 q1 hy
                    go_wp2_with fail
                    refine (awake7k 5 (by decide) c7 _ (Ht.out.stp I7.out.st (by decide)) (I7.out.st.col _ Hg.out)).mono ?_
                    rintro e w8 ⟨rfl, c8, s8⟩
                    have S8 := Lib.hid (I7.out.st.trans (s8.mono (J' := (2 ≤ ·)) (fun k hk => by omega)))
                    have o0 := (I7.out.qb.stp s8 (by decide)).cell 0
                    have o1 := (I7.out.qb.stp s8 (by decide)).cell 1
                    simp [Sp.cells] at o0 o1
                    have R8 := Lib.hid (I7.out.row.stp s8 (by decide))
                    have Hpos := Lib.hid I7.out.pos
                    clear s8 p0 p1
                    go_wp2_with fail
                    refine (r07high_any R8.out.toIn (2 ^ sh) q.lo q.hi Hpos.out m0 m1 m2 v2 b1).mono ?_
                    rintro e w9 ⟨z, rfl, z1, z2, z3, z4, s9⟩
                    have hz : HiAt la j sh q.lo q.hi z := ⟨z1, z2, fun s a b => by rw [SA.out s (by omega)]; exact z3 s a b, fun h => by rw [SA.out _ (by omega)]; exact z4 h⟩
                    obtain rfl : y = z := Hy.out.uniq hz
                    have S9 := Lib.hid (S8.out.trans (s9.mono (fun _ h => h.elim)))
                    clear hz z1 z2 z3 z4 s9
                    go_wp2
                    go_ret
                    exact ⟨by simp, S9.out.fin⟩

set_option maxRecDepth 100000 in
theorem avplays_out {w : World} (s ah : Nat) (ao bo : Option Addr) (n cap m bcap : Nat) (q : Sp) (h : 30 < n ∨ 20 < m) (ht : Tab w) :
    Calls Tryd.prog 11 #[.int .u8 s, .int .u8 ah, .slice ao n cap, .slice bo m bcap, .agg #[.int .i64 q.lo, .int .i64 q.hi]] w fun e w' => e = .returned (.bool true) ∧ Below w.heap.size w w' := by
  have S1 := Lib.hid (((Stp.refl (2 ≤ ·) (fun _ => 0) w).alloc (.cells #[.int .i64 q.lo, .int .i64 q.hi] 83) 0))
  have Ht1 := Lib.hid (ht.stp S1.out (by decide))
  have Hc := Lib.hid (S1.out.col 2 (World.block_lt_of_cell? w _ (ht 0 (by decide))))
  clear ht
  rcases (show decide ((30 : Int) < (n : Int)) = true ∨ (decide ((30 : Int) < (n : Int)) = false ∧ decide ((20 : Int) < (m : Int)) = true) by
    by_cases h1 : 30 < n
    · exact .inl (by simp; omega)
    · exact .inr ⟨by simp; omega, by simp; omega⟩) with t1 | ⟨t1, t2⟩
  all_goals
    clear h
    go_enter Tryd.func11, Tryd.ntmps11
    go_wp2_with fail
    refine (awake7k 5 (by decide) _ _ Ht1.out Hc.out).mono ?_
    rintro e w2 ⟨rfl, c2, s2⟩
    have S2 := Lib.hid (S1.out.trans (s2.mono (J' := (2 ≤ ·)) (fun k hk => by omega)))
    clear s2
    go_wp2
    go_ret
    exact ⟨rfl, S2.out.fin⟩

theorem dec_sp {H : Type} {enc : TypeId × Value → H} {w : World} {base : Nat} {spare : Nat → Bool} {held : Bool} (n : Nat) (cs : List Value) (y : DataW H × List MemPlace) (h : DataW.trod enc Tryd.prog w base spare held n 83 cs = some y) : ∃ x : Sp, cs = x.cells ∧ x.ok := by
  obtain ⟨hl, n', hf⟩ := dec_fields Tryd.underlying83 (by kernel_rfl) (by kernel_rfl) h
  obtain ⟨v0, z0, c0, t0⟩ := hf 0 _ rfl
  obtain ⟨v1, z1, c1, t1⟩ := hf 1 _ rfl
  obtain ⟨x0, e0, _, w0⟩ := DataW.trod_int Tryd.underlying2 t0
  obtain ⟨x1, e1, _, w1⟩ := DataW.trod_int Tryd.underlying2 t1
  match cs, hl with
  | [a, b], _ =>
    simp at c0 c1 e0 e1
    subst c0 c1 e0 e1
    exact ⟨⟨x0, x1⟩, rfl, bounds_i64 w0, bounds_i64 w1⟩

theorem avplays_walk {w : World} (s ah : Int) (ao bo : Option Addr) (n cap m bcap : Nat) (l : List Sp) (sq : List Int) (q : Sp) (hs : 0 ≤ s ∧ s ≤ 255) (ha : 0 ≤ ah ∧ ah ≤ 255)
    (hl : In (fun _ => 0) 0 w 2 ao n cap (l.flatMap Sp.cells)) (hlen : l.length = n) (hok : ∀ x ∈ l, x.ok)
    (hq : In (fun _ => 0) 0 w 1 bo m bcap (sq.map (Value.int .i64))) (hqok : q.ok) (ht : Tab w) :
    Calls Tryd.prog 11 #[.int .u8 s, .int .u8 ah, .slice ao n cap, .slice bo m bcap, .agg #[.int .i64 q.lo, .int .i64 q.hi]] w fun e w' => e = .returned (.bool true) ∧ Below w.heap.size w w' := by
  obtain ⟨s, rfl⟩ := Int.eq_ofNat_of_zero_le hs.1
  obtain ⟨ah, rfl⟩ := Int.eq_ofNat_of_zero_le ha.1
  by_cases h : 30 < n ∨ 20 < m
  · exact avplays_out s ah ao bo n cap m bcap q h ht
  · exact avplays_in s ah (s % 6) (ah % 5) ao bo n cap m bcap l sq q rfl rfl hl hlen hok (by omega) hq (by omega) hqok ht
end Go.Proofs.YteicmmgpkhmlbaaDoor
