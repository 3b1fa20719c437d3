/- The walk of MultiLikeSingle. No condition but that the table of math/bits holds what the program lays there. -/
import Derived.Test.YtoifknfmamcimaaDoorMul14
import Derived.Test.YtoifknfmamcimaaDoorOrds2
namespace Go.Proofs.YtoifknfmamcimaaDoor
open Go.RowKit

theorem like_mod {l : List Int} (h : ∀ t ∈ l, 0 ≤ t ∧ t ≤ 255) {j : Nat} (hj : j < l.length) : ∃ kk : Nat, kk ≤ 3 ∧ (l.getD j 0).tmod 4 = (kk : Int) := by
  have h1 := (h (l.getD j 0) (by simp [List.getD, hj])).1
  obtain ⟨u, hu⟩ := Int.eq_ofNat_of_zero_le h1
  have e : (l.getD j 0).tmod 4 = ((u % 4 : Nat) : Int) := by
    rw [hu, show (4 : Int) = ((4 : Nat) : Int) from rfl, ← Int.ofNat_tmod]
  exact ⟨u % 4, by omega, e⟩

/-- What is claimed, by two. -/
structure LI (sh id : Nat) (la : List Int) (j : Nat) (nx : Int) : Prop where
  ok : LOK sh la [(id : Int)]
  pos : 2 ≤ id
  cu : la.getD 0 0 = nx - 1
  lo : 0 ≤ nx
  hi : nx ≤ 4 * (j : Int)
  jm : j ≤ 60

theorem LI.start {sh id : Nat} {la : List Int} (ok : LOK sh la []) (hid : id = la.length) (h0 : la.getD 0 0 = -1) : LI sh id (la ++ [-1]) 0 0 := by
  have := ok.max
  subst hid
  refine ⟨ok.add _ (by simp), by omega, ?_, by simp, by simp, by simp⟩
  rw [show (0 : Int) - 1 = -1 from rfl, ← h0, List.getD, List.getElem?_append_left (show 0 < la.length by omega)]
  rfl

section
variable {sh id : Nat} {la : List Int} {j : Nat} {nx : Int} {kk : Nat}
theorem LI.next (h : LI sh id la j nx) (hk : kk ≤ 3) : nextErr (la.getD 0 0) ((kk : Int) + 1) = 0 := by
  have h1 := h.cu
  have h2 := h.lo
  have h3 := h.hi
  have h4 := h.jm
  unfold nextErr
  rw [h1, if_neg (by omega), if_neg (by omega), if_neg (by omega)]
theorem LI.cell (h : LI sh id la j nx) (v : Int) : LI sh id (la.set id v) j nx :=
  ⟨h.ok.len (by simp), h.pos, by rw [← h.cu]; have := h.pos; simp [List.getD, List.getElem?_set_ne (show id ≠ 0 by omega)], h.lo, h.hi, h.jm⟩
theorem LI.lt (h : LI sh id la j nx) : id < la.length := by have := h.ok.is id (List.mem_singleton.2 rfl); omega
theorem LI.up (h : LI sh id la j nx) (hj : j < 60) : LI sh id la (j + 1) nx :=
  ⟨h.ok, h.pos, h.cu, h.lo, by have := h.hi; omega, by omega⟩
theorem LI.on (h : LI sh id la j nx) (hj : j < 60) (hk : kk ≤ 3) (h0 : (claimR ⟨sh, 0, 1, 2, [(id : Int)]⟩ la ((kk : Int) + 1)).2.2 = 0) :
    LI sh id (claimR ⟨sh, 0, 1, 2, [(id : Int)]⟩ la ((kk : Int) + 1)).1 (j + 1) (nx + ((kk : Int) + 1)) ∧ (claimR ⟨sh, 0, 1, 2, [(id : Int)]⟩ la ((kk : Int) + 1)).2.1 = nx + ((kk : Int) + 1) - 1 := by
  obtain ⟨e1, e2, -, -, -⟩ := claimR_ok h.ok.sq.cu h0
  simp only at e1 e2
  have h1 := h.cu
  have h2 := h.lo
  have h3 := h.hi
  exact ⟨⟨h.ok.len (claimR_len _ _ _), h.pos, by rw [e2, h1]; omega, by omega, by omega, by omega⟩, by rw [e1, h1]; omega⟩
theorem LI.w (h : LI sh id la j nx) (hj : j < 60) (hk : kk ≤ 3) : wrap64 (nx + ((kk : Int) + 1)) = nx + ((kk : Int) + 1) ∧ wrap64 (nx + ((kk : Int) + 1) - 1) = nx + ((kk : Int) + 1) - 1 ∧ wrap64 (nx - 1) = nx - 1 := by
  have h2 := h.lo
  have h3 := h.hi
  exact ⟨IntWalk.wrap64_in _ (by constructor <;> omega), IntWalk.wrap64_in _ (by constructor <;> omega), IntWalk.wrap64_in _ (by constructor <;> omega)⟩
theorem LI.w1 (h : LI sh id la j nx) : wrap64 (nx - 1) = nx - 1 := by
  have h2 := h.lo
  have h3 := h.hi
  have h4 := h.jm
  exact IntWalk.wrap64_in _ (by constructor <;> omega)
end

def LRel (w0 : World) (p q bp gp sh id : Nat) (m : Nat) (nx i : Value) (wr : World) : Prop :=
  ∃ (c : Nat → Nat) (j : Nat) (la : List Int) (x : Int), nx = .int .i64 x ∧ i = .int .i64 j ∧ Hid (j ≤ m) ∧ Hid (LI sh id la j x) ∧ Hid (LAt w0 p q bp gp sh la [(id : Int)] c wr)

theorem flat_bools (l : List Bool) : l.flatMap (fun b => [Value.bool b]) = l.map Value.bool := by
  induction l with
  | nil => rfl
  | cons x l ih => rw [List.flatMap_cons, ih]; rfl

theorem In.bools {c : Nat → Nat} {k : Nat} {w : World} {ao : Option Addr} {n cap : Nat} {l : List Bool} (h : In c k w 1 ao n cap (l.map Value.bool)) {j : Nat} (hj : j < n) : ∃ a, ao = some a ∧ w.cell? (a.add j) = some (.bool (l.getD j false)) := by
  obtain ⟨a, rfl, v, hv, hc⟩ := h.at1 hj
  have hl : j < l.length := by have := h.1; simp at this; omega
  refine ⟨a, rfl, ?_⟩
  rw [hc, ← hv]
  simp [List.getD, hl]

set_option maxRecDepth 100000 in
set_option maxHeartbeats 4000000 in
theorem like_in (s sh : Nat) (so : Option Addr) (m scap : Nat) (sizes : List Int) (wo : Option Addr) (n wcap : Nat) (who : List Bool) (w : World) (hsh : s % 6 + 1 = sh) (hm : m ≤ 60)
    (hs : In (fun _ => 0) 0 w 1 so m scap (sizes.map (Value.int .u8))) (hso : ∀ t ∈ sizes, 0 ≤ t ∧ t ≤ 255) (hw : In (fun _ => 0) 0 w 1 wo n wcap (who.map Value.bool)) (ht : Tab w) :
    Calls Tryd.prog 9 #[.int .u8 s, .slice so m scap, .slice wo n wcap] w fun e w' => e = .returned (.bool true) ∧ Below w.heap.size w w' := by
  have Hs := Lib.hid hs
  have Hso := Lib.hid hso
  have Hw := Lib.hid hw
  have Ht := Lib.hid ht
  have Hsm := Lib.hid (show sizes.length = m by simpa using hs.1)
  have Hn := Lib.hid (show n ≤ 9223372036854775807 by have h1 := hw.2.1; have h2 := hw.2.2.1; simp only [maxLen] at h2; omega)
  have Hm := Lib.hid hm
  have Hsh := Lib.hid (show sh < 7 by omega)
  have t1 : decide ((60 : Int) < (m : Int)) = false := by simp; omega
  have hw2 := wrap_two_pow sh (by omega)
  have hN : wrap64 (2 ^ (s % 6 + 1)) = 2 ^ sh := by rw [hsh, hw2]
  have Hp := Lib.hid (pow7 Hsh.out)
  have HSH := Lib.hid hsh
  clear hs hso hw ht hm hw2 hsh
  obtain ⟨q, hq⟩ : ∃ q, q = w.heap.size := ⟨_, rfl⟩
  go_enter Tryd.func9, Tryd.ntmps9
  go_wp2_with fail
  refine (new_any (fun _ => 0) 2 _).mono ?_
  rintro e w1 ⟨rfl, c1, s1, h1⟩
  have S1 := Lib.hid (s1.up (by decide))
  have A1 := Lib.hid (show ArenaAt c1 2 w1 q [] 0 by rw [hq]; exact h1)
  have T1 := Lib.hid (Ht.out.stp s1 (by decide))
  rw [← hq]
  clear hq s1 h1
  go_wp2_with fail
  try simp only [hN]
  clear hN
  refine (mnew_ok A1.out sh (by have := Hsh.out; omega) (by have := two_pow_bd sh (by have := Hsh.out; omega); simp; omega) T1.out (m := 2 ^ sh) rfl).mono ?_
  rintro e w2 ⟨p, bp, gp, rfl, c2, s2, h2, q2⟩
  obtain ⟨la, hla⟩ : ∃ la : List Int, la = -1 :: -1 :: List.replicate (2 ^ sh) (-1) := ⟨_, rfl⟩
  have R2 := Lib.hid (show LAt w p q bp gp sh la [] c2 w2 from by rw [hla]; exact ⟨S1.out.trans (s2.up (by decide)), ⟨_, h2⟩, q2⟩)
  have O2 := Lib.hid (show LOK sh la [] from ⟨Hsh.out, by rw [hla]; simp; omega, (fun x hx => by cases hx), by simp⟩)
  have Z2 := Lib.hid (show la.getD 0 0 = -1 by rw [hla]; rfl)
  clear s2 h2 q2 S1 A1 T1 hla
  go_wp2_with fail
  refine (R2.out.alloc O2.out (-1)).mono ?_
  rintro e w3 ⟨rfl, c3, s3, r3⟩
  obtain ⟨id, hid⟩ : ∃ id, id = la.length := ⟨_, rfl⟩
  have I3 := Lib.hid (LI.start O2.out hid Z2.out)
  have Hid1 := Lib.hid (show id ≤ 86 by rw [hid]; exact O2.out.max.1)
  rw [← hid]
  have R3 := Lib.hid r3
  clear s3 r3 R2 hid
  go_wp2_with fail
  refine R3.out.gate.mono ?_
  rintro e wx ⟨rfl, rfl⟩
  go_wp2_with fail
  refine (R3.out.add id Hid1.out (by simp) (by simp)).mono ?_
  rintro e w4 ⟨rfl, c4, s4, r4⟩
  have R4 := Lib.hid (show LAt w p q bp gp sh (la ++ [-1]) [(id : Int)] c4 w4 from r4)
  clear s4 r4 R3
  go_wp2_with fail
  go_loopw [13, 58] (fun nx i wr => LRel w p q bp gp sh id m nx i wr) (fun _ i _ => m - (intOf i).toNat)
  case atStart => exact ⟨c4, 0, la ++ [-1], 0, rfl, rfl, Lib.hid (Nat.zero_le _), I3, R4⟩
  case round =>
    obtain ⟨c5, j, lb, nx, rfl, rfl, Hj, I, R⟩ := hrel
    clear R4 I3 O2 Z2
    by_cases hlt : j < m
    · have hls : j < sizes.length := by rw [Hsm.out]; exact hlt
      obtain ⟨a, ha, hc⟩ := (Hs.out.stp R.out.st (by decide)).ints (show j < m from hlt)
      subst ha
      obtain ⟨kk, hkk, E⟩ := like_mod Hso.out hls
      have Hkk := Lib.hid hkk
      have Hlt := Lib.hid hlt
      generalize sizes.getD j 0 = v at *
      have J60 := Lib.hid (show j < 60 by have := Hm.out; omega)
      clear hkk hls hlt
      have W1 := or_w1 (kk := kk) (by have := Hkk.out; omega)
      have W2 := or_w2 (kk := kk) (by have := Hkk.out; omega)
      have W8 := or_w (j := j) (by have := J60.out; omega)
      go_wp2_with fail
      refine (R.out.claim I.out.ok ((kk : Int) + 1)).mono ?_
      rintro e w6 ⟨ev, rfl, c6, t6, r6, hev⟩
      have R6 := Lib.hid r6
      rcases hev with ⟨h0, rfl⟩ | ⟨h0, ⟨tt, vv, rfl⟩, hev⟩
      · obtain ⟨i6, e6⟩ := I.out.on J60.out Hkk.out h0
        rw [e6]
        have I6 := Lib.hid i6
        generalize (claimR ⟨sh, 0, 1, 2, [(id : Int)]⟩ lb ((kk : Int) + 1)).1 = lc at *
        have V1 := (I.out.w J60.out Hkk.out).1
        have V2 := (I.out.w J60.out Hkk.out).2.1
        clear r6 h0 i6 e6 t6
        obtain ⟨x, hx⟩ : ∃ x, x = nx + ((kk : Int) + 1) := ⟨_, rfl⟩
        have V3 : wrap64 x = x := by rw [hx]; exact V1
        rw [← hx] at I6 V2 ⊢
        have V4 : wrap64 (nx + ((kk : Int) + 1)) = x := by rw [V1, hx]
        clear hx hc V1
        by_cases hwn : j < n
        · obtain ⟨b, hb, hc⟩ := (Hw.out.stp R6.out.st (by decide)).bools hwn
          subst hb
          generalize who.getD j false = bo at *
          cases bo with
          | false =>
            go_wp2
            go_roundw
            case rel => exact ⟨c6, j + 1, lc, x, by rw [V3], by go_num, Lib.hid Hlt.out, I6, R6⟩
            case measure => exact or_meas m j Hlt.out (Nat.le_trans (Nat.le_of_lt J60.out) (by decide))
          | true =>
            go_wp2_with fail
            refine (R6.out.store id (x - 1) I6.out.lt).mono ?_
            rintro e w7 ⟨rfl, c7, t7, r7⟩
            have R7 := Lib.hid r7
            clear t7 r7
            go_wp2
            go_roundw
            case rel => exact ⟨c7, j + 1, lc.set id (x - 1), x, by first | rfl | rw [V3], by go_num, Lib.hid Hlt.out, Lib.hid (I6.out.cell _), R7⟩
            case measure => exact or_meas m j Hlt.out (Nat.le_trans (Nat.le_of_lt J60.out) (by decide))
        · go_wp2
          go_roundw
          case rel => exact ⟨c6, j + 1, lc, x, by rw [V3], by go_num, Lib.hid Hlt.out, I6, R6⟩
          case measure => exact or_meas m j Hlt.out (Nat.le_trans (Nat.le_of_lt J60.out) (by decide))
      · obtain ⟨e1, e2⟩ := claimR_bad h0
        rw [e2]
        have R6' := Lib.hid (show LAt w p q bp gp sh lb [(id : Int)] c6 w6 by rw [← e1]; exact r6)
        have hwh := claimR_which (S := ⟨sh, 0, 1, 2, [(id : Int)]⟩) (la := lb) (n := (kk : Int) + 1) (by omega) (fun _ => I.out.next Hkk.out)
        simp only at hwh
        have hd : (decide ((2 : Int) ^ sh < (kk : Int) + 1) = true ∧ decide ((kk : Int) + 1 ≤ (2 : Int) ^ sh) = false ∧ (claimR ⟨sh, 0, 1, 2, [(id : Int)]⟩ lb ((kk : Int) + 1)).2.2 = 1) ∨ (decide ((2 : Int) ^ sh < (kk : Int) + 1) = false ∧ decide ((kk : Int) + 1 ≤ (2 : Int) ^ sh) = true ∧ (claimR ⟨sh, 0, 1, 2, [(id : Int)]⟩ lb ((kk : Int) + 1)).2.2 = 10) := by
          rcases hwh with ⟨g1, g2⟩ | ⟨g1, g2⟩
          · exact .inl ⟨by simpa using g1, by simp; omega, g2⟩
          · exact .inr ⟨by simp; omega, by simpa using g1, by rcases g2 with g2 | g2; exact absurd g2 h0; exact g2⟩
        clear R6 hwh e1 e2 r6 t6 hc h0
        rcases hd with ⟨d1, d2, he⟩ | ⟨d1, d2, he⟩
        all_goals
          rw [he] at hev
          have HE := Lib.hid hev
          clear hev he
          go_wp2_with fail
          refine (is_errat HE.out (by decide) _).mono ?_
          rintro e wx ⟨rfl, rfl⟩
          go_wp2_with fail
          refine (R6'.out.claimed I.out.ok).mono ?_
          rintro e w7 ⟨rfl, c7, t7, r7⟩
          have R7 := Lib.hid r7
          clear t7 r7
          go_wp2_with fail
          refine (R7.out.store id (lb.getD 0 0) I.out.lt).mono ?_
          rintro e w8 ⟨rfl, c8, t8, r8⟩
          have R8 := Lib.hid r8
          clear t8 r8
          go_wp2
          go_roundw
          case rel => exact ⟨c8, j + 1, lb.set id (lb.getD 0 0), nx, rfl, by go_num, Lib.hid Hlt.out, Lib.hid ((I.out.cell _).up J60.out), R8⟩
          case measure => exact or_meas m j Hlt.out (Nat.le_trans (Nat.le_of_lt J60.out) (by decide))
    · have hjn : j = m := by have := Hj.out; omega
      subst hjn
      have HT := Lib.hid (R.out.tab Ht.out)
      clear hlt
      go_wp2_with fail
      refine (awake10k 10 (by decide) c5 _ HT.out.1 HT.out.2).mono ?_
      rintro e w9 ⟨rfl, c9, s9⟩
      have R9 := Lib.hid (R.out.stp9 (Stp.mono s9 (fun k h => by omega)))
      clear s9
      go_wp2_with fail
      refine (R9.out.claimed I.out.ok).mono ?_
      rintro e w7 ⟨rfl, c7, t7, r7⟩
      rw [I.out.cu]
      have R7 := Lib.hid r7
      have V3 := I.out.w1
      clear t7 r7
      go_wp2
      go_ret
      exact ⟨by first | rfl | simp, R7.out.st.fin⟩

set_option maxRecDepth 100000 in
theorem like_walk (s : Int) (so : Option Addr) (m scap : Nat) (sizes : List Int) (wo : Option Addr) (n wcap : Nat) (who : List Bool) (w : World) (hs8 : 0 ≤ s ∧ s ≤ 255)
    (hs : In (fun _ => 0) 0 w 1 so m scap (sizes.map (Value.int .u8))) (hso : ∀ t ∈ sizes, 0 ≤ t ∧ t ≤ 255) (hw : In (fun _ => 0) 0 w 1 wo n wcap (who.map Value.bool)) (ht : Tab w) :
    Calls Tryd.prog 9 #[.int .u8 s, .slice so m scap, .slice wo n wcap] w fun e w' => e = .returned (.bool true) ∧ Below w.heap.size w w' := by
  obtain ⟨s, rfl⟩ := Int.eq_ofNat_of_zero_le hs8.1
  by_cases h : m ≤ 60
  · exact like_in s (s % 6 + 1) so m scap sizes wo n wcap who w rfl h hs hso hw ht
  · have t1 : decide ((60 : Int) < (m : Int)) = true := by simp; omega
    have HT := Lib.hid (show Tab w ∧ (fun _ : Nat => 0) 1 = 0 from ⟨ht, rfl⟩)
    clear hs hso hw ht h hs8
    go_enter Tryd.func9, Tryd.ntmps9
    go_wp2_with fail
    refine (awake10k 10 (by decide) (fun _ => 0) _ HT.out.1 rfl).mono ?_
    rintro e w9 ⟨rfl, c9, s9⟩
    have S9 := Lib.hid (Stp.mono s9 (J' := (2 ≤ ·)) (fun k h => by omega))
    clear s9
    go_wp2
    go_ret
    exact ⟨rfl, S9.out.fin⟩
end Go.Proofs.YtoifknfmamcimaaDoor
