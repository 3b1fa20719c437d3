/- The walk of the law FaultKinds. No condition but that errors.errorType holds what the program lays there. -/
import Derived.Test.YtpknhaemfpmpkaaDoorFlt7
import Derived.Test.YtpknhaemfpmpkaaDoorNests
namespace Go.Proofs.YtpknhaemfpmpkaaDoor
open Go.RowKit Go.Extern.Stop Go.Stop Go.Extern Go.Deep

theorem Tryd.infoErrno : (Tryd.prog.info? 37).map (fun i => (i.zero, i.size, i.bytes)) = some (some (.int .i64 0), 1, 8) := by kernel_rfl

theorem wrapnil_c (w : World) : Calls Tryd.prog 9 #[.string ⟨#[120]⟩, .int .i64 1, .nilIface] w fun e w' => e = .returned .nilIface ∧ w' = w := by
  go_enter Tryd.func9, Tryd.ntmps9
  go_wp2
  go_ret
  exact ⟨rfl, rfl⟩

theorem unwrapnil_c (w : World) : Calls Tryd.prog 12 #[.pointer none] w fun e w' => e = .returned .nilIface ∧ w' = w := by
  go_enter Tryd.func12, Tryd.ntmps12
  go_wp2
  go_ret
  exact ⟨rfl, rfl⟩

theorem errnil_c (w : World) : Calls Tryd.prog 16 #[.pointer none] w fun e w' => e = .returned (.string ⟨#[110, 105, 108]⟩) ∧ w' = w := by
  go_enter Tryd.func16, Tryd.ntmps16
  go_wp2
  go_ret
  exact ⟨rfl, rfl⟩

def anyR (l : List Int) (q : Int) : Bool := l.any fun m => m == q
theorem any_eq (l : List Int) (q : Int) : anyNum l q = anyR l q := by
  unfold anyNum anyR
  congr 1
  funext m
  by_cases h : q = m
  · subst h; rfl
  · have h1 : (q == m) = false := by simpa using h
    have h2 : (m == q) = false := by simpa using fun e => h e.symm
    rw [h1, h2]

def rems (l : List Int) : List Int := l.map (· % 20)

set_option maxRecDepth 100000 in
set_option maxHeartbeats 4000000 in
theorem kinds_walk (ao : Option Addr) (n cap : Nat) (l : List (ByteArray × Int)) (k : Int) (bo : Option Addr) (m bcap : Nat) (nums : List Int) (hk : 0 ≤ k ∧ k ≤ 255) {W : World} (h : In (fun _ => 0) 0 W 2 ao n cap (l.flatMap lk)) (hln : l.length = n)
    (h2 : In (fun _ => 0) 0 W 1 bo m bcap (nums.map (Value.int .u8))) (hr : ∀ x ∈ nums, 0 ≤ x ∧ x ≤ 255) (hg : ET W) :
    Calls Tryd.prog 5 #[.slice ao n cap, .int .u8 k, .slice bo m bcap] W fun e W' => e = .returned (.bool true) ∧ Below W.heap.size W W' := by
  have H := Lib.hid h
  have Hn := Lib.hid hln
  have Hg := Lib.hid hg
  have Hk := Lib.hid hk
  have H2 := Lib.hid h2
  have Hr := Lib.hid hr
  have Hm := Lib.hid (show nums.length = m by simpa using h2.1)
  clear h hln hg hk h2 hr
  go_enter Tryd.func5, Tryd.ntmps5
  go_wp2_with fail
  refine (small_c H.out Hn.out).mono ?_
  rintro e w1 ⟨b, rfl, hb, o1⟩
  have Hb := Lib.hid hb
  have O1 := Lib.hid o1
  clear hb o1
  cases b with
  | false =>
    go_wp2_with fail
    refine (awake01 _ (Hg.out.old O1.out)).mono ?_
    rintro e w2 ⟨rfl, o2⟩
    have O2 := Lib.hid (O1.out.trans o2)
    clear o2
    go_wp2
    go_ret
    exact ⟨rfl, O2.out⟩
  | true =>
    by_cases hz : m ≤ 30
    · have g1 : decide ((30 : Int) < m) = false := by simp; omega
      have hn50 := Lib.hid (Hb.out rfl).1
      have m1 : k.tmod 18 = k % 18 := Int.tmod_eq_emod_of_nonneg Hk.out.1
      have m2 : IntKind.u8.wrap (k % 18) = k % 18 := by have := Hk.out; simp [IntKind.wrap, IntKind.bits, IntKind.signed]; omega
      go_wp2_with fail
      refine (chain_c (H.out.old O1.out) Hn.out hn50.out _).mono ?_
      rintro e w2 ⟨v, rfl, hv, o2⟩
      have O2 := Lib.hid (O1.out.trans o2)
      have V2 := Lib.hid hv
      obtain ⟨vt, vu, e⟩ := hv.iface
      subst e
      have hq := Lib.hid (show 1 ≤ k % 18 + 1 by have := Hk.out; omega)
      generalize k % 18 + 1 = q at *
      clear hv o2
      have HI := Lib.hid (H2.out.old O2.out)
      go_wp2
      go_loopg [9, 10, 33] m (fun gh inb ls i wr => ∃ (c' : Nat → Nat) (j : Nat) (so : Option Addr) (scap : Nat), inb = .bool (anyR (rems (nums.take j)) q) ∧ ls = .slice so j scap ∧ i = .int .i64 j ∧ j + gh = m ∧ Hid (Row c' 2 wr 37 1 so j scap ((rems (nums.take j)).map (Value.int .i64))) ∧ Hid (Stp (· = 2) (fun _ => 1) c' w2 wr))
      case atStart => exact ⟨fun _ => 1, 0, none, 0, rfl, rfl, rfl, by omega, Lib.hid (Row.nil _ _ _ _ _), Lib.hid (Stp.refl _ _ _)⟩
      case round =>
        obtain ⟨c', j, so, scap, rfl, rfl, rfl, hj, HR, HS⟩ := hrel
        have OW := Lib.hid (show Old w2 wr from HS.out.below (Nat.le_refl _) (fun _ _ => by decide))
        by_cases hlt : j < m
        · have hjl : j < nums.length := by rw [Hm.out]; exact hlt
          obtain ⟨a, ha, y0⟩ := (HI.out.old OW.out).ints (j := j) hlt
          subst ha
          have hy := Hr.out (nums.getD j 0) (by simp [List.getD, hjl])
          have Ht := Lib.hid (show nums.take (j + 1) = nums.take j ++ [nums.getD j 0] by rw [List.take_succ_eq_append_getElem hjl]; simp [List.getD, hjl])
          generalize nums.getD j 0 = y at *
          have n1 : y.tmod 20 = y % 20 := Int.tmod_eq_emod_of_nonneg hy.1
          have n2 : IntKind.u8.wrap (y % 20) = y % 20 := by simp [IntKind.wrap, IntKind.bits, IntKind.signed]; omega
          have Hl2 := Lib.hid (show (rems (nums.take j)).length = j by simp [rems]; omega)
          have HB := Lib.hid (show rems (nums.take (j + 1)) = rems (nums.take j) ++ [y % 20] by rw [Ht.out]; simp [rems])
          have D2 := Lib.hid (show j + 1 ≤ maxLen by simp only [maxLen]; omega)
          have D3 := Lib.hid (show (j + 1) * 8 ≤ 140737488355328 by omega)
          have g2 : (j : Int) < m := by omega
          obtain ⟨L, hL⟩ : ∃ L, L = rems (nums.take j) := ⟨_, rfl⟩
          rw [← hL] at HR Hl2 HB ⊢
          clear hL hy
          cases hin : anyR L q with
          | true =>
            have Hin := Lib.hid hin
            clear hin
            go_wp2_with (at_builtin; refine wpList_append_row _ rfl (.tmp 37) (.tmp 41) 48 rfl (paint c' wr.heap.size 2) 2 37 (.int .i64 0) 1 8 Tryd.underlying48 Tryd.infoErrno rfl so j scap (L.map (Value.int .i64)) rfl (HR.out.alloc _ 2) _ 1 [.int .i64 (y % 20)] rfl (Src.one _ _ _) (by simp [Value.oneCell']) D2.out D3.out ?_)
            rintro so2 scap2 w3 r3 s3 -
            have R3 := Lib.hid r3
            have S3 := Lib.hid (HS.out.trans ((((Stp.refl _ _ _).alloc _ 2).trans s3)))
            clear r3 s3
            go_wp2
            go_roundg (gk - 1)
            case rel => exact ⟨_, j + 1, so2, scap2, by rw [HB.out]; unfold anyR at *; rw [List.any_append, Hin.out]; rfl, rfl, by go_num, by omega, Lib.hid (by rw [HB.out, List.map_append]; exact R3.out), S3⟩
            case measure => omega
          | false =>
            have Hin := Lib.hid hin
            clear hin
            go_wp2_with (at_builtin; refine wpList_append_row _ rfl (.tmp 37) (.tmp 41) 48 rfl (paint c' wr.heap.size 2) 2 37 (.int .i64 0) 1 8 Tryd.underlying48 Tryd.infoErrno rfl so j scap (L.map (Value.int .i64)) rfl (HR.out.alloc _ 2) _ 1 [.int .i64 (y % 20)] rfl (Src.one _ _ _) (by simp [Value.oneCell']) D2.out D3.out ?_)
            rintro so2 scap2 w3 r3 s3 -
            have R3 := Lib.hid r3
            have S3 := Lib.hid (HS.out.trans ((((Stp.refl _ _ _).alloc _ 2).trans s3)))
            clear r3 s3
            go_wp2
            go_roundg (gk - 1)
            case rel => exact ⟨_, j + 1, so2, scap2, by rw [HB.out]; unfold anyR at *; rw [List.any_append, Hin.out]; simp, rfl, by go_num, by omega, Lib.hid (by rw [HB.out, List.map_append]; exact R3.out), S3⟩
            case measure => omega
        · obtain rfl : j = m := by omega
          have IL := Lib.hid (show In c' 2 wr 1 so j scap ((rems nums).map (Value.int .i64)) by have := HR.out.toIn; rwa [List.take_of_length_le (by rw [Hm.out]; exact Nat.le_refl _)] at this)
          have HA := Lib.hid (show anyNum (rems nums) q = anyR (rems (nums.take j)) q by rw [List.take_of_length_le (by rw [Hm.out]; exact Nat.le_refl _)]; exact any_eq _ _)
          have OL := OW
          have hx : (q = 10 ∨ q = 11 ∨ q = 12 ∨ q = 14) ∨ ((q == 0) = false ∧ (q == 10) = false ∧ (q == 11) = false ∧ (q == 12) = false ∧ (q == 14) = false) := by
            have := hq.out
            simp only [beq_eq_false_iff_ne]; omega
          clear HR HS OW
          clear hlt
          have g3 : ¬ (j : Int) < j := by omega
          generalize anyR (rems (nums.take j)) q = rb at *
          rcases hx with (hx | hx | hx | hx) | ⟨x0, x1, x2, x3, x4⟩
          · subst hx
            have hgv : grv 10 = false := by decide
            go_wp2_with fail
            refine (awake01 _ ((Hg.out.old O2.out).old OL.out)).mono ?_
            rintro e w4 ⟨rfl, o4⟩
            have O4 := Lib.hid (OL.out.trans o4)
            have I4 := Lib.hid (IL.out.old o4)
            clear o4
            go_wp2_with fail
            refine (fis_chain l _ (.iface vt vu) _ (V2.out.old O4.out) I4.out).mono ?_
            rintro e w5 ⟨rfl, rfl⟩
            rw [HA.out]
            go_wp2_with fail
            refine (grave_c l _ (.iface vt vu) _ (V2.out.old O4.out) ((Hg.out.old O2.out).old O4.out)).mono ?_
            rintro e w6 ⟨rfl, o6⟩
            rw [hgv]
            have O6 := Lib.hid (O4.out.trans o6)
            have I6 := Lib.hid (I4.out.old o6)
            clear o6
            go_wp2_with fail
            refine (fis_nil _ I6.out).mono ?_
            rintro e w7 ⟨rfl, rfl⟩
            go_wp2_with fail
            refine (grave_nil _).mono ?_
            rintro e w8 ⟨rfl, o8⟩
            have O8 := Lib.hid (O6.out.trans o8)
            clear o8
            go_wp2_with fail
            refine (wrapnil_c _).mono ?_
            rintro e w9 ⟨rfl, rfl⟩
            go_wp2_with fail
            refine (code_nil _).mono ?_
            rintro e w10 ⟨rfl, o10⟩
            have O10 := Lib.hid (O8.out.trans o10)
            clear o10
            go_wp2_with fail
            refine (deep_nil _).mono ?_
            rintro e w11 ⟨rfl, o11⟩
            have O11 := Lib.hid (O10.out.trans o11)
            clear o11
            go_wp2_with fail
            refine (unwrapnil_c _).mono ?_
            rintro e w12 ⟨rfl, rfl⟩
            go_wp2_with fail
            refine (errnil_c _).mono ?_
            rintro e w13 ⟨rfl, rfl⟩
            go_wp2
            go_ret
            exact ⟨rfl, O2.out.trans O11.out⟩
          · subst hx
            have hgv : grv 11 = false := by decide
            go_wp2_with fail
            refine (awake01 _ ((Hg.out.old O2.out).old OL.out)).mono ?_
            rintro e w4 ⟨rfl, o4⟩
            have O4 := Lib.hid (OL.out.trans o4)
            have I4 := Lib.hid (IL.out.old o4)
            clear o4
            go_wp2_with fail
            refine (fis_chain l _ (.iface vt vu) _ (V2.out.old O4.out) I4.out).mono ?_
            rintro e w5 ⟨rfl, rfl⟩
            rw [HA.out]
            go_wp2_with fail
            refine (grave_c l _ (.iface vt vu) _ (V2.out.old O4.out) ((Hg.out.old O2.out).old O4.out)).mono ?_
            rintro e w6 ⟨rfl, o6⟩
            rw [hgv]
            have O6 := Lib.hid (O4.out.trans o6)
            have I6 := Lib.hid (I4.out.old o6)
            clear o6
            go_wp2_with fail
            refine (fis_nil _ I6.out).mono ?_
            rintro e w7 ⟨rfl, rfl⟩
            go_wp2_with fail
            refine (grave_nil _).mono ?_
            rintro e w8 ⟨rfl, o8⟩
            have O8 := Lib.hid (O6.out.trans o8)
            clear o8
            go_wp2_with fail
            refine (wrapnil_c _).mono ?_
            rintro e w9 ⟨rfl, rfl⟩
            go_wp2_with fail
            refine (code_nil _).mono ?_
            rintro e w10 ⟨rfl, o10⟩
            have O10 := Lib.hid (O8.out.trans o10)
            clear o10
            go_wp2_with fail
            refine (deep_nil _).mono ?_
            rintro e w11 ⟨rfl, o11⟩
            have O11 := Lib.hid (O10.out.trans o11)
            clear o11
            go_wp2_with fail
            refine (unwrapnil_c _).mono ?_
            rintro e w12 ⟨rfl, rfl⟩
            go_wp2_with fail
            refine (errnil_c _).mono ?_
            rintro e w13 ⟨rfl, rfl⟩
            go_wp2
            go_ret
            exact ⟨rfl, O2.out.trans O11.out⟩
          · subst hx
            have hgv : grv 12 = false := by decide
            go_wp2_with fail
            refine (awake01 _ ((Hg.out.old O2.out).old OL.out)).mono ?_
            rintro e w4 ⟨rfl, o4⟩
            have O4 := Lib.hid (OL.out.trans o4)
            have I4 := Lib.hid (IL.out.old o4)
            clear o4
            go_wp2_with fail
            refine (fis_chain l _ (.iface vt vu) _ (V2.out.old O4.out) I4.out).mono ?_
            rintro e w5 ⟨rfl, rfl⟩
            rw [HA.out]
            go_wp2_with fail
            refine (grave_c l _ (.iface vt vu) _ (V2.out.old O4.out) ((Hg.out.old O2.out).old O4.out)).mono ?_
            rintro e w6 ⟨rfl, o6⟩
            rw [hgv]
            have O6 := Lib.hid (O4.out.trans o6)
            have I6 := Lib.hid (I4.out.old o6)
            clear o6
            go_wp2_with fail
            refine (fis_nil _ I6.out).mono ?_
            rintro e w7 ⟨rfl, rfl⟩
            go_wp2_with fail
            refine (grave_nil _).mono ?_
            rintro e w8 ⟨rfl, o8⟩
            have O8 := Lib.hid (O6.out.trans o8)
            clear o8
            go_wp2_with fail
            refine (wrapnil_c _).mono ?_
            rintro e w9 ⟨rfl, rfl⟩
            go_wp2_with fail
            refine (code_nil _).mono ?_
            rintro e w10 ⟨rfl, o10⟩
            have O10 := Lib.hid (O8.out.trans o10)
            clear o10
            go_wp2_with fail
            refine (deep_nil _).mono ?_
            rintro e w11 ⟨rfl, o11⟩
            have O11 := Lib.hid (O10.out.trans o11)
            clear o11
            go_wp2_with fail
            refine (unwrapnil_c _).mono ?_
            rintro e w12 ⟨rfl, rfl⟩
            go_wp2_with fail
            refine (errnil_c _).mono ?_
            rintro e w13 ⟨rfl, rfl⟩
            go_wp2
            go_ret
            exact ⟨rfl, O2.out.trans O11.out⟩
          · subst hx
            have hgv : grv 14 = false := by decide
            go_wp2_with fail
            refine (awake01 _ ((Hg.out.old O2.out).old OL.out)).mono ?_
            rintro e w4 ⟨rfl, o4⟩
            have O4 := Lib.hid (OL.out.trans o4)
            have I4 := Lib.hid (IL.out.old o4)
            clear o4
            go_wp2_with fail
            refine (fis_chain l _ (.iface vt vu) _ (V2.out.old O4.out) I4.out).mono ?_
            rintro e w5 ⟨rfl, rfl⟩
            rw [HA.out]
            go_wp2_with fail
            refine (grave_c l _ (.iface vt vu) _ (V2.out.old O4.out) ((Hg.out.old O2.out).old O4.out)).mono ?_
            rintro e w6 ⟨rfl, o6⟩
            rw [hgv]
            have O6 := Lib.hid (O4.out.trans o6)
            have I6 := Lib.hid (I4.out.old o6)
            clear o6
            go_wp2_with fail
            refine (fis_nil _ I6.out).mono ?_
            rintro e w7 ⟨rfl, rfl⟩
            go_wp2_with fail
            refine (grave_nil _).mono ?_
            rintro e w8 ⟨rfl, o8⟩
            have O8 := Lib.hid (O6.out.trans o8)
            clear o8
            go_wp2_with fail
            refine (wrapnil_c _).mono ?_
            rintro e w9 ⟨rfl, rfl⟩
            go_wp2_with fail
            refine (code_nil _).mono ?_
            rintro e w10 ⟨rfl, o10⟩
            have O10 := Lib.hid (O8.out.trans o10)
            clear o10
            go_wp2_with fail
            refine (deep_nil _).mono ?_
            rintro e w11 ⟨rfl, o11⟩
            have O11 := Lib.hid (O10.out.trans o11)
            clear o11
            go_wp2_with fail
            refine (unwrapnil_c _).mono ?_
            rintro e w12 ⟨rfl, rfl⟩
            go_wp2_with fail
            refine (errnil_c _).mono ?_
            rintro e w13 ⟨rfl, rfl⟩
            go_wp2
            go_ret
            exact ⟨rfl, O2.out.trans O11.out⟩
          · have hgv : grv q = true := by simp [grv, x0, x1, x2, x3, x4]
            have z1 : (q != 10) = true := by simp only [bne, x1]; rfl
            have z2 : (q != 11) = true := by simp only [bne, x2]; rfl
            have z3 : (q != 12) = true := by simp only [bne, x3]; rfl
            have z4 : (q != 14) = true := by simp only [bne, x4]; rfl
            go_wp2_with fail
            refine (awake01 _ ((Hg.out.old O2.out).old OL.out)).mono ?_
            rintro e w4 ⟨rfl, o4⟩
            have O4 := Lib.hid (OL.out.trans o4)
            have I4 := Lib.hid (IL.out.old o4)
            clear o4
            go_wp2_with fail
            refine (fis_chain l _ (.iface vt vu) _ (V2.out.old O4.out) I4.out).mono ?_
            rintro e w5 ⟨rfl, rfl⟩
            rw [HA.out]
            go_wp2_with fail
            refine (grave_c l _ (.iface vt vu) _ (V2.out.old O4.out) ((Hg.out.old O2.out).old O4.out)).mono ?_
            rintro e w6 ⟨rfl, o6⟩
            rw [hgv]
            have O6 := Lib.hid (O4.out.trans o6)
            have I6 := Lib.hid (I4.out.old o6)
            clear o6
            go_wp2_with fail
            refine (fis_nil _ I6.out).mono ?_
            rintro e w7 ⟨rfl, rfl⟩
            go_wp2_with fail
            refine (grave_nil _).mono ?_
            rintro e w8 ⟨rfl, o8⟩
            have O8 := Lib.hid (O6.out.trans o8)
            clear o8
            go_wp2_with fail
            refine (wrapnil_c _).mono ?_
            rintro e w9 ⟨rfl, rfl⟩
            go_wp2_with fail
            refine (code_nil _).mono ?_
            rintro e w10 ⟨rfl, o10⟩
            have O10 := Lib.hid (O8.out.trans o10)
            clear o10
            go_wp2_with fail
            refine (deep_nil _).mono ?_
            rintro e w11 ⟨rfl, o11⟩
            have O11 := Lib.hid (O10.out.trans o11)
            clear o11
            go_wp2_with fail
            refine (unwrapnil_c _).mono ?_
            rintro e w12 ⟨rfl, rfl⟩
            go_wp2_with fail
            refine (errnil_c _).mono ?_
            rintro e w13 ⟨rfl, rfl⟩
            go_wp2
            go_ret
            exact ⟨rfl, O2.out.trans O11.out⟩
    · have g1 : decide ((30 : Int) < m) = true := by simp; omega
      go_wp2_with fail
      refine (awake01 _ (Hg.out.old O1.out)).mono ?_
      rintro e w2 ⟨rfl, o2⟩
      have O2 := Lib.hid (O1.out.trans o2)
      clear o2
      go_wp2
      go_ret
      exact ⟨rfl, O2.out⟩
end Go.Proofs.YtpknhaemfpmpkaaDoor
