/- Contracts that the closing theorem wants (DwY). No condition beyond each law's own. -/
import Derived.Test.YtiphdedfbafhkaaGreatDoorZDwX
import Derived.Deep.RegionHeld3
import Derived.Deep.LoopGhost
namespace Go.Proofs.YtiphdedfbafhkaaGreatDoor
open Go.RowKit

section
variable {c c' : Nat → Nat} {w w' : World} {p tp : Nat} {now : Int} {dl dl' : List Tm} {l l' : List One} {ro : Option Addr} {rcap : Nat} {R : List DR} {i : Nat} {d d' : DR} {a b : Addr}
set_option maxRecDepth 100000 in
set_option maxHeartbeats 2000000 in
theorem r14show_m (h : DWR c w p tp now dl l ro rcap R) (hd : R[i]? = some d) (hm : d.many = true) (at0 hi : Int) (h0 : at0 ≤ hi) (h1 : 0 ≤ at0) (h2 : at0 ≤ d.cl) (h3 : d.cl ≤ 4611686018427387904) {N : Nat} (hN : d.n = (N : Int)) (hN0 : 0 < N) (hN1 : N ≤ 1048576) (hl : d.shown.length = N) :
    Calls Tryz.prog 99 #[.pointer (some ⟨p, 0, none⟩), .int .i64 (i : Int), .int .i64 at0, .int .i64 hi] w fun e w' => e = .returned (.tuple #[.int .i64 (at0 + 1), .int .i64 0]) ∧ Stp (· = dk i) c c w w' ∧ DWR c w' p tp now dl l ro rcap (R.set i { d with shown := d.shown.set (at0.toNat % N) at0 }) := by
  obtain ⟨r4, lp⟩ := h.r4
  obtain ⟨a, rfl, hs, -, k0, k1, k2, k3, -, k5, -⟩ := h.ringA hd
  obtain ⟨i0, i1⟩ := h.lt hd
  obtain ⟨A, rfl⟩ := Int.eq_ofNat_of_zero_le h1
  have hsl : A % N < d.shown.length := by rw [hl]; exact Nat.mod_lt _ hN0
  have hso : ∃ b, d.so = some b := by
    obtain ⟨b', hb', -⟩ := (h.rs.sh i d hd).1.cell (j := A % N) (v := .int .i64 (d.shown.getD (A % N) 0)) (by simp [List.getD, hsl])
    exact ⟨b', hb'⟩
  obtain ⟨b, hb⟩ := hso
  obtain ⟨-, -, f9, l9, u9, c9⟩ := h.show1 hd hb hsl (A : Int)
  have TD := Lib.hid (fun (W : World) (hW : Stp (fun _ => False) c c w W) => (show Stp (· = dk i) c c w (W.setCell (b.add (A % N)) (.int .i64 (A : Int))) ∧ DWR c (W.setCell (b.add (A % N)) (.int .i64 (A : Int))) p tp now dl l (some a) rcap (R.set i { d with shown := d.shown.set (A % N) (A : Int) }) from
    ⟨(hW.mono (fun _ h => h.elim)).trans ((h.stpF hW).show1 hd hb hsl (A : Int)).1, ((h.stpF hW).show1 hd hb hsl (A : Int)).2.1⟩))
  obtain ⟨k9a, k9b⟩ : (w.setCell (b.add (A % N)) (.int .i64 (A : Int))).cell? (a.add (i * 9)) = some (.int .i64 d.n) ∧ (w.setCell (b.add (A % N)) (.int .i64 (A : Int))).cell? ⟨(a.add (i * 9)).block, (a.add (i * 9)).off + 5, none⟩ = some (.slice d.so d.shown.length d.scap) := by
    have hi : i < R.length := (List.getElem?_eq_some_iff.1 hd).1
    obtain ⟨a', ha', -, -, q0, -, -, -, -, q5, -⟩ := (TD.out w (Stp.refl _ _ _)).2.ringA (i := i) (List.getElem?_set_self hi)
    cases ha'
    simp only [List.length_set] at q5
    exact ⟨q0, q5⟩
  have g0 : decide ((i : Int) < 0) = false := by simp
  have g1 : decide (R.length ≤ i) = false := by simp; omega
  have g2 : decide (hi < (A : Int)) = false := by simp; omega
  have g3 : decide ((A : Int) < 0) = false := by simp
  have g4 : decide (d.cl < (A : Int)) = false := by simp; omega
  have v1 : wrap64 ((A : Int) + 1) = (A : Int) + 1 := IntWalk.wrap64_in _ (by constructor <;> omega)
  have v2 : IntKind.i64.wrap ((A : Int) + 1) = (A : Int) + 1 := (IntWalk.i64_left _).trans v1
  have m0 : ((N : Int) == 0) = false := by simp; omega
  have m1 : (A : Int).tmod (N : Int) = ((A % N : Nat) : Int) := by rw [Int.tmod_eq_emod_of_nonneg (by omega)]; exact (Int.natCast_emod A N).symm
  have mN : ¬ N = 0 := by omega
  have m2 : wrap64 (((A % N : Nat)) : Int) = ((A % N : Nat) : Int) := IntWalk.wrap64_in _ (by have := Nat.mod_lt A hN0; constructor <;> omega)
  obtain ⟨s, hsE⟩ : ∃ s, s = A % N := ⟨_, rfl⟩
  have hs0 : (0 : Int) ≤ (s : Int) := Int.natCast_nonneg s
  have hs1 : (s : Int) < (N : Int) := Int.ofNat_lt.2 (hsE ▸ Nat.mod_lt A hN0)
  rw [hm] at k1
  rw [hN] at k0 k9a
  rw [hb, hl] at k5 k9b
  have ht : (A : Int).toNat % N = s := by rw [hsE]; rfl
  rw [ht]
  rw [← hsE] at TD f9 l9 c9 m1 m2 k9a k9b
  have HS := Lib.hid hsE
  clear h hd hs hm h0 h2 h3 hsl hb hl hsE hN hN0 ht
  go_enter Tryz.func99, Tryz.ntmps99
  go_wp2
  go_region_held3 (fun w' => w'.cell? (a.add (i * 9)) = some (.int .i64 (N : Int)) ∧ w'.cell? ⟨(a.add (i * 9)).block, (a.add (i * 9)).off + 5, none⟩ = some (.slice (some b) N d.scap))
    (first | exact ⟨by assumption, by assumption⟩ | exact ⟨k9a, k9b⟩ | go_keep)
    (fail)
  go_wp2
  go_ret2
  first
    | exact ⟨rfl, (TD.out w (Stp.refl _ _ _)).1.drew, (TD.out w (Stp.refl _ _ _)).2.stpF (Stp.refl (fun _ => False) c _).drew⟩
    | exact ⟨rfl, (TD.out _ (Stp.refl _ _ _).drew).1, (TD.out _ (Stp.refl _ _ _).drew).2⟩
    | exact ⟨rfl, (TD.out _ (Stp.refl _ _ _)).1, (TD.out _ (Stp.refl _ _ _)).2⟩
end
end Go.Proofs.YtiphdedfbafhkaaGreatDoor

namespace Go.Proofs.YtiphdedfbafhkaaGreatDoor
open Go.RowKit

/-- Up to where all is shown, as the document tells it. -/
def RHi (shown : List Int) (N : Nat) (lo hi x : Int) : Prop :=
  lo - 1 ≤ x ∧ (x ≤ hi ∨ x = lo - 1) ∧ (∀ s : Int, lo ≤ s → s ≤ x → shown.getD (s.toNat % N) 0 = s) ∧ (x < hi → shown.getD ((x + 1).toNat % N) 0 ≠ x + 1)

section
variable {c c' : Nat → Nat} {w w' : World} {p tp : Nat} {now : Int} {dl dl' : List Tm} {l l' : List One} {ro : Option Addr} {rcap : Nat} {R : List DR} {i : Nat} {d d' : DR} {a b : Addr}
set_option maxRecDepth 100000 in
theorem r14pub_none (h : DWR c w p tp now dl l ro rcap R) (k lo : Int) (hk : k < 0 ∨ (R.length : Int) ≤ k) :
    Calls Tryz.prog 100 #[.pointer (some ⟨p, 0, none⟩), .int .i64 k, .int .i64 lo] w fun e w' => e = .returned (.tuple #[.int .i64 0, .int .i64 3]) ∧ w = w' := by
  obtain ⟨r4, lp⟩ := h.r4
  have t : decide (k < 0) = true ∨ (decide (k < 0) = false ∧ decide ((R.length : Int) ≤ k) = true) := by
    simp only [decide_eq_true_eq, decide_eq_false_iff_not]; omega
  clear h hk
  rcases t with g0 | ⟨g0, g1⟩
  all_goals
    go_enter Tryz.func100, Tryz.ntmps100
    go_wp2
    go_ret2
    exact ⟨rfl, rfl⟩

set_option maxRecDepth 100000 in
theorem r14pub_range (h : DWR c w p tp now dl l ro rcap R) (hd : R[i]? = some d) (lo : Int) (hb : lo < 0 ∨ 4611686018427387904 < lo) :
    Calls Tryz.prog 100 #[.pointer (some ⟨p, 0, none⟩), .int .i64 (i : Int), .int .i64 lo] w fun e w' => e = .returned (.tuple #[.int .i64 0, .int .i64 5]) ∧ w = w' := by
  obtain ⟨r4, lp⟩ := h.r4
  obtain ⟨i0, i1⟩ := h.lt hd
  have g0 : decide ((i : Int) < 0) = false := by simp
  have g1 : decide (R.length ≤ i) = false := by simp; omega
  have t : decide (lo < 0) = true ∨ (decide (lo < 0) = false ∧ decide ((4611686018427387904 : Int) < lo) = true) := by
    simp only [decide_eq_true_eq, decide_eq_false_iff_not]; omega
  clear h hd hb
  rcases t with g2 | ⟨g2, g3⟩
  all_goals
    go_enter Tryz.func100, Tryz.ntmps100
    go_wp2
    go_ret2
    exact ⟨rfl, rfl⟩

set_option maxRecDepth 100000 in
set_option maxHeartbeats 2000000 in
theorem r14pub_s (h : DWR c w p tp now dl l ro rcap R) (hd : R[i]? = some d) (hm : d.many = false) (lo : Int) (h0 : 0 ≤ lo) (h1 : lo ≤ 4611686018427387904) :
    Calls Tryz.prog 100 #[.pointer (some ⟨p, 0, none⟩), .int .i64 (i : Int), .int .i64 lo] w fun e w' => e = .returned (.tuple #[.int .i64 (if d.pub < lo then lo - 1 else d.pub), .int .i64 0]) ∧ ∃ c', Stp (fun _ => False) c c' w w' := by
  obtain ⟨r4, lp⟩ := h.r4
  obtain ⟨a, rfl, hs, -, k0, k1, k2, k3, k4, k5, k8⟩ := h.ringA hd
  obtain ⟨k6, k7⟩ := h.ring67 hd
  obtain ⟨i0, i1⟩ := h.lt hd
  have g0 : decide ((i : Int) < 0) = false := by simp
  have g1 : decide (R.length ≤ i) = false := by simp; omega
  have g2 : decide (lo < 0) = false := by simp; omega
  have g3 : decide ((4611686018427387904 : Int) < lo) = false := by simp; omega
  have v1 : wrap64 (lo - 1) = lo - 1 := IntWalk.wrap64_in _ (by constructor <;> omega)
  have v2 : IntKind.i64.wrap (lo - 1) = lo - 1 := (IntWalk.i64_left _).trans v1
  rw [hm] at k1
  have T := Lib.hid ((Stp.refl (fun _ => False) c w).alloc (.cells #[.int .i64 d.n, .bool false, .int .i64 d.cl, .int .i64 d.pub, .int .i64 d.seen, .slice d.so d.shown.length d.scap, .slice d.ea d.en d.ecap, .slice none 0 0, .slice d.wo d.wl.length d.wcap] 178) 0)
  clear h hd hs hm h0 h1
  by_cases hp : d.pub < lo
  · have g4 : decide (d.pub < lo) = true := by simpa using hp
    rw [if_pos hp]
    clear hp
    go_enter Tryz.func100, Tryz.ntmps100
    go_wp2
    go_ret2
    exact ⟨rfl, _, T.out⟩
  · have g4 : decide (d.pub < lo) = false := by simpa using hp
    rw [if_neg hp]
    clear hp
    go_enter Tryz.func100, Tryz.ntmps100
    go_wp2
    go_ret2
    exact ⟨rfl, _, T.out⟩
end
end Go.Proofs.YtiphdedfbafhkaaGreatDoor

namespace Go.Proofs.YtiphdedfbafhkaaGreatDoor
open Go.RowKit

section
variable {c c' : Nat → Nat} {w w' : World} {p tp : Nat} {now : Int} {dl : List Tm} {l : List One} {rs : Value}
set_option maxRecDepth 100000 in
theorem r14tick_bad (h : DWs c w p tp now dl l rs) (d er : Int) (hn : 0 ≤ now ∧ now ≤ 1099511627776) (he : (d < 1 ∧ er = 1) ∨ (1 ≤ d ∧ 1099511627776 - now < d ∧ er = 5)) :
    Calls Tryz.prog 95 #[.pointer (some ⟨p, 0, none⟩), .int .i64 d] w fun e w' => e = .returned (.tuple #[.slice none 0 0, .int .i64 er]) ∧ ∃ c', Stp (fun _ => False) c c' w w' := by
  obtain ⟨lo, lcap, p0, p1, p2, lp, -⟩ := h.cells
  have HE := Lib.hid he
  have HN := Lib.hid hn
  have hne : (er != 0) = true := by
    have : er ≠ 0 := by omega
    simpa using this
  clear h he hn
  go_enter Tryz.func95, Tryz.ntmps95
  go_wp2_with fail
  refine (r04tick_bad (c := c) lo dl.length lcap now d er HN.out HE.out).mono ?_
  rintro e w1 ⟨rfl, c1, t1⟩
  have T1 := Lib.hid (t1.alloc (.cells #[.int .i64 now, .slice lo dl.length lcap] 155) 0)
  clear t1 p0 p1 p2 lp
  go_wp2
  go_ret2
  exact ⟨rfl, _, T1.out⟩
end
end Go.Proofs.YtiphdedfbafhkaaGreatDoor

namespace Go.Proofs.YtiphdedfbafhkaaGreatDoor
open Go.RowKit

section
variable {c c' : Nat → Nat} {w w' : World} {p tp : Nat} {now : Int} {dl dl' : List Tm} {l l' : List One} {ro : Option Addr} {rcap : Nat} {R : List DR} {i : Nat} {d d' : DR} {a b : Addr}
set_option maxRecDepth 100000 in
theorem r14enlist_none (h : DWR c w p tp now dl l ro rcap R) (k who : Int) (hk : k < 0 ∨ (R.length : Int) ≤ k) :
    Calls Tryz.prog 91 #[.pointer (some ⟨p, 0, none⟩), .int .i64 k, .int .i64 who] w fun e w' => e = .returned (.int .i64 3) ∧ w = w' := by
  obtain ⟨r4, lp⟩ := h.r4
  have t : decide (k < 0) = true ∨ (decide (k < 0) = false ∧ decide ((R.length : Int) ≤ k) = true) := by
    simp only [decide_eq_true_eq, decide_eq_false_iff_not]; omega
  clear h hk
  rcases t with g0 | ⟨g0, g1⟩
  all_goals
    go_enter Tryz.func91, Tryz.ntmps91
    go_wp2
    go_ret
    exact ⟨rfl, rfl⟩

set_option maxRecDepth 100000 in
theorem r14enlist_wrong (h : DWR c w p tp now dl l ro rcap R) (hd : R[i]? = some d) (who : Int) (hw : wrongAt l who ≠ 0) :
    Calls Tryz.prog 91 #[.pointer (some ⟨p, 0, none⟩), .int .i64 (i : Int), .int .i64 who] w fun e w' => e = .returned (.int .i64 (wrongAt l who)) ∧ w = w' := by
  obtain ⟨r4, lp⟩ := h.r4
  obtain ⟨i0, i1⟩ := h.lt hd
  have g0 : decide ((i : Int) < 0) = false := by simp
  have g1 : decide (R.length ≤ i) = false := by simp; omega
  have H := Lib.hid h
  have hne : (wrongAt l who != 0) = true := by simpa using hw
  obtain ⟨z, hz⟩ : ∃ z, z = wrongAt l who := ⟨_, rfl⟩
  have HZ := Lib.hid hz
  rw [← hz] at hne ⊢
  clear h hd hw hz
  go_enter Tryz.func91, Tryz.ntmps91
  go_wp2_with fail
  refine (H.out.wd.wrong who).mono ?_
  rintro e w1 ⟨rfl, hw1⟩
  subst hw1
  rw [← HZ.out]
  go_wp2
  go_ret
  exact ⟨rfl, rfl⟩
end
end Go.Proofs.YtiphdedfbafhkaaGreatDoor

namespace Go.Proofs.YtiphdedfbafhkaaGreatDoor
open Go.RowKit

section
variable {c c' : Nat → Nat} {w w' : World} {p tp : Nat} {now : Int} {dl dl' : List Tm} {l l' : List One} {ro : Option Addr} {rcap : Nat} {R : List DR} {i : Nat} {d d' : DR} {a b : Addr}
set_option maxRecDepth 100000 in
set_option maxHeartbeats 2000000 in
theorem r14enlist_there (h : DWR c w p tp now dl l ro rcap R) (hd : R[i]? = some d) (who : Int) (hw : wrongAt l who = 0) (hy : who ∈ d.wl) (hlen : d.wl.length ≤ 100) :
    Calls Tryz.prog 91 #[.pointer (some ⟨p, 0, none⟩), .int .i64 (i : Int), .int .i64 who] w fun e w' => e = .returned (.int .i64 0) ∧ w' = w := by
  obtain ⟨r4, lp⟩ := h.r4
  obtain ⟨a, rfl, -, -, -, -, -, -, -, -, k8⟩ := h.ringA hd
  obtain ⟨i0, i1⟩ := h.lt hd
  have g0 : decide ((i : Int) < 0) = false := by simp
  have g1 : decide (R.length ≤ i) = false := by simp; omega
  have H := Lib.hid h
  have HD := Lib.hid hd
  have HWZ := Lib.hid hw
  have HY := Lib.hid hy
  obtain ⟨N, hN⟩ : ∃ N, N = d.wl.length := ⟨_, rfl⟩
  obtain ⟨wo, hwo⟩ : ∃ x, x = d.wo := ⟨_, rfl⟩
  have HN := Lib.hid hN
  have HWO := Lib.hid hwo
  have HN1 := Lib.hid (show N ≤ 100 by omega)
  rw [← hN, ← hwo] at k8
  clear h hd hw hy hlen hN hwo
  go_enter Tryz.func91, Tryz.ntmps91
  go_wp2_with fail
  refine (H.out.wd.wrong who).mono ?_
  rintro e w1 ⟨rfl, hw1⟩
  subst hw1
  rw [HWZ.out]
  go_wp2
  go_loopg [8] N (fun gh iv wr => wr = w ∧ ∃ j : Nat, iv = .int .i64 j ∧ j + gh = N ∧ Hid (∀ m, m < j → d.wl.getD m 0 ≠ who))
  case atStart => exact ⟨rfl, 0, rfl, by omega, Lib.hid (fun m hm => by omega)⟩
  case round =>
    obtain ⟨hw, j, rfl, hj, HM⟩ := hrel
    subst hw
    by_cases hlt : j < N
    · have hjl : j < d.wl.length := by rw [← HN.out]; exact hlt
      obtain ⟨b, hb, y0⟩ := ((H.out.rs.sh i d HD.out).2.toIn).ints (j := j) hjl
      have hb' : wo = some b := by rw [HWO.out]; exact hb
      subst hb'
      obtain ⟨y, hy⟩ : ∃ y, y = d.wl.getD j 0 := ⟨_, rfl⟩
      rw [← hy] at y0
      have hj9 : j ≤ 100 := by have := HN1.out; omega
      have g3 : (j : Int) < (N : Int) := by omega
      have HJ := Lib.hid (show j + 1 + (gk - 1) = N ∧ gk - 1 < gk by omega)
      by_cases hv : y = who
      · have g5 : (y == who) = true := by simpa using hv
        clear hv hy hjl hlt hj hb
        go_wp2
        go_ret
        exact ⟨rfl, rfl⟩
      · have g5 : (y == who) = false := by simpa using hv
        have HM2 := Lib.hid (show ∀ m, m < j + 1 → d.wl.getD m 0 ≠ who from fun m hm => by
          by_cases h1 : m = j
          · subst h1; rw [← hy]; exact hv
          · exact HM.out m (by omega))
        clear hv hy hjl hlt hj hb
        go_wp2
        go_roundg (gk - 1)
        case rel => exact ⟨rfl, j + 1, by go_num, HJ.out.1, HM2⟩
        case measure => exact HJ.out.2
    · exfalso
      obtain ⟨m, hm, he⟩ := List.mem_iff_getElem.1 HY.out
      exact HM.out m (by have := HN.out; omega) (by simp [List.getD, hm, he])
end
end Go.Proofs.YtiphdedfbafhkaaGreatDoor
