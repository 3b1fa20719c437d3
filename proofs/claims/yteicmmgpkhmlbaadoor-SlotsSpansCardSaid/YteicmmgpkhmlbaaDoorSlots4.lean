/- Contracts of Fill and Span of package slots. No condition beyond each contract's own. -/
import Derived.Test.YteicmmgpkhmlbaaDoorSlotsPlays
namespace Go.Proofs.YteicmmgpkhmlbaaDoor
open Go.RowKit

/-- What a ring has, once the first j of some events were filled in: the last ones of them. -/
def Filled (ring l : List Ev) (sh : Nat) (lo : Int) (j : Nat) : Prop := ∀ i, i < j → j ≤ i + 2 ^ sh → ring[slotOf sh (lo + i)]? = l[i]?

theorem slotOf_ne {sh : Nat} (hsh : sh < 21) (lo : Int) {i j : Nat} (h : i < j) (h2 : j < i + 2 ^ sh) : slotOf sh (lo + i) ≠ slotOf sh (lo + j) := by
  intro e
  have e1 := slotOf_same hsh e
  have h3 : (2 ^ sh : Int) ∣ (lo + j) - (lo + i) := Int.dvd_of_emod_eq_zero (Int.emod_eq_emod_iff_emod_sub_eq_zero.1 e1.symm)
  have h4 : ((lo + j) - (lo + i) : Int) = (j : Int) - i := by omega
  rw [h4] at h3
  have h5 := Int.le_of_dvd (by omega) h3
  have := two_pow_cast sh
  omega

theorem Filled.put {ring l : List Ev} {sh : Nat} {lo : Int} {j : Nat} (h : Filled ring l sh lo j) (hsh : sh < 21) (hr : ring.length = 2 ^ sh) {x : Ev} (hx : l[j]? = some x) : Filled (ring.set (slotOf sh (lo + j)) x) l sh lo (j + 1) := by
  intro i hi hb
  have hlt := (slotOf_lt sh (lo + j) hsh).1
  by_cases he : i = j
  · subst he
    rw [List.getElem?_set_self (by omega), hx]
  · rw [List.getElem?_set_ne (slotOf_ne hsh lo (by omega) (by omega)).symm]
    exact h i (by omega) (by omega)

set_option maxRecDepth 100000 in
set_option maxHeartbeats 2000000 in
theorem slfill_ok {c : Nat → Nat} {k k0 : Nat} {w : World} {p sh : Nat} {ring : List Ev} (h : RingAt c k w p sh ring) {ao : Option Addr} {n cap : Nat} {l : List Ev} (hin : In c k0 w 2 ao n cap (l.flatMap Ev.cells)) (hlen : l.length = n) (hk : k0 ≠ k)
    (lo : Int) (h0 : 0 ≤ lo) (h1 : lo ≤ 4611686018427387904) (h2 : (n : Int) ≤ 4611686018427387904 - lo) (m : Int) (hm : (if (n : Int) < 2 ^ sh then (n : Int) else 2 ^ sh) = m) :
    Calls Tryd.prog 40 #[.pointer (some ⟨p, 0, none⟩), .int .i64 lo, .slice ao n cap] w fun e w' => e = .returned (.tuple #[.int .i64 m, .nilIface]) ∧ ∃ c' ring', Stp (· = k) c c' w w' ∧ RingAt c' k w' p sh ring' ∧ Filled ring' l sh lo n := by
  have H := Lib.hid h
  have Hin := Lib.hid hin
  have Hl := Lib.hid hlen
  have W1 : wrap64 (4611686018427387904 - lo) = 4611686018427387904 - lo := IntWalk.wrap64_in _ ⟨by omega, by omega⟩
  have t0 : decide ((4611686018427387904 - lo) < (n : Int)) = false := by simp; omega
  clear h hin hlen
  go_enter Tryd.func40, Tryd.ntmps40
  go_wp2_with (go_at_call 70; refine (slat_ok _ _ _ h0 h1 _).mono ?_; rintro e w' ⟨rfl, rfl⟩)
  go_loopw [27] (fun i wr => ∃ (j : Nat) (c' : Nat → Nat) (rg : List Ev), i = .int .i64 j ∧ j ≤ n ∧ Stp (· = k) c c' w wr ∧ RingAt c' k wr p sh rg ∧ Filled rg l sh lo j) (fun i _ => n - (intOf i).toNat)
  case atStart => exact ⟨0, c, ring, rfl, Nat.zero_le _, Stp.refl _ _ _, H.out, fun i hi => absurd hi (Nat.not_lt_zero _)⟩
  case round =>
    obtain ⟨j, c2, rg, rfl, hj, st, hrg, hf⟩ := hrel
    have St := Lib.hid st
    have F := Lib.hid hf
    by_cases hlt : j < n
    · have hjl : j < l.length := by rw [Hl.out]; exact hlt
      obtain ⟨x, hx⟩ : ∃ x, l[j]? = some x := ⟨_, List.getElem?_eq_getElem hjl⟩
      have hInr := Hin.out.stp st hk
      obtain ⟨a, ha, u0⟩ := hInr.field Ev.len hx (f := 0) (v := .int .i64 x.key) rfl
      obtain ⟨a1, ha1, u1⟩ := hInr.field Ev.len hx (f := 1) (v := .int .i64 x.val) rfl
      subst ha
      cases ha1
      have u1' : wr.cell? ⟨(a.add (j * 2)).block, (a.add (j * 2)).off + 1, none⟩ = some (.int .i64 x.val) := by rw [← add_add'] at u1; exact u1
      rw [Nat.add_zero] at u0
      have W2 : wrap64 (lo + j) = lo + j := IntWalk.wrap64_in _ ⟨by omega, by omega⟩
      have W3 : IntKind.i64.wrap (lo + j) = lo + j := wrap_small _ (by omega) (by omega)
      have Hx := Lib.hid hx
      clear hInr hx u1 hjl st hf
      obtain ⟨hsh, hl, g, gcap, hb, hr⟩ := hrg
      obtain ⟨hs1, hs2⟩ := slotOf_lt sh (lo + j) hsh
      obtain ⟨s, hs⟩ : ∃ s, s = slotOf sh (lo + j) := ⟨_, rfl⟩
      rw [← hs] at hs1 hs2
      have hsl : s < rg.length := by rw [hl]; exact hs1
      have Hs := Lib.hid hs
      have Hj := Lib.hid hs2
      have Hrl := Lib.hid hl
      have Hsl := Lib.hid hsl
      have Hb := Lib.hid hb
      have Hr := Lib.hid hr
      obtain ⟨wb, hwb⟩ : ∃ wb : World, wb = wr.alloc (.cells #[.int .i64 x.key, .int .i64 x.val] 52) := ⟨_, rfl⟩
      have hb' := hb.alloc (.cells #[.int .i64 x.key, .int .i64 x.val] 52) 0
      have hr' := hr.alloc (.cells #[.int .i64 x.key, .int .i64 x.val] 52) 0
      rw [← hwb] at hb' hr'
      have c0 := hb'.cell 0
      have c1 := hb'.cell 1
      simp at c0 c1
      have x0 : wb.cell? ⟨wr.heap.size, 0, none⟩ = some (.int .i64 x.key) := by subst hwb; simp
      have x1 : wb.cell? ⟨wr.heap.size, 1, none⟩ = some (.int .i64 x.val) := by subst hwb; simp
      obtain ⟨y, hy⟩ : ∃ y, rg[s]? = some y := ⟨_, List.getElem?_eq_getElem hsl⟩
      obtain ⟨g', off', e', y0, f0, _⟩ := hr'.field Ev.len hy (f := 0) (v := .int .i64 y.key) rfl
      cases e'
      obtain ⟨g', off', e', y1, f1, _⟩ := hr'.field Ev.len hy (f := 1) (v := .int .i64 y.val) rfl
      cases e'
      simp at y0 y1 f0 f1
      have Hwb := Lib.hid hwb
      have T := Lib.hid hlt
      have t1 : decide ((j : Int) < (n : Int)) = true := by simp; omega
      clear hb hr hb' hr' hy hs hs1 hs2 hl hsl hlt
      go_wp2
      rw [← hwb]
      clear hwb
      go_region_with ((go_at_call 19; refine (withB (wb := wb) (index_j sh hsh (lo + j) s Hj.out _) ?_).mono ?_; (exact (Below.refl _ _).drew); rintro e w2 ⟨rfl, hB2⟩; have k0 := (hB2.cell (World.block_lt_of_cell? _ _ c0)).trans c0; have k1 := (hB2.cell (World.block_lt_of_cell? _ _ c1)).trans c1; have k2 := (hB2.cell (World.block_lt_of_cell? _ _ x0)).trans x0; have k3 := (hB2.cell (World.block_lt_of_cell? _ _ x1)).trans x1; have k4 := (hB2.cell (World.block_lt_of_cell? _ _ y0)).trans y0; have k5 := (hB2.cell (World.block_lt_of_cell? _ _ y1)).trans y1; have k6 := (hB2.frozen (World.block_lt_of_cell? _ _ y0)).trans f0; have k7 := (hB2.frozen (World.block_lt_of_cell? _ _ y1)).trans f1))
      all_goals
        go_wp2
        go_roundw
        case rel =>
          obtain ⟨c3, s3, r3⟩ := ring_put hsh Hrl.out Hb.out Hr.out (((Below.refl _ _).alloc (Nat.le_refl _) (.cells #[.int .i64 x.key, .int .i64 x.val] 52)).trans (by rw [← Hwb.out]; exact hB2.mono (by rw [Hwb.out]; simp))) Hsl.out x
          exact ⟨j + 1, c3, rg.set s x, by go_num, T.out, St.out.trans s3, r3, by rw [Hs.out]; exact F.out.put hsh Hrl.out Hx.out⟩
        case measure => have := T.out; simp [intOf]; omega
    · have t1 : decide ((j : Int) < (n : Int)) = false := by simp; omega
      obtain rfl : j = n := by omega
      have R := Lib.hid hrg
      have hsh := R.out.1
      have hw := wrap_two_pow sh hsh
      have hd := R.out.2.2
      obtain ⟨g, gcap, hb, -⟩ := hd
      have c0 := hb.cell 0
      simp at c0
      clear hb st hrg hf hj hlt
      rcases (show ((j : Int) ≤ 2 ^ sh ∧ (j : Int) = m) ∨ (¬ (j : Int) ≤ 2 ^ sh ∧ (2 : Int) ^ sh = m) by
        by_cases h : (j : Int) ≤ 2 ^ sh
        · refine .inl ⟨h, ?_⟩
          rw [← hm]
          split <;> omega
        · exact .inr ⟨h, by rw [← hm, if_neg (by omega)]⟩) with ⟨q, q1⟩ | ⟨q, q1⟩
      all_goals
        clear hm
        go_wp2_with fail
        refine (slots_k sh hsh _).mono ?_
        rintro e w9 ⟨rfl, rfl⟩
        have A := (Stp.refl (· = k) c2 wr).alloc (.cells #[.int .i64 sh] 24) 0
        have S9 := Lib.hid (St.out.trans A)
        have R9 := Lib.hid (R.out.stp ((Stp.refl (fun _ => False) c2 wr).alloc (.cells #[.int .i64 sh] 24) 0) id)
        clear A
        go_wp2
        try simp only [q1]
        exact bodyPost_ret (v := .tuple #[.int .i64 m, .nilIface]) (by simp [results, Tryd.results40, go_sem]) rfl (by first | exact ⟨rfl, _, S9.out, rg, R9.out, F.out⟩ | exact ⟨rfl, _, rg, S9.out, R9.out, F.out⟩)
end Go.Proofs.YteicmmgpkhmlbaaDoor
