/- Contracts of Who of the gate's Group, and of Step of a scan that goes on. No condition beyond each contract's own. -/
import Derived.Test.YtmhhhiegioniaaaGate2
namespace Go.Proofs.Ytmhhhiegioniaaa
open Go.RowKit

def WhoRel (c : Nat → Nat) (ka kw : Nat) (w : World) (q : Nat) (la : List Int) (s : Int) (l : List Int) (least : Int) (v i : Value) (wr : World) : Prop :=
  ∃ (c' : Nat → Nat) (j : Nat) (ao : Option Addr) (cap : Nat) (out : List Int), i = .int .i64 j ∧ j ≤ l.length ∧ v = .slice ao out.length cap ∧ out = (l.take j).filter (fun x => valAt la x == least) ∧
    Stp (fun k => k = ka ∨ k = kw) c c' w wr ∧ ArenaAt c' ka wr q la (s + j) ∧ Row c' kw wr 3 1 ao out.length cap (out.map (Value.int .i64))

theorem gwho_ok {c : Nat → Nat} {kg ka : Nat} {w : World} {p q : Nat} {l la : List Int} {s : Int} (kw : Nat) (hg : GroupAt c kg w p l) (ha : ArenaAt c ka w q la s) (hne : kg ≠ ka) (hnw : kg ≠ kw) (haw : ka ≠ kw) (hid : ∀ x ∈ l, 0 ≤ x ∧ x < la.length) (s0 : 0 ≤ s) (s1 : s + 2 * l.length < 4611686018427387904) (hl : (l.length : Int) ≤ 1048576) (least : Int) (hleast : least = (l.map (valAt la)).foldl min 9223372036854775807) :
    Calls Try.prog 38 #[.pointer (some ⟨p, 0, none⟩), .pointer (some ⟨q, 0, none⟩)] w fun e w' => ∃ ao cap, e = .returned (.tuple #[.slice ao (l.filter (fun x => valAt la x == least)).length cap, .nilIface]) ∧ ∃ c', Stp (fun k => k = ka ∨ k = kw) c c' w w' ∧ ArenaAt c' ka w' q la (s + 2 * l.length) ∧ Row c' kw w' 3 1 ao (l.filter (fun x => valAt la x == least)).length cap ((l.filter (fun x => valAt la x == least)).map (Value.int .i64)) := by
  have Ha := Lib.hid ha
  have Hg := Lib.hid hg
  have Hid' := Lib.hid hid
  have Hs := Lib.hid s1
  have HL := Lib.hid hleast
  clear ha hid s1 hg hleast
  go_enter Try.func38, Try.ntmps38
  go_wp2_with fail
  refine (gleast_ok Hg.out Ha.out hne Hid'.out s0 (by have := Hs.out; omega) 9223372036854775807).mono ?_
  rintro e w1 ⟨rfl, c1, st1, h1⟩
  rw [← HL.out]
  have S1 := Lib.hid (st1.mono (J' := fun k => k = ka ∨ k = kw) (fun _ h => .inl h))
  have G1 := Hg.out.stp st1 hne
  have H1 := Lib.hid h1
  obtain ⟨ao, cap, hb, hr⟩ := G1
  have c0 := hb.cell 0
  simp at c0
  have Hr := Lib.hid hr
  have hml : l.length ≤ 9223372036854775807 := by have h1 := hr.2.1; have h2 := hr.2.2.1; simp only [maxLen] at h2; omega
  clear hb hr st1 h1
  go_wp2
  go_loopw [8, 27] (fun v i wr => WhoRel c1 ka kw w1 q la (s + l.length) l least v i wr) (fun _ i _ => l.length - (intOf i).toNat)
  case atStart => exact ⟨c1, 0, none, 0, [], rfl, Nat.zero_le _, rfl, by simp, Stp.refl _ _ _, by simpa using H1.out, Row.nil _ _ _ _ _⟩
  case round =>
    obtain ⟨c', j, ao2, cap2, out, rfl, hj, rfl, hout, st, hat, hrow⟩ := hrel
    have St := Lib.hid st
    have Hat := Lib.hid hat
    have Hrow := Lib.hid hrow
    have Hout := Lib.hid hout
    have hol : out.length ≤ j := by
      rw [hout]
      exact Nat.le_trans (List.length_filter_le _ _) (by rw [List.length_take]; omega)
    have Hol := Lib.hid hol
    clear st hat hrow hout hol H1
    by_cases hlt : j < l.length
    · obtain ⟨a, hao, hc⟩ := (Hr.out.toIn.stp St.out (by rintro (h | h); exact hne h; exact hnw h)).ints hlt
      subst hao
      have hm : l.getD j 0 ∈ l := by simp [List.getD, hlt]
      obtain ⟨t, ht⟩ := Int.eq_ofNat_of_zero_le (Hid'.out _ hm).1
      have htl : t < la.length := by have := (Hid'.out _ hm).2; omega
      have Hf := Lib.hid (show (l.take (j + 1)).filter (fun x => valAt la x == least) = out ++ (if valAt la (l.getD j 0) == least then [l.getD j 0] else []) by
        rw [List.take_succ_eq_append_getElem hlt, List.filter_append, ← Hout.out]
        simp [List.getD, hlt, List.filter_cons])
      rw [ht] at hc
      have Hv := Lib.hid (show valAt la (l.getD j 0) = la.getD t 0 by rw [ht]; rfl)
      have Ht := Lib.hid ht
      clear hm ht
      go_wp2_with fail
      refine (load_ok Hat.out t htl (by omega) (by have := Hs.out; omega)).mono ?_
      rintro e w2 ⟨rfl, c2, s2, h2⟩
      have S2 := Lib.hid (St.out.trans (s2.mono (fun _ h => .inl h)))
      have H2 := Lib.hid h2
      have R2 := Lib.hid (Hrow.out.stp s2 (fun h => haw h.symm))
      clear s2 h2
      generalize la.getD t 0 = y at *
      by_cases hy : y = least
      · have t1 : (y == least) = true := by simpa using hy
        have Hy := Lib.hid hy
        clear hy
        have hol2 := Hol.out
        go_wp2_with (at_builtin; refine wpList_append_row _ rfl (.tmp 40) (.tmp 42) 40 rfl _ kw 3 (.int .i64 0) 1 8 Try.underlying40 Try.infoInt rfl ao2 out.length cap2 (out.map (Value.int .i64)) rfl (R2.out.alloc _ kw) _ 1 [.int .i64 (t : Int)] rfl (Src.one _ _ _) ?d1 ?d2 ?d3 ?_)
        case d1 => simp [Value.oneCell']
        case d2 => unfold maxLen; omega
        case d3 => omega
        intro ao3 cap3 w3 hr3 st3 ot3
        have A3 := Lib.hid (((H2.out.stp ((Stp.refl (fun _ => False) c2 w2).alloc (.cells #[.int .i64 (t : Int)] 3) kw) id)).stp st3 haw)
        have S3 := Lib.hid ((S2.out.trans ((Stp.refl _ c2 w2).alloc (.cells #[.int .i64 (t : Int)] 3) kw)).trans (st3.mono (fun _ h => .inr h)))
        have R3 := Lib.hid hr3
        clear hr3 st3 ot3
        go_wp2
        go_roundw
        case rel => exact ⟨_, j + 1, ao3, cap3, out ++ [l.getD j 0], by go_num, by omega, by simp, by rw [Hf.out, Hv.out, Hy.out]; simp, S3.out, by have := A3.out; rw [Int.add_assoc] at this; exact this, by rw [Ht.out]; simpa using R3.out⟩
        case measure => simp [intOf]; omega
      · have t1 : (y == least) = false := by simpa using hy
        have Hy := Lib.hid t1
        clear hy
        go_wp2
        go_roundw
        case rel => exact ⟨c2, j + 1, ao2, cap2, out, by go_num, by omega, rfl, by rw [Hf.out, Hv.out, Hy.out]; simp, S2.out, by have := H2.out; rw [Int.add_assoc] at this; exact this, R2.out⟩
        case measure => simp [intOf]; omega
    · have hjn : j = l.length := by omega
      have Hj := Lib.hid hjn
      clear hjn
      have hfin : out = l.filter (fun x => valAt la x == least) := by rw [Hout.out, Hj.out, List.take_length]
      subst hfin
      go_wp2
      go_ret2
      refine ⟨ao2, cap2, rfl, c', S1.out.trans St.out, ?_, Hrow.out⟩
      have := Hat.out
      rw [Hj.out, Int.add_assoc, show (l.length : Int) + l.length = 2 * l.length by omega] at this
      exact this

theorem scstep_ok {c : Nat → Nat} {k ka : Nat} {w : World} {q : Nat} {ao : Option Addr} {n cap : Nat} {x : Int} {r la : List Int} {s : Int} (h : In c k w 1 ao n cap ((x :: r).map (Value.int .i64))) (ha : ArenaAt c ka w q la s) (hne : k ≠ ka) (hx : 0 ≤ x ∧ x < la.length) (s0 : 0 ≤ s) (s1 : s < 4611686018427387904) (m : Int) :
    Calls Try.prog 42 #[.agg #[.slice ao n cap, .int .i64 m], .pointer (some ⟨q, 0, none⟩)] w fun e w' => ∃ ao' cap', e = .returned (.tuple #[.agg #[.slice ao' (n - 1) cap', .int .i64 (min m (valAt la x))], .nilIface]) ∧ ∃ c', Stp (· = ka) c c' w w' ∧ ArenaAt c' ka w' q la (s + 1) ∧ In c' k w' 1 ao' (n - 1) cap' (r.map (Value.int .i64)) := by
  have hn : 0 < n := by have := h.1; simp at this; omega
  have hn0 : ((n : Int) == 0) = false := by simp; omega
  obtain ⟨a, hao, hc⟩ := h.ints hn
  obtain ⟨_, ha', hck, hal, _⟩ := h.2.2.2.2 hn
  subst hao
  cases ha'
  simp [Addr.add] at hc
  obtain ⟨t, ht⟩ := Int.eq_ofNat_of_zero_le hx.1
  have htl : t < la.length := by omega
  have hA : ∀ o1 o2 o3 : Obj, (((w.alloc o1).alloc o2).alloc o3).cell? a = some (.int .i64 (t : Int)) := fun o1 o2 o3 => by
    rw [World.cell?_alloc_lt _ _ _ (by simp; omega), World.cell?_alloc_lt _ _ _ (by simp; omega), World.cell?_alloc_lt _ _ _ hal, hc, ht]
  obtain ⟨c3, st3, B0, B1⟩ := three_boxes c (ka + 1) w [.slice (some a) n cap, .int .i64 m] [.slice none 0 0, .int .i64 0] [.slice (some a) n cap, .int .i64 m] 55
  have S3 := Lib.hid st3
  have Ha := Lib.hid (ha.stp st3 id)
  have HB0 := Lib.hid B0
  have HB1 := Lib.hid B1
  have hv : valAt la x = la.getD t 0 := by rw [ht]; rfl
  have Hv := Lib.hid hv
  have Hin := Lib.hid (h.drop (q := 1) (by omega))
  have Hcap := Lib.hid h.2.1
  clear h ha hx hc st3 B0 B1 hv ht
  go_enter Try.func42, Try.ntmps42
  go_wp2_with (go_at_call 40; refine (scdone _ _ _ _ _).mono ?_; rintro e w' ⟨rfl, rfl⟩)
  refine (load_ok Ha.out t htl s0 s1).mono ?_
  rintro e w2 ⟨rfl, c2, s2, h2⟩
  have B0 := HB0.out.stp s2 (by omega)
  have B1 := HB1.out.stp s2 (by omega)
  have d0 := B0.cell 0
  have d1 := B0.cell 1
  have e0 := B1.cell 0
  have e1 := B1.cell 1
  have f0 := B1.free 0
  have f1 := B1.free 1
  simp at d0 d1 e0 e1
  have hlt := B1.lt
  have S := Lib.hid ((S3.out.mono (fun _ h => h.elim)).trans s2)
  have H2 := Lib.hid h2
  have X1 := Lib.hid B1
  generalize la.getD t 0 = v at *
  clear B0 B1 HB0 HB1 s2 h2
  go_wp2
  have hcap := Hcap.out
  have i1 : (1 : Int) ≤ (n : Int) := by omega
  have i2 : (n : Int) ≤ (cap : Int) := by omega
  obtain ⟨mm, hmm⟩ : ∃ mm : Int, (if v < m then v else m) = mm := ⟨_, rfl⟩
  have Hmm : Hid (min m (valAt la x) = mm) := Lib.hid (by rw [Hv.out, ← hmm]; split <;> omega)
  by_cases hc1 : cap = 1
  · subst hc1
    obtain rfl : n = 1 := by omega
    go_region
    go_wp2
    have T : Stp (· = ka + 1) c2 c2 w2 _ := (((Stp.refl (· = ka + 1) c2 w2).setCell (p := ⟨w.heap.size + 1, 0, none⟩) (.slice (some a) 0 0) X1.out.1).setCell (p := ⟨w.heap.size + 1, 1, none⟩) (.int .i64 mm) X1.out.1).drew
    refine bodyPost_ret (v := .tuple #[.agg #[.slice (some a) 0 0, .int .i64 mm], .nilIface]) (by simp [results, Try.results42, go_sem, e0, e1]) rfl ⟨some a, 0, by rw [Hmm.out], c2, ((S.out.setNew _ (by simp)).setNew _ (by simp)).drew, H2.out.stp T (by omega), ?_⟩
    have := Hin.out.stp (((S.out.setNew (p := ⟨w.heap.size + 1, 0, none⟩) (.slice (some a) 0 0) (by simp)).setNew (p := ⟨w.heap.size + 1, 1, none⟩) (.int .i64 mm) (by simp)).drew) hne
    simpa using this
  · have hc2 : (1 : Int) < (cap : Int) := by omega
    go_region
    go_wp2
    have T : Stp (· = ka + 1) c2 c2 w2 _ := (((Stp.refl (· = ka + 1) c2 w2).setCell (p := ⟨w.heap.size + 1, 0, none⟩) (.slice (some (a.add 1)) (n - 1) (cap - 1)) X1.out.1).setCell (p := ⟨w.heap.size + 1, 1, none⟩) (.int .i64 mm) X1.out.1).drew
    refine bodyPost_ret (v := .tuple #[.agg #[.slice (some (a.add 1)) (n - 1) (cap - 1), .int .i64 mm], .nilIface]) (by simp [results, Try.results42, go_sem, e0, e1]) rfl ⟨some (a.add 1), cap - 1, by rw [Hmm.out], c2, ((S.out.setNew _ (by simp)).setNew _ (by simp)).drew, H2.out.stp T (by omega), ?_⟩
    have := Hin.out.stp (((S.out.setNew (p := ⟨w.heap.size + 1, 0, none⟩) (.slice (some (a.add 1)) (n - 1) (cap - 1)) (by simp)).setNew (p := ⟨w.heap.size + 1, 1, none⟩) (.int .i64 mm) (by simp)).drew) hne
    simpa [hc1, Addr.add] using this
end Go.Proofs.Ytmhhhiegioniaaa
