/- errors.Is, fault.Is, Grave of a chain of faults around a number, and of no error. No condition beyond each lemma's own, and that errors.errorType holds what the program lays there. -/
import Derived.Test.YtpknhaemfpmpkaaDoorFlt6
import Derived.Test.YtpknhaemfpmpkaaDoorFErrs
namespace Go.Proofs.YtpknhaemfpmpkaaDoor
open Go.RowKit Go.Extern.Stop Go.Stop Go.Extern Go.Deep

theorem eris_chain (L : List (ByteArray × Int)) (n m : Int) (v : Value) (w : World) (hc : Ch w L n v) :
    Calls Tryd.prog 32 #[v, .iface 37 (.int .i64 m), .bool true] w fun e w' => e = .returned (.bool (n == m)) ∧ w' = w := by
  obtain ⟨i, hi, hcmp⟩ := Option.map_eq_some_iff.1 Tryd.isComp
  have nE := Tryd.noIsE
  have uE := Tryd.noUnwrapE
  have vE := Tryd.noUnwrapsE
  have nF := Tryd.noIsF
  have uF := Tryd.hasUnwrapF
  have mU := Tryd.methodUnwrap
  have heq := eql_iface_int (P := Tryd.prog) w n m Tryd.underlying26 Tryd.underlying37 hi hcmp
  have hty := fun b => run_eql_iface_types (P := Tryd.prog) 29 37 (.pointer (some ⟨b, 0, none⟩)) (.int .i64 m) Tryd.underlying26 (by decide) w
  have Hc := Lib.hid hc
  clear hc
  by_cases hnm : n = m
  · have e1 : (n == m) = true := by simpa using hnm
    rw [e1] at heq ⊢
    clear e1 hnm
    go_enter Tryd.func32, Tryd.ntmps32
    go_wp2
    go_loopg [0] L.length (fun gh v wr => wr = w ∧ ∃ L', L'.length = gh ∧ Ch w L' n v)
    case atStart => exact ⟨rfl, L, rfl, Hc.out⟩
    case round =>
      obtain ⟨hw, L', hl, hc⟩ := hrel
      subst hw
      match L', hl, hc with
      | [], hl, hc =>
        have hv : _ = Value.iface 37 (.int .i64 n) := hc
        subst hv
        go_wp2
        go_ret
        exact ⟨rfl, rfl⟩
      | x :: L2, hl, hc =>
        obtain ⟨p, u, e, hp, hu⟩ := hc
        subst e
        obtain ⟨ut, uv, e⟩ := hu.iface
        subst e
        have Hu := Lib.hid hu
        have Hl := Lib.hid hl
        have hc2 : wr.cell? ⟨p, 2, none⟩ = some (.iface ut uv) := by simp [World.cell?, hp]
        have ht := hty p
        clear hu hl hp
        go_wp2
        go_roundg (gk - 1)
        case rel => exact ⟨rfl, L2, by have := Hl.out; simp at this; omega, Hu.out⟩
        case measure => have := Hl.out; simp at this; omega
  · have e1 : (n == m) = false := by simpa using hnm
    rw [e1] at heq ⊢
    clear e1 hnm
    go_enter Tryd.func32, Tryd.ntmps32
    go_wp2
    go_loopg [0] L.length (fun gh v wr => wr = w ∧ ∃ L', L'.length = gh ∧ Ch w L' n v)
    case atStart => exact ⟨rfl, L, rfl, Hc.out⟩
    case round =>
      obtain ⟨hw, L', hl, hc⟩ := hrel
      subst hw
      match L', hl, hc with
      | [], hl, hc =>
        have hv : _ = Value.iface 37 (.int .i64 n) := hc
        subst hv
        go_wp2
        go_ret
        exact ⟨rfl, rfl⟩
      | x :: L2, hl, hc =>
        obtain ⟨p, u, e, hp, hu⟩ := hc
        subst e
        obtain ⟨ut, uv, e⟩ := hu.iface
        subst e
        have Hu := Lib.hid hu
        have Hl := Lib.hid hl
        have hc2 : wr.cell? ⟨p, 2, none⟩ = some (.iface ut uv) := by simp [World.cell?, hp]
        have ht := hty p
        clear hu hl hp
        go_wp2
        go_roundg (gk - 1)
        case rel => exact ⟨rfl, L2, by have := Hl.out; simp at this; omega, Hu.out⟩
        case measure => have := Hl.out; simp at this; omega

set_option maxRecDepth 100000 in
theorem is_chain (L : List (ByteArray × Int)) (n m : Int) (v : Value) (w : World) (hc : Ch w L n v) :
    Calls Tryd.prog 24 #[v, .iface 37 (.int .i64 m)] w fun e w' => e = .returned (.bool (n == m)) ∧ w' = w := by
  have tT := Tryd.isTypeOf
  have cT := Tryd.isComparable
  have mR := Tryd.isMethodComparable
  have Hc := Lib.hid hc
  obtain ⟨ut, uv, e⟩ := hc.iface
  subst e
  clear hc
  go_enter Tryd.func24, Tryd.ntmps24
  go_wp2_with fail
  refine (eris_chain L n m _ w Hc.out).mono ?_
  rintro e w2 ⟨rfl, rfl⟩
  go_wp2
  go_ret
  exact ⟨rfl, rfl⟩

theorem equalIn_nil {P : Program} (w : World) (d : Nat) {ti : TypeId} {ms : Array (String × TypeId)} (t : TypeId) (v : Value) (hi : P.underlying ti = some (.interface ms)) :
    (Op.equalIn (d + 1) ti .nilIface (.iface t v)).run P w = .ok false w := by
  simp [Op.equalIn, run_underlying hi]

theorem eql_nil {P : Program} (w : World) {ti : TypeId} {ms : Array (String × TypeId)} (t : TypeId) (v : Value) (hi : P.underlying ti = some (.interface ms)) :
    (binOp .eql ti .nilIface (.iface t v)).run P w = .ok (.bool false) w := by
  simp only [binOp]
  simp [Op.equal, Op.maxDepth, equalIn_nil w 9999 t v hi]

theorem is_nil (m : Int) (w : World) :
    Calls Tryd.prog 24 #[.nilIface, .iface 37 (.int .i64 m)] w fun e w' => e = .returned (.bool false) ∧ w' = w := by
  have hn := eql_nil (P := Tryd.prog) w 37 (.int .i64 m) Tryd.underlying26
  go_enter Tryd.func24, Tryd.ntmps24
  go_wp2
  go_ret
  exact ⟨rfl, rfl⟩

/-- Is one of some numbers this one? -/
def anyNum (l : List Int) (n : Int) : Bool := l.any fun m => n == m

theorem fis_chain (L : List (ByteArray × Int)) (n : Int) (v : Value) {c : Nat → Nat} {k : Nat} (w : World) {ao : Option Addr} {q cap : Nat} {l : List Int} (hc : Ch w L n v) (h : In c k w 1 ao q cap (l.map (Value.int .i64))) :
    Calls Tryd.prog 18 #[v, .slice ao q cap] w fun e w' => e = .returned (.bool (anyNum l n)) ∧ w' = w := by
  have Hc := Lib.hid hc
  have H := Lib.hid h
  have hl : l.length = q := by simpa using h.1
  have Hl := Lib.hid hl
  have hcap : q ≤ 9223372036854775807 := by have h1 := h.2.1; have h2 := h.2.2.1; simp only [maxLen] at h2; omega
  obtain ⟨ut, uv, e⟩ := hc.iface
  subst e
  clear hc h hl
  go_enter Tryd.func18, Tryd.ntmps18
  go_wp2
  go_loopg [9] q (fun gh i wr => wr = w ∧ ∃ j : Nat, i = .int .i64 j ∧ j + gh = q ∧ Hid (anyNum (l.take j) n = false))
  case atStart => exact ⟨rfl, 0, rfl, by omega, Lib.hid rfl⟩
  case round =>
    obtain ⟨hw, j, rfl, hj, Ha⟩ := hrel
    subst hw
    by_cases hlt : j < q
    · have hjl : j < l.length := by rw [Hl.out]; exact hlt
      obtain ⟨a, ha, y0⟩ := H.out.ints (j := j) hlt
      subst ha
      have hs := Lib.hid (show anyNum (l.take (j + 1)) n = (n == l.getD j 0) by
        have h0 := Ha.out
        rw [List.take_succ_eq_append_getElem hjl]
        unfold anyNum at h0 ⊢
        rw [List.any_append, h0]
        simp [List.getD, hjl])
      have ht := Lib.hid (show l = l.take (j + 1) ++ l.drop (j + 1) by simp)
      generalize l.getD j 0 = y at *
      go_wp2_with fail
      refine (is_chain L n y _ _ Hc.out).mono ?_
      rintro e w2 ⟨rfl, rfl⟩
      by_cases he : (n == y) = true
      · have He := Lib.hid he
        rw [he]
        clear he
        go_wp2
        go_ret
        refine ⟨?_, rfl⟩
        rw [ht.out]
        unfold anyNum
        rw [List.any_append]
        have h0 := hs.out
        unfold anyNum at h0
        rw [h0, He.out]
        rfl
      · have he' : (n == y) = false := by simpa using he
        have He := Lib.hid he'
        rw [he']
        clear he he'
        go_wp2
        go_roundg (gk - 1)
        case rel => exact ⟨rfl, j + 1, by go_num, by omega, Lib.hid (by rw [hs.out, He.out])⟩
        case measure => omega
    · have hjn : j = q := by omega
      have hx := Lib.hid (show anyNum l n = false by have := Ha.out; rwa [List.take_of_length_le (by rw [Hl.out, hjn]; exact Nat.le_refl _)] at this)
      go_wp2
      go_ret
      exact ⟨by rw [hx.out]; rfl, rfl⟩

theorem fis_nil {c : Nat → Nat} {k : Nat} (w : World) {ao : Option Addr} {q cap : Nat} {l : List Int} (h : In c k w 1 ao q cap (l.map (Value.int .i64))) :
    Calls Tryd.prog 18 #[.nilIface, .slice ao q cap] w fun e w' => e = .returned (.bool false) ∧ w' = w := by
  have H := Lib.hid h
  have hcap : q ≤ 9223372036854775807 := by have h1 := h.2.1; have h2 := h.2.2.1; simp only [maxLen] at h2; omega
  clear h
  go_enter Tryd.func18, Tryd.ntmps18
  go_wp2
  go_loopg [9] q (fun gh i wr => wr = w ∧ ∃ j : Nat, i = .int .i64 j ∧ j + gh = q)
  case atStart => exact ⟨rfl, 0, rfl, by omega⟩
  case round =>
    obtain ⟨hw, j, rfl, hj⟩ := hrel
    subst hw
    by_cases hlt : j < q
    · obtain ⟨a, ha, y0⟩ := H.out.ints (j := j) hlt
      subst ha
      generalize l.getD j 0 = y at *
      go_wp2_with fail
      refine (is_nil y _).mono ?_
      rintro e w2 ⟨rfl, rfl⟩
      go_wp2
      go_roundg (gk - 1)
      case rel => exact ⟨rfl, j + 1, by go_num, by omega⟩
      case measure => omega
    · go_wp2
      go_ret
      exact ⟨rfl, rfl⟩

/-- Is a number grave? -/
def grv (q : Int) : Bool := !(q == 0 || q == 10 || q == 11 || q == 12 || q == 14)

theorem grave_c (L : List (ByteArray × Int)) (n : Int) (v : Value) (w : World) (hc : Ch w L n v) (hg : ET w) :
    Calls Tryd.prog 19 #[v] w fun e w' => e = .returned (.bool (grv n)) ∧ Old w w' := by
  have Hc := Lib.hid hc
  have Hg := Lib.hid hg
  obtain ⟨ut, uv, e⟩ := hc.iface
  subst e
  clear hc hg
  have hx : (n = 0 ∨ n = 10 ∨ n = 11 ∨ n = 12 ∨ n = 14) ∨ ((n == 0) = false ∧ (n == 10) = false ∧ (n == 11) = false ∧ (n == 12) = false ∧ (n == 14) = false) := by
    simp only [beq_eq_false_iff_ne]; omega
  rcases hx with (hx | hx | hx | hx | hx) | ⟨x0, x1, x2, x3, x4⟩
  case inr =>
    have hgv : grv n = true := by simp [grv, x0, x1, x2, x3, x4]
    rw [hgv]
    clear hgv
    go_enter Tryd.func19, Tryd.ntmps19
    go_wp2_with fail
    refine (code_c L n _ w Hc.out Hg.out).mono ?_
    rintro e w2 ⟨rfl, o2⟩
    have O2 := Lib.hid o2
    clear o2
    go_wp2
    go_ret
    exact ⟨rfl, O2.out⟩
  all_goals
    subst hx
    go_enter Tryd.func19, Tryd.ntmps19
    go_wp2_with fail
    refine (code_c L _ _ w Hc.out Hg.out).mono ?_
    rintro e w2 ⟨rfl, o2⟩
    have O2 := Lib.hid o2
    clear o2
    go_wp2
    go_ret
    exact ⟨rfl, O2.out⟩

theorem code_nil (w : World) : Calls Tryd.prog 13 #[.nilIface] w fun e w' => e = .returned (.int .i64 0) ∧ Old w w' := by
  go_enter Tryd.func13, Tryd.ntmps13
  go_wp2
  go_ret
  exact ⟨rfl, (Old.refl w).alloc _⟩

theorem grave_nil (w : World) : Calls Tryd.prog 19 #[.nilIface] w fun e w' => e = .returned (.bool false) ∧ Old w w' := by
  go_enter Tryd.func19, Tryd.ntmps19
  go_wp2_with fail
  refine (code_nil _).mono ?_
  rintro e w2 ⟨rfl, o2⟩
  have O2 := Lib.hid o2
  clear o2
  go_wp2
  go_ret
  exact ⟨rfl, O2.out⟩

theorem deep_nil (w : World) : Calls Tryd.prog 14 #[.nilIface] w fun e w' => e = .returned (.int .i64 0) ∧ Old w w' := by
  go_enter Tryd.func14, Tryd.ntmps14
  go_wp2
  refine wp_loop_rounds 1 ?_
  rw [rounds_succ]
  go_wp2
  go_ret
  exact ⟨rfl, Old.refl w⟩
end Go.Proofs.YtpknhaemfpmpkaaDoor
