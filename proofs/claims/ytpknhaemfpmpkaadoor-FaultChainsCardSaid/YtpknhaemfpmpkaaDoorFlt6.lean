/- The law's own functions: small, chain. No condition beyond each lemma's own. -/
import Derived.Test.YtpknhaemfpmpkaaDoorFlt5
import Derived.Test.YtpknhaemfpmpkaaDoorMem6
namespace Go.Proofs.YtpknhaemfpmpkaaDoor
open Go.RowKit Go.Extern.Stop Go.Stop Go.Extern Go.Deep

/-- A link's cells. -/
def lk (x : ByteArray × Int) : List Value := [.string x.1, .int .i64 x.2]
theorem lk_len (x : ByteArray × Int) : (lk x).length = 2 := rfl

theorem In.old {c : Nat → Nat} {k : Nat} {w w' : World} {m : Nat} {ao : Option Addr} {n cap : Nat} {xs : List Value} (h : In c k w m ao n cap xs) (s : Old w w') : In c k w' m ao n cap xs := by
  obtain ⟨h1, h2, h3, h0, h4⟩ := h
  refine ⟨h1, h2, h3, h0, fun hn => ?_⟩
  obtain ⟨a, rfl, hc, hl, hx⟩ := h4 hn
  exact ⟨a, rfl, hc, Nat.lt_of_lt_of_le hl s.size, fun j u hu => (World.cell?_of_block (by rw [add_block]; exact s.block _ hl)).trans (hx j u hu)⟩

theorem small_c {w : World} {ao : Option Addr} {n cap : Nat} {l : List (ByteArray × Int)} (h : In (fun _ => 0) 0 w 2 ao n cap (l.flatMap lk)) (hln : l.length = n) :
    Calls Tryd.prog 6 #[.slice ao n cap] w fun e w' => ∃ k, e = .returned (.bool k) ∧ (k = true → n ≤ 50 ∧ ∀ x ∈ l, x.1.size ≤ 100) ∧ Old w w' := by
  have H := Lib.hid h
  have Hn := Lib.hid hln
  have hcap : n ≤ 9223372036854775807 := by have h1 := h.2.1; have h2 := h.2.2.1; simp only [maxLen] at h2; omega
  clear h hln
  by_cases h50 : n ≤ 50
  · have g0 : decide ((50 : Int) < n) = false := by simp; omega
    go_enter Tryd.func6, Tryd.ntmps6
    go_wp2
    go_loopg [10] n (fun gh i wr => ∃ j : Nat, i = .int .i64 j ∧ j + gh = n ∧ Hid (∀ x ∈ l.take j, x.1.size ≤ 100) ∧ Hid (Old w wr))
    case atStart => exact ⟨0, rfl, by omega, Lib.hid (by simp), Lib.hid (Old.refl _)⟩
    case round =>
      obtain ⟨j, rfl, hj, Hs, Ho⟩ := hrel
      by_cases hlt : j < n
      · obtain ⟨y, hy⟩ : ∃ y, l[j]? = some y := ⟨_, List.getElem?_eq_getElem (by rw [Hn.out]; exact hlt)⟩
        obtain ⟨a, ha, y0⟩ := (H.out.old Ho.out).field lk_len hy (f := 0) (v := .string y.1) rfl
        obtain ⟨a1, ha1, y1⟩ := (H.out.old Ho.out).field lk_len hy (f := 1) (v := .int .i64 y.2) rfl
        subst ha
        cases ha1
        have y1' : wr.cell? ⟨(a.add (j * 2)).block, (a.add (j * 2)).off + 1, none⟩ = some (.int .i64 y.2) := by rw [← add_add'] at y1; exact y1
        rw [Nat.add_zero] at y0
        have Hy := Lib.hid hy
        clear y1 hy
        obtain ⟨o, s⟩ := y
        simp only at y0 y1'
        by_cases hz : o.size ≤ 100
        · have g1 : decide ((100 : Int) < o.size) = false := by simp; omega
          go_wp2
          go_roundg (gk - 1)
          case rel => exact ⟨j + 1, by go_num, by omega, Lib.hid (fun x hx => by
            rw [List.take_add_one, Hy.out] at hx
            rcases List.mem_append.1 hx with hx | hx
            · exact Hs.out x hx
            · simp at hx; subst hx; exact hz), Lib.hid (Ho.out.alloc _)⟩
          case measure => omega
        · have g1 : decide ((100 : Int) < o.size) = true := by simp; omega
          go_wp2
          go_ret
          exact ⟨false, rfl, (fun h => by cases h), Ho.out.alloc _⟩
      · have hjn : j = n := by omega
        go_wp2
        go_ret
        exact ⟨true, rfl, fun _ => ⟨h50, fun x hx => Hs.out x (by rw [List.take_of_length_le (by rw [Hn.out, hjn]; exact Nat.le_refl _)]; exact hx)⟩, Ho.out⟩
  · have g0 : decide ((50 : Int) < n) = true := by simp; omega
    go_enter Tryd.func6, Tryd.ntmps6
    go_wp2
    go_ret
    exact ⟨false, rfl, (fun h => by cases h), Old.refl _⟩

theorem chain_c {w : World} {ao : Option Addr} {n cap : Nat} {l : List (ByteArray × Int)} (h : In (fun _ => 0) 0 w 2 ao n cap (l.flatMap lk)) (hln : l.length = n) (hn : n ≤ 50) (k : Int) :
    Calls Tryd.prog 8 #[.slice ao n cap, .int .i64 k] w fun e w' => ∃ v, e = .returned v ∧ Ch w' l k v ∧ Old w w' := by
  have H := Lib.hid h
  have Hn := Lib.hid hln
  have w0 : wrap64 ((n : Int) - 1) = (n : Int) - 1 := IntWalk.wrap64_in _ ⟨by omega, by omega⟩
  clear h hln
  go_enter Tryd.func8, Tryd.ntmps8
  go_wp2
  go_loopg [5, 6] n (fun gh v i wr => i = .int .i64 ((gh : Int) - 1) ∧ gh ≤ n ∧ Hid (Ch wr (l.drop gh) k v) ∧ Hid (Old w wr))
  case atStart => exact ⟨rfl, Nat.le_refl _, Lib.hid (by rw [← Hn.out, List.drop_length]; exact rfl), Lib.hid (Old.refl _)⟩
  case round =>
    obtain ⟨hi, hg, Hc, Ho⟩ := hrel
    subst hi
    obtain ⟨vt, vu, e⟩ := Hc.out.iface
    subst e
    match gk, hg, Hc with
    | 0, hg, Hc =>
      have g0 : decide ((0 : Int) ≤ ((0 : Nat) : Int) - 1) = false := by decide
      go_wp2
      go_ret
      exact ⟨_, rfl, by simpa using Hc.out, Ho.out⟩
    | j + 1, hg, Hc =>
      have e : ((j + 1 : Nat) : Int) - 1 = (j : Int) := by omega
      rw [e]
      have hlt : j < n := by omega
      have hjl : j < l.length := by rw [Hn.out]; exact hlt
      obtain ⟨y, hy⟩ : ∃ y, l[j]? = some y := ⟨_, List.getElem?_eq_getElem hjl⟩
      obtain ⟨a, ha, y0⟩ := (H.out.old Ho.out).field lk_len hy (f := 0) (v := .string y.1) rfl
      obtain ⟨a1, ha1, y1⟩ := (H.out.old Ho.out).field lk_len hy (f := 1) (v := .int .i64 y.2) rfl
      subst ha
      cases ha1
      have y1' : wr.cell? ⟨(a.add (j * 2)).block, (a.add (j * 2)).off + 1, none⟩ = some (.int .i64 y.2) := by rw [← add_add'] at y1; exact y1
      rw [Nat.add_zero] at y0
      have Hy := Lib.hid (show l.drop j = y :: l.drop (j + 1) by rw [List.drop_eq_getElem_cons hjl]; congr 1; rw [List.getElem?_eq_getElem hjl] at hy; exact Option.some.inj hy)
      clear y1 hy
      obtain ⟨o, s⟩ := y
      simp only at y0 y1'
      have g0 : decide ((0 : Int) ≤ (j : Int)) = true := by simp
      have i1 : (0 : Int) ≤ (j : Int) := by omega
      have i2 : (j : Int) < (n : Int) := by omega
      have w1 : wrap64 ((j : Int) - 1) = (j : Int) - 1 := IntWalk.wrap64_in _ ⟨by omega, by omega⟩
      clear e hjl
      go_wp2
      go_region_with ((go_at_call 9; refine (wrap_c _ _ _ _ _).mono ?_; rintro e w2 ⟨rfl, rfl⟩))
      · go_wp2
        go_roundg j
        case rel => exact ⟨rfl, by omega, Lib.hid (by rw [Hy.out]; exact (Hc.out.wrap o s).old (Old.refl _).drew), Lib.hid (Ho.out.alloc _).drew⟩
        case measure => omega
      · go_wp2
        go_roundg j
        case rel => exact ⟨rfl, by omega, Lib.hid (by rw [Hy.out]; exact (Hc.out.wrap o s).old (Old.refl _).drew), Lib.hid (Ho.out.alloc _).drew⟩
        case measure => omega
end Go.Proofs.YtpknhaemfpmpkaaDoor
