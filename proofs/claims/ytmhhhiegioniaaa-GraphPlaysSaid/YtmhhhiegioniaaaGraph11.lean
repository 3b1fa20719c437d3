/- Add, Link, Drop of any graph and any arguments: what each answers, and the graph behind it. No condition beyond each contract's own. -/
import Derived.Test.YtmhhhiegioniaaaGraph10
namespace Go.Proofs.Ytmhhhiegioniaaa
open Go.RowKit Go.Deep

/-- A graph, in plain words. -/
abbrev GS := List (List Nat) × List Bool

def addN (S : GS) (l : List Int) : Int := if 64 ≤ S.1.length then 8 else addEr S.2 [] l
def addS (S : GS) (l : List Int) : GS := if addN S l = 0 then (S.1 ++ [l.map Int.toNat], S.2 ++ [false]) else S
open Classical in
noncomputable def linkN (S : GS) (x y : Int) : Int :=
  if hasB S.2 x = false ∨ hasB S.2 y = false then 3 else if x = y ∨ Reaches S.1 y.toNat x.toNat then 16 else if y.toNat ∈ S.1.getD x.toNat [] then 4 else 0
noncomputable def linkS (S : GS) (x y : Int) : GS := if linkN S x y = 0 then (S.1.set x.toNat (S.1.getD x.toNat [] ++ [y.toNat]), S.2) else S
def dropN (S : GS) (x : Int) : Int := if hasB S.2 x = false then 3 else if behindL S.1 x.toNat = [] then 0 else 18
def dropS (S : GS) (x : Int) : GS := if dropN S x = 0 then (S.1.set x.toNat [], S.2.set x.toNat true) else S

def GoodS (S : GS) : Prop := Good S.1 S.2

theorem addN_zero {S : GS} {l : List Int} (h : addN S l = 0) : S.1.length < 64 ∧ addEr S.2 [] l = 0 := by
  rw [addN] at h
  split at h
  · cases h
  · exact ⟨by omega, h⟩

theorem addN_ne {S : GS} (l : List Int) (h : S.1.length < 64) : addN S l = addEr S.2 [] l := by rw [addN, if_neg (by omega)]

theorem GoodS.add {S : GS} (h : GoodS S) (l : List Int) : GoodS (addS S l) := by
  rw [addS]
  split
  · next hz =>
    obtain ⟨h1, h2⟩ := addN_zero hz
    obtain ⟨h3, h4, h5⟩ := addEr_ok l [] List.nodup_nil h2
    refine Good.add h h1 (fun y hy => ?_) (by simpa using h4)
    refine h3 _ ?_
    rw [h5]
    exact ints_mem.2 hy
  · exact h

theorem linkN_cases (S : GS) (x y : Int) : (linkN S x y = 3 ∧ hasB S.2 x = false) ∨ (linkN S x y = 3 ∧ hasB S.2 x = true ∧ hasB S.2 y = false) ∨
    (hasB S.2 x = true ∧ hasB S.2 y = true ∧ ∃ a b : Nat, x = a ∧ y = b ∧ ((linkN S x y = 16 ∧ a = b) ∨ (linkN S x y = 16 ∧ a ≠ b ∧ Reaches S.1 b a) ∨ (linkN S x y = 4 ∧ a ≠ b ∧ ¬ Reaches S.1 b a ∧ b ∈ S.1.getD a []) ∨ (linkN S x y = 0 ∧ a ≠ b ∧ ¬ Reaches S.1 b a ∧ b ∉ S.1.getD a []))) := by
  by_cases hx : hasB S.2 x = false
  · exact .inl ⟨by rw [linkN, if_pos (.inl hx)], hx⟩
  · have hx' : hasB S.2 x = true := by simpa using hx
    by_cases hy : hasB S.2 y = false
    · exact .inr (.inl ⟨by rw [linkN, if_pos (.inr hy)], hx', hy⟩)
    · have hy' : hasB S.2 y = true := by simpa using hy
      have h1 := (hasB_lt hx').1
      have h2 := (hasB_lt hy').1
      refine .inr (.inr ⟨hx', hy', x.toNat, y.toNat, by omega, by omega, ?_⟩)
      have hn : ¬ (hasB S.2 x = false ∨ hasB S.2 y = false) := fun h => h.elim hx hy
      by_cases he : x = y
      · exact .inl ⟨by rw [linkN, if_neg hn, if_pos (.inl he)], by rw [he]⟩
      · by_cases hr : Reaches S.1 y.toNat x.toNat
        · exact .inr (.inl ⟨by rw [linkN, if_neg hn, if_pos (.inr hr)], by omega, hr⟩)
        · by_cases hm : y.toNat ∈ S.1.getD x.toNat []
          · exact .inr (.inr (.inl ⟨by rw [linkN, if_neg hn, if_neg (fun h => h.elim he hr), if_pos hm], by omega, hr, hm⟩))
          · exact .inr (.inr (.inr ⟨by rw [linkN, if_neg hn, if_neg (fun h => h.elim he hr), if_neg hm], by omega, hr, hm⟩))

theorem GoodS.link {S : GS} (h : GoodS S) (x y : Int) : GoodS (linkS S x y) := by
  rw [linkS]
  split
  · next hz =>
    rcases linkN_cases S x y with ⟨h1, _⟩ | ⟨h1, _⟩ | ⟨hx, hy, a, b, rfl, rfl, ⟨h1, _⟩ | ⟨h1, _⟩ | ⟨h1, _⟩ | ⟨_, hne, hr, hm⟩⟩
    · rw [h1] at hz; cases hz
    · rw [h1] at hz; cases hz
    · rw [h1] at hz; cases hz
    · rw [h1] at hz; cases hz
    · rw [h1] at hz; cases hz
    · rw [Int.toNat_natCast, Int.toNat_natCast]
      exact Good.link h hx hy hne hr hm
  · exact h

theorem dropN_cases (S : GS) (x : Int) : (dropN S x = 3 ∧ hasB S.2 x = false) ∨ (hasB S.2 x = true ∧ ∃ a : Nat, x = a ∧ ((dropN S x = 18 ∧ behindL S.1 a ≠ []) ∨ (dropN S x = 0 ∧ behindL S.1 a = []))) := by
  by_cases hx : hasB S.2 x = false
  · exact .inl ⟨by rw [dropN, if_pos hx], hx⟩
  · have hx' : hasB S.2 x = true := by simpa using hx
    have h1 := (hasB_lt hx').1
    refine .inr ⟨hx', x.toNat, by omega, ?_⟩
    by_cases hb : behindL S.1 x.toNat = []
    · exact .inr ⟨by rw [dropN, if_neg hx, if_pos hb], hb⟩
    · exact .inl ⟨by rw [dropN, if_neg hx, if_neg hb], hb⟩

theorem GoodS.drop {S : GS} (h : GoodS S) (x : Int) : GoodS (dropS S x) := by
  rw [dropS]
  split
  · next hz =>
    rcases dropN_cases S x with ⟨h1, _⟩ | ⟨hx, a, rfl, ⟨h1, _⟩ | ⟨_, hb⟩⟩
    · rw [h1] at hz; cases hz
    · rw [h1] at hz; cases hz
    · rw [Int.toNat_natCast]
      exact Good.drop h hx hb
  · exact h

def GrAt (c : Nat → Nat) (k : Nat) (w : World) (p : Nat) (S : GS) : Prop := GraphAt c k w p S.1 S.2
theorem GrAt.stp {J : Nat → Prop} {c c' : Nat → Nat} {k : Nat} {w w' : World} {p : Nat} {S : GS} (h : GrAt c k w p S) (s : Stp J c c' w w') (hJ : ∀ j, J j → ¬ GJ k j) : GrAt c' k w' p S := GraphAt.stp h s hJ

theorem stpF {J : Nat → Prop} {c c' : Nat → Nat} {w w' : World} (h : Stp (fun _ => False) c c' w w') : Stp J c c' w w' := h.mono (fun _ h => h.elim)

theorem gradd_all {c : Nat → Nat} {k : Nat} {w : World} {p : Nat} {S : GS} (h : GrAt c k w p S) {ka : Nat} {po : Option Addr} {pn pcap : Nat} {l : List Int} (hi : In c ka w 1 po pn pcap (l.map (Value.int .i64))) (hka : ¬ GJ k ka) (hpn : pn ≤ 1000) :
    Calls Try.prog 88 #[.pointer (some ⟨p, 0, none⟩), .slice po pn pcap] w fun e w' => ∃ (v : Int) (ev : Value), e = .returned (.tuple #[.int .i64 v, ev]) ∧ ∃ c', Stp (GJ k) c c' w w' ∧ GrAt c' k w' p (addS S l) ∧ Err c' w' ev (addN S l) ∧ (addN S l = 0 → v = S.1.length) ∧ (addN S l ≠ 0 → v = 0) := by
  by_cases hn : S.1.length < 64
  · refine (gradd_any h hn hi hka hpn).mono ?_
    rintro e w' ⟨c', st, ⟨h1, rfl, h2⟩ | ⟨h1, ev, rfl, h2, h3⟩⟩
    · have hz : addN S l = 0 := by rw [addN_ne l hn]; exact h1
      refine ⟨_, _, rfl, c', st, ?_, by rw [hz]; exact Err.nil _ _, fun _ => rfl, fun h => absurd hz h⟩
      rw [addS, if_pos hz]
      exact h2
    · have hz : addN S l = addEr S.2 [] l := addN_ne l hn
      refine ⟨_, _, rfl, c', st, ?_, by rw [hz]; exact h2.err h1, fun h => absurd (hz ▸ h) h1, fun _ => rfl⟩
      rw [addS, if_neg (by rw [hz]; exact h1)]
      exact h3
  · have hz : addN S l = 8 := by rw [addN, if_pos (by omega)]
    refine (gradd_many h (by omega) _).mono ?_
    rintro e w' ⟨ev, rfl, c', st, h2⟩
    refine ⟨_, _, rfl, c', stpF st, ?_, by rw [hz]; exact h2.err (by decide), fun h => absurd (hz ▸ h) (by decide), fun _ => rfl⟩
    rw [addS, if_neg (by rw [hz]; decide)]
    exact h.stp st (fun _ h => h.elim)

theorem linkS_ne {S : GS} {x y : Int} (h : linkN S x y ≠ 0) : linkS S x y = S := by rw [linkS, if_neg h]
theorem dropS_ne {S : GS} {x : Int} (h : dropN S x ≠ 0) : dropS S x = S := by rw [dropS, if_neg h]

theorem newErr_all {c : Nat → Nat} {k : Nat} {w : World} {p : Nat} {S S' : GS} (h : GrAt c k w p S) {n m : Int} (hS : S' = S) (hm : m = n) (hn : n ≠ 0) {e : Ending} {w' : World} (he : NewErr c w n e w') :
    ∃ ev, e = .returned ev ∧ ∃ c', Stp (GJ k) c c' w w' ∧ GrAt c' k w' p S' ∧ Err c' w' ev m := by
  obtain ⟨ev, rfl, c', st, h2⟩ := he
  subst hS hm
  exact ⟨ev, rfl, c', stpF st, h.stp st (fun _ h => h.elim), h2.err hn⟩

theorem grlink_all {c : Nat → Nat} {k : Nat} {w : World} {p : Nat} {S : GS} (h : GrAt c k w p S) (gd : GoodS S) (x y : Int) :
    Calls Try.prog 90 #[.pointer (some ⟨p, 0, none⟩), .int .i64 x, .int .i64 y] w fun e w' => ∃ ev, e = .returned ev ∧ ∃ c', Stp (GJ k) c c' w w' ∧ GrAt c' k w' p (linkS S x y) ∧ Err c' w' ev (linkN S x y) := by
  rcases linkN_cases S x y with ⟨h1, hx⟩ | ⟨h1, hx, hy⟩ | ⟨hx, hy, a, b, rfl, rfl, ⟨h1, h2⟩ | ⟨h1, h2, h3⟩ | ⟨h1, h2, h3, h4⟩ | ⟨h1, h2, h3, h4⟩⟩
  · exact (grlink_none1 h x y hx).mono fun e w' he => newErr_all h (linkS_ne (by rw [h1]; decide)) h1 (by decide) he
  · obtain ⟨a, rfl⟩ : ∃ a : Nat, x = a := ⟨x.toNat, by have := (hasB_lt hx).1; omega⟩
    exact (grlink_none2 h a y hx hy).mono fun e w' he => newErr_all h (linkS_ne (by rw [h1]; decide)) h1 (by decide) he
  · subst h2
    exact (grlink_self h a hx).mono fun e w' he => newErr_all h (linkS_ne (by rw [h1]; decide)) h1 (by decide) he
  · exact (grlink_ring h gd a b hx hy h2 h3).mono fun e w' he => newErr_all h (linkS_ne (by rw [h1]; decide)) h1 (by decide) he
  · exact (grlink_there h gd a b hx hy h2 h3 h4).mono fun e w' he => newErr_all h (linkS_ne (by rw [h1]; decide)) h1 (by decide) he
  · refine (grlink_ok h gd a b hx hy h2 h3 h4).mono ?_
    rintro e w' ⟨rfl, c', st, hg⟩
    refine ⟨_, rfl, c', st, ?_, by rw [h1]; exact Err.nil _ _⟩
    rw [linkS, if_pos h1, Int.toNat_natCast, Int.toNat_natCast]
    exact hg

theorem grdrop_all {c : Nat → Nat} {k : Nat} {w : World} {p : Nat} {S : GS} (h : GrAt c k w p S) (x : Int) :
    Calls Try.prog 92 #[.pointer (some ⟨p, 0, none⟩), .int .i64 x] w fun e w' => ∃ ev, e = .returned ev ∧ ∃ c', Stp (GJ k) c c' w w' ∧ GrAt c' k w' p (dropS S x) ∧ Err c' w' ev (dropN S x) := by
  rcases dropN_cases S x with ⟨h1, hx⟩ | ⟨hx, a, rfl, ⟨h1, h2⟩ | ⟨h1, h2⟩⟩
  · exact (grdrop_none h x hx).mono fun e w' he => newErr_all h (dropS_ne (by rw [h1]; decide)) h1 (by decide) he
  · exact (grdrop_busy h a hx h2).mono fun e w' he => newErr_all h (dropS_ne (by rw [h1]; decide)) h1 (by decide) he
  · refine (grdrop_ok h a hx h2).mono ?_
    rintro e w' ⟨rfl, c', st, hg⟩
    refine ⟨_, rfl, c', st, ?_, by rw [h1]; exact Err.nil _ _⟩
    rw [dropS, if_pos h1, Int.toNat_natCast]
    exact hg

/-! ### Reads of any number -/

/-- The nodes ahead of any number. -/
noncomputable def reachI (S : GS) (x : Int) : List Nat := if hasB S.2 x = true then reachL S.1 x.toNat else []
def afterI (S : GS) (x : Int) : List Nat := if hasB S.2 x = true then S.1.getD x.toNat [] else []
def behindI (S : GS) (x : Int) : List Nat := if hasB S.2 x = true then behindL S.1 x.toNat else []
def depI (S : GS) (x : Int) : Nat := if hasB S.2 x = true then depN S.1 x.toNat else 0

theorem newInts_nil (c : Nat → Nat) (kr : Nat) (w : World) : NewInts c kr w [] (.returned (.slice none 0 0)) w := ⟨none, 0, rfl, c, Stp.refl _ _ _, Row.nil _ _ _ _ _⟩

theorem grreach_all {c : Nat → Nat} {k : Nat} {w : World} {p : Nat} {S : GS} (h : GrAt c k w p S) (gd : GoodS S) (x : Int) (kr : Nat) :
    Calls Try.prog 83 #[.pointer (some ⟨p, 0, none⟩), .int .i64 x] w (NewInts c kr w (reachI S x)) := by
  by_cases hx : hasB S.2 x = true
  · obtain ⟨a, rfl⟩ : ∃ a : Nat, x = a := ⟨x.toNat, by have := (hasB_lt hx).1; omega⟩
    rw [reachI, if_pos hx, Int.toNat_natCast]
    exact grreach_p h gd a hx kr
  · rw [reachI, if_neg hx]
    refine (grreach_no h x (by simpa using hx)).mono ?_
    rintro e w' ⟨rfl, rfl⟩
    exact newInts_nil c kr w

theorem grafter_all {c : Nat → Nat} {k : Nat} {w : World} {p : Nat} {S : GS} (h : GrAt c k w p S) (gd : GoodS S) (x : Int) (kr : Nat) :
    Calls Try.prog 85 #[.pointer (some ⟨p, 0, none⟩), .int .i64 x] w (NewInts c kr w (afterI S x)) := by
  by_cases hx : hasB S.2 x = true
  · obtain ⟨a, rfl⟩ : ∃ a : Nat, x = a := ⟨x.toNat, by have := (hasB_lt hx).1; omega⟩
    rw [afterI, if_pos hx, Int.toNat_natCast]
    exact grafter_any h a hx (by have := gd.small a; omega) kr
  · rw [afterI, if_neg hx]
    refine (grafter_no h x (by simpa using hx)).mono ?_
    rintro e w' ⟨rfl, rfl⟩
    exact newInts_nil c kr w

theorem grbehind_all {c : Nat → Nat} {k : Nat} {w : World} {p : Nat} {S : GS} (h : GrAt c k w p S) (x : Int) (kr : Nat) :
    Calls Try.prog 98 #[.pointer (some ⟨p, 0, none⟩), .int .i64 x] w (NewInts c kr w (behindI S x)) := by
  by_cases hx : hasB S.2 x = true
  · obtain ⟨a, rfl⟩ : ∃ a : Nat, x = a := ⟨x.toNat, by have := (hasB_lt hx).1; omega⟩
    rw [behindI, if_pos hx, Int.toNat_natCast]
    exact grbehind_p h a hx kr
  · rw [behindI, if_neg hx]
    refine (grbehind_no h x (by simpa using hx)).mono ?_
    rintro e w' ⟨rfl, rfl⟩
    exact newInts_nil c kr w

theorem grdepth_all {c : Nat → Nat} {k : Nat} {w : World} {p : Nat} {S : GS} (h : GrAt c k w p S) (gd : GoodS S) (x : Int) :
    Calls Try.prog 86 #[.pointer (some ⟨p, 0, none⟩), .int .i64 x] w fun e w' => e = .returned (.int .i64 (depI S x : Nat)) ∧ ∃ c', Stp (fun _ => False) c c' w w' := by
  by_cases hx : hasB S.2 x = true
  · obtain ⟨a, rfl⟩ : ∃ a : Nat, x = a := ⟨x.toNat, by have := (hasB_lt hx).1; omega⟩
    rw [depI, if_pos hx, Int.toNat_natCast]
    exact grdepth_p h gd a hx
  · rw [depI, if_neg hx]
    refine (grdepth_no h x (by simpa using hx)).mono ?_
    rintro e w' ⟨rfl, rfl⟩
    exact ⟨rfl, c, Stp.refl _ _ _⟩

theorem ghas_all {c : Nat → Nat} {k : Nat} {w : World} {p : Nat} {S : GS} (h : GrAt c k w p S) (x : Int) (b : Bool) (hb : hasB S.2 x = b) :
    Calls Try.prog 80 #[.pointer (some ⟨p, 0, none⟩), .int .i64 x] w fun e w' => e = .returned (.bool b) ∧ w = w' := by
  subst hb
  cases hx : hasB S.2 x
  · exact ghas_no h x hx
  · exact ghas_yes h x hx

theorem grlen_all {c : Nat → Nat} {k : Nat} {w : World} {p : Nat} {S : GS} (h : GrAt c k w p S) :
    Calls Try.prog 81 #[.pointer (some ⟨p, 0, none⟩)] w fun e w' => e = .returned (.int .i64 S.1.length) ∧ w = w' := grlen_any h

theorem grends_all {c : Nat → Nat} {k : Nat} {w : World} {p : Nat} {S : GS} (h : GrAt c k w p S) (kr : Nat) :
    Calls Try.prog 100 #[.pointer (some ⟨p, 0, none⟩)] w (NewInts c kr w ((List.range S.1.length).filter (endB S.1 S.2))) := grends_p h kr

theorem grorder_all {c : Nat → Nat} {k : Nat} {w : World} {p : Nat} {S : GS} (h : GrAt c k w p S) (gd : GoodS S) (kr : Nat) :
    Calls Try.prog 79 #[.pointer (some ⟨p, 0, none⟩)] w (NewInts c kr w (ordL S.1 S.2)) := grorder_p h gd kr
end Go.Proofs.Ytmhhhiegioniaaa
