/- Graphs: what an object of the graph is, and the contracts of New, Has, Len. No condition beyond each contract's own. -/
import Derived.Test.YtmhhhiegioniaaaSlices
import Derived.Test.YtmhhhiegioniaaaMem5
namespace Go.Proofs.Ytmhhhiegioniaaa
open Go.RowKit

def ints (l : List Nat) : List Int := l.map (fun x : Nat => (x : Int))

theorem ints_mem {l : List Nat} {x : Nat} : (x : Int) ∈ ints l ↔ x ∈ l := by
  unfold ints
  rw [List.mem_map]
  constructor
  · rintro ⟨a, h, e⟩
    obtain rfl : a = x := by omega
    exact h
  · exact fun h => ⟨x, h, rfl⟩
theorem ints_len (l : List Nat) : (ints l).length = l.length := by simp [ints]
theorem ints_app (l r : List Nat) : ints (l ++ r) = ints l ++ ints r := by simp [ints]

/-- The colours of a graph: its struct, the outer slice, who is gone, each node's own list. -/
def GJ (k : Nat) (j : Nat) : Prop := k ≤ j ∧ j < k + 70

structure GraphIs (c : Nat → Nat) (k : Nat) (w : World) (p : Nat) (A : List (List Nat)) (G : List Bool) (vs : List Value) (n : Nat) (ao : Option Addr) (cap : Nat) (bo : Option Addr) (bcap : Nat) : Prop where
  hb : Blk c k w p [.slice ao n cap, .slice bo n bcap] 176
  ha : Row c (k + 1) w 40 1 ao n cap vs
  hg : Row c (k + 2) w 4 1 bo n bcap (G.map Value.bool)
  hv : ∀ i, i < n → ∃ oi ni ci, vs[i]? = some (.slice oi ni ci) ∧ Row c (k + 3 + i) w 3 1 oi ni ci ((ints (A.getD i [])).map (Value.int .i64))
  la : A.length = n
  lg : G.length = n
  le : n ≤ 64

def GraphAt (c : Nat → Nat) (k : Nat) (w : World) (p : Nat) (A : List (List Nat)) (G : List Bool) : Prop := ∃ vs n ao cap bo bcap, GraphIs c k w p A G vs n ao cap bo bcap

theorem GraphIs.stp {J : Nat → Prop} {c c' : Nat → Nat} {k : Nat} {w w' : World} {p : Nat} {A : List (List Nat)} {G : List Bool} {vs : List Value} {n : Nat} {ao : Option Addr} {cap : Nat} {bo : Option Addr} {bcap : Nat}
    (h : GraphIs c k w p A G vs n ao cap bo bcap) (s : Stp J c c' w w') (hJ : ∀ j, J j → ¬ GJ k j) : GraphIs c' k w' p A G vs n ao cap bo bcap :=
  ⟨h.hb.stp s (fun hh => hJ _ hh ⟨by omega, by omega⟩), h.ha.stp s (fun hh => hJ _ hh ⟨by omega, by omega⟩), h.hg.stp s (fun hh => hJ _ hh ⟨by omega, by omega⟩), fun i hi => by
    obtain ⟨oi, ni, ci, h1, h2⟩ := h.hv i hi
    exact ⟨oi, ni, ci, h1, h2.stp s (fun hh => hJ _ hh ⟨by omega, by have := h.le; omega⟩)⟩, h.la, h.lg, h.le⟩

theorem GraphAt.stp {J : Nat → Prop} {c c' : Nat → Nat} {k : Nat} {w w' : World} {p : Nat} {A : List (List Nat)} {G : List Bool} (h : GraphAt c k w p A G) (s : Stp J c c' w w') (hJ : ∀ j, J j → ¬ GJ k j) : GraphAt c' k w' p A G := by
  obtain ⟨vs, n, ao, cap, bo, bcap, h⟩ := h
  exact ⟨vs, n, ao, cap, bo, bcap, h.stp s hJ⟩

/-- A node's own list, read. -/
theorem GraphIs.node {c : Nat → Nat} {k : Nat} {w : World} {p : Nat} {A : List (List Nat)} {G : List Bool} {vs : List Value} {n : Nat} {ao : Option Addr} {cap : Nat} {bo : Option Addr} {bcap : Nat} (h : GraphIs c k w p A G vs n ao cap bo bcap) {i : Nat} (hi : i < n) :
    ∃ g off oi ci, ao = some ⟨g, off, none⟩ ∧ c g = k + 1 ∧ g < w.heap.size ∧ w.cell? ⟨g, off + i, none⟩ = some (.slice oi (A.getD i []).length ci) ∧ w.frozen? ⟨g, off + i, none⟩ = false ∧ Row c (k + 3 + i) w 3 1 oi (A.getD i []).length ci ((ints (A.getD i [])).map (Value.int .i64)) := by
  obtain ⟨oi, ni, ci, h1, h2⟩ := h.hv i hi
  obtain ⟨a, rfl, hs, hc, hf, ha, hcol⟩ := h.ha.cell h1
  obtain ⟨g, off, sp⟩ := a
  simp only at hs
  subst hs
  rw [ha] at hc hf
  have hni : ni = (A.getD i []).length := by have := h2.1; rw [List.length_map, ints_len] at this; omega
  subst hni
  obtain ⟨cur, hb, -⟩ := h.ha.2.2.2.2.2
  exact ⟨g, off, oi, ci, rfl, hcol, lt_of_block hb, hc, hf, h2⟩

/-- Whether a node is gone, read. -/
theorem GraphIs.bit {c : Nat → Nat} {k : Nat} {w : World} {p : Nat} {A : List (List Nat)} {G : List Bool} {vs : List Value} {n : Nat} {ao : Option Addr} {cap : Nat} {bo : Option Addr} {bcap : Nat} (h : GraphIs c k w p A G vs n ao cap bo bcap) {i : Nat} (hi : i < n) :
    ∃ g off, bo = some ⟨g, off, none⟩ ∧ c g = k + 2 ∧ g < w.heap.size ∧ w.cell? ⟨g, off + i, none⟩ = some (.bool (G.getD i true)) ∧ w.frozen? ⟨g, off + i, none⟩ = false := by
  have hlt : i < G.length := by rw [h.lg]; exact hi
  obtain ⟨a, rfl, hs, hc, hf, ha, hcol⟩ := h.hg.cell (j := i) (v := .bool (G.getD i true)) (by simp [List.getD, hlt])
  obtain ⟨g, off, sp⟩ := a
  simp only at hs
  subst hs
  rw [ha] at hc hf
  obtain ⟨cur, hb, -⟩ := h.hg.2.2.2.2.2
  exact ⟨g, off, rfl, hcol, lt_of_block hb, hc, hf⟩

/-- Is there such a node? -/
def hasB (G : List Bool) (x : Int) : Bool := decide (0 ≤ x) && !(G.getD x.toNat true)

theorem hasB_lt {G : List Bool} {x : Int} (h : hasB G x = true) : 0 ≤ x ∧ x.toNat < G.length ∧ G.getD x.toNat true = false := by
  simp only [hasB, Bool.and_eq_true, decide_eq_true_eq, Bool.not_eq_true'] at h
  refine ⟨h.1, ?_, h.2⟩
  by_cases hlt : x.toNat < G.length
  · exact hlt
  · have := h.2
    rw [List.getD_eq_getElem?_getD, List.getElem?_eq_none (by omega)] at this
    simp at this

theorem graph_new (c : Nat → Nat) (k : Nat) (w : World) :
    Calls Try.prog 87 #[] w fun e w' => e = .returned (.pointer (some ⟨w.heap.size, 0, none⟩)) ∧ ∃ c', Stp (fun _ => False) c c' w w' ∧ GraphAt c' k w' w.heap.size [] [] := by
  go_enter Try.func87, Try.ntmps87
  go_wp2
  go_ret
  exact ⟨rfl, _, (Stp.refl _ c w).alloc _ k, [], 0, none, 0, none, 0, Blk.new c k w _ _, Row.nil _ _ _ _ _, Row.nil _ _ _ _ _, fun i hi => absurd hi (by omega), rfl, rfl, by decide⟩

theorem ghas_nil (x : Int) (w : World) : Calls Try.prog 80 #[.pointer none, .int .i64 x] w fun e w' => e = .returned (.bool false) ∧ w = w' := by
  go_enter Try.func80, Try.ntmps80
  go_wp2
  go_ret
  exact ⟨rfl, rfl⟩

theorem ghas_yes {c : Nat → Nat} {k : Nat} {w : World} {p : Nat} {A : List (List Nat)} {G : List Bool} (h : GraphAt c k w p A G) (x : Int) (hx : hasB G x = true) :
    Calls Try.prog 80 #[.pointer (some ⟨p, 0, none⟩), .int .i64 x] w fun e w' => e = .returned (.bool true) ∧ w = w' := by
  obtain ⟨vs, n, ao, cap, bo, bcap, h⟩ := h
  obtain ⟨h0, h1, h2⟩ := hasB_lt hx
  rw [h.lg] at h1
  obtain ⟨i, rfl⟩ : ∃ i : Nat, x = i := ⟨x.toNat, by omega⟩
  rw [Int.toNat_natCast] at h1 h2
  obtain ⟨g, off, rfl, -, -, y0, -⟩ := h.bit h1
  rw [h2] at y0
  have b0 := h.hb.cell 0
  have b1 := h.hb.cell 1
  have hle := h.le
  simp at b0 b1
  have hl : (i : Int) < n := by omega
  clear h hx h2
  go_enter Try.func80, Try.ntmps80
  go_wp2
  go_ret
  exact ⟨by simp, rfl⟩

theorem ghas_no {c : Nat → Nat} {k : Nat} {w : World} {p : Nat} {A : List (List Nat)} {G : List Bool} (h : GraphAt c k w p A G) (x : Int) (hx : hasB G x = false) :
    Calls Try.prog 80 #[.pointer (some ⟨p, 0, none⟩), .int .i64 x] w fun e w' => e = .returned (.bool false) ∧ w = w' := by
  obtain ⟨vs, n, ao, cap, bo, bcap, h⟩ := h
  have b0 := h.hb.cell 0
  have b1 := h.hb.cell 1
  have hle := h.le
  simp at b0 b1
  by_cases h0 : x < 0
  · have t0 : decide (x ≥ 0) = false := by simp; omega
    have t1 : decide (0 ≤ x) = false := by simp; omega
    clear h hx h0
    go_enter Try.func80, Try.ntmps80
    go_wp2
    go_ret
    exact ⟨by simp, rfl⟩
  · obtain ⟨i, rfl⟩ : ∃ i : Nat, x = i := ⟨x.toNat, by omega⟩
    by_cases hlt : i < n
    · obtain ⟨g, off, rfl, -, -, y0, -⟩ := h.bit hlt
      have h2 : G.getD i true = true := by
        simp only [hasB, Int.toNat_natCast, Bool.and_eq_false_iff, decide_eq_false_iff_not, Bool.not_eq_false'] at hx
        rcases hx with hx | hx
        · omega
        · exact hx
      rw [h2] at y0
      have hl : (i : Int) < n := by omega
      clear h hx h2
      go_enter Try.func80, Try.ntmps80
      go_wp2
      go_ret
      exact ⟨by simp, rfl⟩
    · have t1 : decide ((i : Int) < n) = false := by simp; omega
      clear h hx
      go_enter Try.func80, Try.ntmps80
      go_wp2
      go_ret
      exact ⟨by simp, rfl⟩

theorem grlen_nil (w : World) : Calls Try.prog 81 #[.pointer none] w fun e w' => e = .returned (.int .i64 0) ∧ w = w' := by
  go_enter Try.func81, Try.ntmps81
  go_wp2
  go_ret
  exact ⟨rfl, rfl⟩

theorem grlen_any {c : Nat → Nat} {k : Nat} {w : World} {p : Nat} {A : List (List Nat)} {G : List Bool} (h : GraphAt c k w p A G) :
    Calls Try.prog 81 #[.pointer (some ⟨p, 0, none⟩)] w fun e w' => e = .returned (.int .i64 A.length) ∧ w = w' := by
  obtain ⟨vs, n, ao, cap, bo, bcap, h⟩ := h
  have b0 := h.hb.cell 0
  simp at b0
  rw [h.la]
  clear h
  go_enter Try.func81, Try.ntmps81
  go_wp2
  go_ret
  exact ⟨rfl, rfl⟩
end Go.Proofs.Ytmhhhiegioniaaa
