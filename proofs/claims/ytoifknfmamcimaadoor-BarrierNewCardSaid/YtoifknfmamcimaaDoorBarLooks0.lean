/- The document's Look of a plan, and that a probe ends there. No condition beyond each contract's own. -/
import Derived.Test.YtoifknfmamcimaaDoorPlan2
import Derived.Test.YtoifknfmamcimaaDoorBarRef
namespace Go.Proofs.YtoifknfmamcimaaDoor
open Go.RowKit

/-- What the document's Look of a plan answers. -/
def WantR (p : Pln) (left : List Int) (next x : Int) : Prop :=
  (0 < p.after.length ∧ x = max (p.after.foldl min (p.after.getD 0 0)) (next - 1)) ∨
  (p.after.length = 0 ∧ (p.cursor < next ∨ p.buffer = false) ∧ x = max p.cursor (next - 1)) ∨
  (p.after.length = 0 ∧ next ≤ p.cursor ∧ p.buffer = true ∧ HiS left next p.cursor x)

theorem WantR.bd {p : Pln} {left : List Int} {next x : Int} (h : WantR p left next x) (hp : PlnOK p) (hn : 0 ≤ next ∧ next ≤ 1000) : -1 ≤ x ∧ x ≤ 1000 := by
  rcases h with ⟨h1, h2⟩ | ⟨h1, _, h2⟩ | ⟨h1, h2, h3, h4⟩
  · have h3 := foldmin_le p.after (p.after.getD 0 0)
    have h4 := (hp.av (p.after.getD 0 0) (by simp [List.getD, h1])).2
    omega
  · have := hp.cu; omega
  · have := hp.cu
    have h5 := h4.1
    have h6 := h4.2.1
    omega

theorem r12look_plan {c : Nat → Nat} {k k' : Nat} {w : World} {p : Pln} {ao so : Option Addr} {cap m scap : Nat} {left : List Int} {next : Int} (hp : PlnOK p) (ha : In c k w 1 ao p.after.length cap (p.after.map (Value.int .i64))) (hs : In c k' w 1 so m scap (left.map (Value.int .i64))) (hn : 0 ≤ next ∧ next ≤ 1000) :
    Calls Tryd.prog 27 #[.int .i64 next, .int .i64 p.cursor, .slice ao p.after.length cap, .bool p.buffer, .slice so m scap] w fun e w' => ∃ x, e = .returned (.int .i64 x) ∧ w = w' ∧ WantR p left next x := by
  by_cases h0 : 0 < p.after.length
  · refine (r12look_after ha next p.cursor p.buffer so m scap hn h0).mono ?_
    rintro e w' ⟨rfl, rfl⟩
    exact ⟨_, rfl, rfl, .inl ⟨h0, rfl⟩⟩
  · have h1 : p.after.length = 0 := by omega
    rw [h1]
    by_cases hc : p.cursor < next ∨ p.buffer = false
    · refine (r12look_cursor next p.cursor p.buffer ao cap so m scap hn hc w).mono ?_
      rintro e w' ⟨rfl, rfl⟩
      exact ⟨_, rfl, rfl, .inr (.inl ⟨h1, hc, rfl⟩)⟩
    · have hb : p.buffer = true := by
        cases hb : p.buffer with
        | true => rfl
        | false => exact absurd (.inr hb) hc
      have hcn : next ≤ p.cursor := by
        have : ¬ p.cursor < next := fun h => hc (.inl h)
        omega
      rw [hb]
      refine (r12look_shown hs next p.cursor ao cap hn hcn hp.cu.2).mono ?_
      rintro e w' ⟨x, rfl, hx, rfl⟩
      exact ⟨x, rfl, rfl, .inr (.inr ⟨h1, hcn, hb, hx⟩)⟩

/-- A probe of a plan ends, as the document says. -/
theorem BegR.ends {p : Pln} {la left : List Int} {al : Nat} (h : BegR p la left al) (hp : PlnOK p) {next x : Int} (hn : 0 ≤ next) (hx : WantR p left next x) :
    ∃ n r, EndsP (p.bar al) la (Pr.start next) n r ∧ r.sign = p.alert ∧ n ≤ 2000 ∧ ((p.alert = 1 ∧ n = 1 ∧ r.avail = next - 1) ∨ (p.alert ≠ 1 ∧ (n : Int) = refSteps next p.cursor p.after.length p.buffer x ∧ r.avail = x)) := by
  have hcu := hp.cu
  have han := hp.an
  rcases h.looks hp next with ⟨h1, r, h2, h3, h4⟩ | ⟨h1, h0, r, h2, h3, h4⟩ | ⟨h1, h0, hc, r, h2, h3, h4⟩ | ⟨h1, h0, hc, hb, y, r, hy, h2, h3, h4⟩
  · exact ⟨1, r, h2, by rw [h4, h1], by omega, .inl ⟨h1, rfl, h3⟩⟩
  · refine ⟨_, r, h2, h4, by omega, .inr ⟨h1, by rw [refSteps, if_pos h0]; omega, ?_⟩⟩
    rcases hx with ⟨_, hx⟩ | ⟨hx, _⟩ | ⟨hx, _⟩
    · rw [hx]; exact h3
    · omega
    · omega
  · refine ⟨_, r, h2, h4, by omega, .inr ⟨h1, by rw [refSteps, if_neg (by omega), if_pos hc]; rfl, ?_⟩⟩
    rcases hx with ⟨hx, _⟩ | ⟨_, _, hx⟩ | ⟨_, hx1, hx2, _⟩
    · omega
    · rw [hx]; exact h3
    · rcases hc with hc | hc
      · omega
      · rw [hc] at hx2; cases hx2
  · have hyx : y = x := by
      rcases hx with ⟨hx, _⟩ | ⟨_, hx, _⟩ | ⟨_, _, _, hx⟩
      · omega
      · rcases hx with hx | hx
        · omega
        · rw [hb] at hx; cases hx
      · have hbs := (h.bs hb).2
        rw [h0] at hbs
        exact hy.uniq (hx.hiAt (fun s a b => hbs s (by omega)))
    subst hyx
    have y1 := hy.1
    have y2 := hy.2.1
    refine ⟨_, r, h2, h4, by split <;> omega, .inr ⟨h1, ?_, h3⟩⟩
    have e : refSteps next p.cursor p.after.length p.buffer y = 2 + (y - next + 1 + if y < p.cursor then 1 else 0) := by
      unfold refSteps
      rw [if_neg (show ¬ 0 < p.after.length by omega), if_neg (by rw [hb]; simp; omega)]
    rw [e]
    by_cases hyc : y < p.cursor
    · simp only [if_pos hyc]; omega
    · simp only [if_neg hyc]; omega
end Go.Proofs.YtoifknfmamcimaaDoor
