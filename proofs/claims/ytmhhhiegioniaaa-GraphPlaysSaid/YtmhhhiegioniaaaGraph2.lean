/- Contracts of the graph's After, Behind, Ends. No condition beyond each contract's own. -/
import Derived.Test.YtmhhhiegioniaaaGraph
namespace Go.Proofs.Ytmhhhiegioniaaa
open Go.RowKit

theorem grafter_no {c : Nat → Nat} {k : Nat} {w : World} {p : Nat} {A : List (List Nat)} {G : List Bool} (h : GraphAt c k w p A G) (x : Int) (hx : hasB G x = false) :
    Calls Try.prog 85 #[.pointer (some ⟨p, 0, none⟩), .int .i64 x] w fun e w' => e = .returned (.slice none 0 0) ∧ w = w' := by
  have H := Lib.hid h
  have Hx := Lib.hid hx
  clear h hx
  go_enter Try.func85, Try.ntmps85
  go_wp2_with (go_at_call 80; refine (ghas_no H.out x Hx.out).mono ?_; rintro e w' ⟨rfl, rfl⟩)
  go_ret
  exact ⟨rfl, rfl⟩

theorem grafter_any {c : Nat → Nat} {k : Nat} {w : World} {p : Nat} {A : List (List Nat)} {G : List Bool} (h : GraphAt c k w p A G) (x : Nat) (hx : hasB G x = true) (hA : (A.getD x []).length ≤ 1000) (kr : Nat) :
    Calls Try.prog 85 #[.pointer (some ⟨p, 0, none⟩), .int .i64 x] w fun e w' => ∃ ao cap, e = .returned (.slice ao (A.getD x []).length cap) ∧ ∃ c', Stp (fun _ => False) c c' w w' ∧ Row c' kr w' 3 1 ao (A.getD x []).length cap ((ints (A.getD x [])).map (Value.int .i64)) := by
  have H := Lib.hid h
  have Hx := Lib.hid hx
  obtain ⟨vs, n, ao, cap, bo, bcap, h⟩ := h
  obtain ⟨h0, h1, h2⟩ := hasB_lt hx
  rw [h.lg, Int.toNat_natCast] at h1
  obtain ⟨g, off, oi, ci, rfl, -, -, y0, -, hr⟩ := h.node h1
  have R := Lib.hid hr
  have b0 := h.hb.cell 0
  simp at b0
  have hle := h.le
  have hl : (x : Int) < n := by omega
  have Hn := Lib.hid (show (((A.getD x []).length : Nat) : Int) ≤ 1048576 by omega)
  obtain ⟨L, hL⟩ : ∃ L, L = (A.getD x []).length := ⟨_, rfl⟩
  rw [← hL] at y0 R Hn ⊢
  clear h hx h2 hr h0 hA hL
  go_enter Try.func85, Try.ntmps85
  go_wp2_with (go_at_call 80; refine (ghas_yes H.out x Hx.out).mono ?_; rintro e w' ⟨rfl, rfl⟩)
  refine (clone_in R.out.toIn kr Hn.out).mono ?_
  rintro e w1 ⟨ao', cap', rfl, c', s1, r1⟩
  have S1 := Lib.hid s1
  have R1 := Lib.hid r1
  clear s1 r1
  go_wp2
  go_ret
  exact ⟨ao', cap', rfl, c', S1.out, R1.out⟩

/-- The nodes that are behind a node. -/
def behindL (A : List (List Nat)) (x : Nat) : List Nat := (List.range A.length).filter (fun i => decide (x ∈ A.getD i []))

theorem range_filter_succ (f : Nat → Bool) (j : Nat) : (List.range (j + 1)).filter f = (List.range j).filter f ++ (if f j then [j] else []) := by
  rw [List.range_succ, List.filter_append]
  by_cases h : f j = true <;> simp [h]

theorem range_filter_le (f : Nat → Bool) (j : Nat) : ((List.range j).filter f).length ≤ j := by
  have := List.length_filter_le f (List.range j)
  rwa [List.length_range] at this

theorem grbehind_no {c : Nat → Nat} {k : Nat} {w : World} {p : Nat} {A : List (List Nat)} {G : List Bool} (h : GraphAt c k w p A G) (x : Int) (hx : hasB G x = false) :
    Calls Try.prog 98 #[.pointer (some ⟨p, 0, none⟩), .int .i64 x] w fun e w' => e = .returned (.slice none 0 0) ∧ w = w' := by
  have H := Lib.hid h
  have Hx := Lib.hid hx
  clear h hx
  go_enter Try.func98, Try.ntmps98
  go_wp2_with (go_at_call 80; refine (ghas_no H.out x Hx.out).mono ?_; rintro e w' ⟨rfl, rfl⟩)
  go_ret
  exact ⟨rfl, rfl⟩

/-- A list that grows by those numbers that are such. -/
structure FRel (c : Nat → Nat) (k kr : Nat) (w : World) (p : Nat) (A : List (List Nat)) (G : List Bool) (vs : List Value) (n : Nat) (ao : Option Addr) (cap : Nat) (bo : Option Addr) (bcap : Nat) (f : Nat → Bool) (j : Nat) (oo : Option Addr) (N oc : Nat) (c' : Nat → Nat) (wr : World) : Prop where
  le : j ≤ n
  len : N = ((List.range j).filter f).length
  row : Row c' kr wr 3 1 oo N oc ((ints ((List.range j).filter f)).map (Value.int .i64))
  gr : GraphIs c' k wr p A G vs n ao cap bo bcap
  st : Stp (· = kr) c c' w wr

def FRelV (c : Nat → Nat) (k kr : Nat) (w : World) (p : Nat) (A : List (List Nat)) (G : List Bool) (vs : List Value) (n : Nat) (ao : Option Addr) (cap : Nat) (bo : Option Addr) (bcap : Nat) (f : Nat → Bool) (v i : Value) (wr : World) : Prop :=
  ∃ (c' : Nat → Nat) (j : Nat) (oo : Option Addr) (N oc : Nat), v = .slice oo N oc ∧ i = .int .i64 j ∧ FRel c k kr w p A G vs n ao cap bo bcap f j oo N oc c' wr

set_option maxRecDepth 100000 in
theorem grbehind_any {c : Nat → Nat} {k : Nat} {w : World} {p : Nat} {A : List (List Nat)} {G : List Bool} (h : GraphAt c k w p A G) (x : Nat) (hx : hasB G x = true) (kr : Nat) (hk : ¬ GJ k kr) :
    Calls Try.prog 98 #[.pointer (some ⟨p, 0, none⟩), .int .i64 x] w fun e w' => ∃ ao cap, e = .returned (.slice ao (behindL A x).length cap) ∧ ∃ c', Stp (· = kr) c c' w w' ∧ Row c' kr w' 3 1 ao (behindL A x).length cap ((ints (behindL A x)).map (Value.int .i64)) := by
  have H := Lib.hid h
  have Hx := Lib.hid hx
  obtain ⟨vs, n, ao, cap, bo, bcap, h⟩ := h
  have b0 := h.hb.cell 0
  simp at b0
  have hle := h.le
  have Hk := Lib.hid (show ∀ j, j = kr → ¬ GJ k j from fun j hj => hj ▸ hk)
  obtain ⟨f, hf⟩ : ∃ f : Nat → Bool, f = fun i => decide (x ∈ A.getD i []) := ⟨_, rfl⟩
  have F := Lib.hid hf
  have e : behindL A x = (List.range n).filter f := by rw [behindL, h.la, hf]
  rw [e]
  have I := Lib.hid h
  clear h hx hf hk e
  go_enter Try.func98, Try.ntmps98
  go_wp2_with (go_at_call 80; refine (ghas_yes H.out x Hx.out).mono ?_; rintro e w' ⟨rfl, rfl⟩)
  go_loopw [5, 17] (fun v i wr => FRelV c k kr w p A G vs n ao cap bo bcap f v i wr) (fun _ i _ => n - (intOf i).toNat)
  case atStart => exact ⟨c, 0, none, 0, 0, rfl, rfl, Nat.zero_le _, rfl, Row.nil _ _ _ _ _, I.out, Stp.refl _ _ _⟩
  case round =>
    obtain ⟨c1, j, oo, N, oc, rfl, rfl, hr⟩ := hrel
    have R := Lib.hid hr
    have hj := hr.le
    clear hr b0
    by_cases hlt : j < n
    · obtain ⟨g, off, oi, ci, rfl, -, -, y0, -, hrow⟩ := R.out.gr.node hlt
      have HR := Lib.hid hrow
      obtain ⟨L, hL⟩ : ∃ L, L = (A.getD j []).length := ⟨_, rfl⟩
      rw [← hL] at y0 HR
      clear hrow hL
      have hN : N ≤ 64 := by rw [R.out.len]; have := range_filter_le f j; omega
      by_cases hm : x ∈ A.getD j []
      · have Hf := Lib.hid (show (List.range (j + 1)).filter f = (List.range j).filter f ++ [j] by rw [range_filter_succ, if_pos (by rw [F.out]; simpa using hm)])
        have Hm := Lib.hid (ints_mem.2 hm)
        clear hm
        have d1 : Hid (N + 1 ≤ maxLen) := Lib.hid (by unfold maxLen; omega)
        have d2 : Hid ((N + 1) * 8 ≤ 140737488355328) := Lib.hid (by omega)
        go_wp2_with (first
          | (go_at_call 105; refine (contains_yes HR.out.toIn _ Hm.out).mono ?_; rintro e w' ⟨rfl, rfl⟩)
          | (at_builtin; refine wpList_append_row _ rfl (.tmp 25) (.tmp 27) 40 rfl (paint c1 wr.heap.size kr) kr 3 (.int .i64 0) 1 8 Try.underlying40 Try.infoInt rfl oo N oc ((ints ((List.range j).filter f)).map (Value.int .i64)) rfl (R.out.row.alloc _ kr) _ 1 [.int .i64 (j : Int)] rfl (Src.one wr _ 3) (by simp [Value.oneCell']) d1.out d2.out ?_))
        intro oo2 oc2 w2 hr2 st2 _
        have s2 := ((Stp.refl (· = kr) c1 wr).alloc (.cells #[.int .i64 (j : Int)] 3) kr).trans st2
        have R2 := Lib.hid (show FRel c k kr w p A G vs n (some ⟨g, off, none⟩) cap bo bcap f (j + 1) oo2 (N + 1) oc2 _ w2 from
          ⟨by omega, by rw [Hf.out, List.length_append, ← R.out.len]; rfl, by rw [Hf.out, ints_app, List.map_append]; exact hr2, R.out.gr.stp s2 Hk.out, R.out.st.trans s2⟩)
        clear hr2 st2 s2 y0 hN
        go_wp2
        go_roundw
        case rel => exact ⟨_, j + 1, oo2, N + 1, oc2, rfl, by go_num, R2.out⟩
        case measure => simp [intOf]; omega
      · have Hf := Lib.hid (show (List.range (j + 1)).filter f = (List.range j).filter f by rw [range_filter_succ, if_neg (by rw [F.out]; simpa using hm), List.append_nil])
        have Hm := Lib.hid (fun hh => hm (ints_mem.1 hh))
        clear hm
        go_wp2_with (go_at_call 105; refine (contains_no HR.out.toIn _ Hm.out).mono ?_; rintro e w' ⟨rfl, rfl⟩)
        go_roundw
        case rel => exact ⟨c1, j + 1, oo, N, oc, rfl, by go_num, by omega, by rw [Hf.out]; exact R.out.len, by rw [Hf.out]; exact R.out.row, R.out.gr, R.out.st⟩
        case measure => simp [intOf]; omega
    · obtain rfl : j = n := by omega
      go_wp2
      go_ret
      rw [← R.out.len]
      exact ⟨oo, oc, rfl, c1, R.out.st, R.out.row⟩

structure ERel (c : Nat → Nat) (k kr ks : Nat) (w : World) (p : Nat) (A : List (List Nat)) (G : List Bool) (vs : List Value) (n : Nat) (ao : Option Addr) (cap : Nat) (bo : Option Addr) (bcap : Nat) (f : Nat → Bool) (j : Nat) (oo : Option Addr) (N oc : Nat) (c' : Nat → Nat) (wr : World) : Prop where
  le : j ≤ n
  len : N = ((List.range j).filter f).length
  row : Row c' kr wr 3 1 oo N oc ((ints ((List.range j).filter f)).map (Value.int .i64))
  gr : GraphIs c' k wr p A G vs n ao cap bo bcap
  st : Stp (fun j => j = kr ∨ j = ks) c c' w wr

/-- Is this node one that nobody is behind? -/
def endB (A : List (List Nat)) (G : List Bool) (i : Nat) : Bool := hasB G i && decide (behindL A i = [])

set_option maxRecDepth 100000 in
theorem grends_any {c : Nat → Nat} {k : Nat} {w : World} {p : Nat} {A : List (List Nat)} {G : List Bool} (h : GraphAt c k w p A G) (kr ks : Nat) (hk : ¬ GJ k kr) (hk2 : ¬ GJ k ks) (hne : kr ≠ ks) :
    Calls Try.prog 100 #[.pointer (some ⟨p, 0, none⟩)] w fun e w' => ∃ ao cap, e = .returned (.slice ao ((List.range A.length).filter (endB A G)).length cap) ∧ ∃ c', Stp (fun j => j = kr ∨ j = ks) c c' w w' ∧ Row c' kr w' 3 1 ao ((List.range A.length).filter (endB A G)).length cap ((ints ((List.range A.length).filter (endB A G))).map (Value.int .i64)) := by
  have H := Lib.hid h
  obtain ⟨vs, n, ao, cap, bo, bcap, h⟩ := h
  have hle := h.le
  have hla := h.la
  have Hk := Lib.hid (show ∀ j, (j = kr ∨ j = ks) → ¬ GJ k j from fun j hj => by rcases hj with hj | hj <;> subst hj <;> assumption)
  have Hne := Lib.hid hne
  obtain ⟨f, hf⟩ : ∃ f : Nat → Bool, f = endB A G := ⟨_, rfl⟩
  have F := Lib.hid hf
  rw [← hf, hla]
  have I := Lib.hid h
  clear h hf hk hk2 hne hla
  go_enter Try.func100, Try.ntmps100
  go_wp2_with (go_at_call 81; refine (grlen_any H.out).mono ?_; rintro e w' ⟨rfl, rfl⟩; rw [show ((A.length : Nat) : Int) = n by rw [I.out.la]])
  go_loopw [3, 7] (fun v i wr => ∃ (c' : Nat → Nat) (j : Nat) (oo : Option Addr) (N oc : Nat), v = .slice oo N oc ∧ i = .int .i64 j ∧ ERel c k kr ks w p A G vs n ao cap bo bcap f j oo N oc c' wr) (fun _ i _ => n - (intOf i).toNat)
  case atStart => exact ⟨c, 0, none, 0, 0, rfl, rfl, Nat.zero_le _, rfl, Row.nil _ _ _ _ _, I.out, Stp.refl _ _ _⟩
  case round =>
    obtain ⟨c1, j, oo, N, oc, rfl, rfl, hr⟩ := hrel
    have R := Lib.hid hr
    have hj := hr.le
    clear hr
    have Gr := Lib.hid (show GraphAt c1 k wr p A G from ⟨_, _, _, _, _, _, R.out.gr⟩)
    by_cases hlt : j < n
    · have hN : N ≤ 64 := by rw [R.out.len]; have := range_filter_le f j; omega
      have d1 : Hid (N + 1 ≤ maxLen) := Lib.hid (by unfold maxLen; omega)
      have d2 : Hid ((N + 1) * 8 ≤ 140737488355328) := Lib.hid (by omega)
      by_cases hh : hasB G j = true
      · have Hh := Lib.hid hh
        by_cases hb : behindL A j = []
        · have Hf := Lib.hid (show (List.range (j + 1)).filter f = (List.range j).filter f ++ [j] by rw [range_filter_succ, if_pos (by rw [F.out]; simp [endB, hh, hb])])
          have Hb := Lib.hid (show (behindL A j).length = 0 by rw [hb]; rfl)
          clear hb hh
          go_wp2_with (go_at_call 80; refine (ghas_yes Gr.out _ Hh.out).mono ?_; rintro e w' ⟨rfl, rfl⟩)
          refine (grbehind_any Gr.out j Hh.out ks (fun hh => Hk.out ks (.inr rfl) hh)).mono ?_
          rintro e w2 ⟨bo2, bc2, rfl, c2, s2, r2⟩
          rw [Hb.out]
          have R2 := Lib.hid (show ERel c k kr ks w p A G vs n ao cap bo bcap f j oo N oc c2 w2 from ⟨R.out.le, R.out.len, R.out.row.stp s2 Hne.out, R.out.gr.stp s2 (fun j hj => Hk.out j (.inr hj)), R.out.st.trans (s2.mono fun _ h => .inr h)⟩)
          clear s2 r2
          go_wp2_with (at_builtin; refine wpList_append_row _ rfl (.tmp 20) (.tmp 22) 40 rfl (paint c2 w2.heap.size kr) kr 3 (.int .i64 0) 1 8 Try.underlying40 Try.infoInt rfl oo N oc ((ints ((List.range j).filter f)).map (Value.int .i64)) rfl (R2.out.row.alloc _ kr) _ 1 [.int .i64 (j : Int)] rfl (Src.one w2 _ 3) (by simp [Value.oneCell']) d1.out d2.out ?_)
          intro oo2 oc2 w3 hr3 st3 _
          have s3 := ((Stp.refl (· = kr) c2 w2).alloc (.cells #[.int .i64 (j : Int)] 3) kr).trans st3
          have R3 := Lib.hid (show ERel c k kr ks w p A G vs n ao cap bo bcap f (j + 1) oo2 (N + 1) oc2 _ w3 from
            ⟨by omega, by rw [Hf.out, List.length_append, ← R2.out.len]; rfl, by rw [Hf.out, ints_app, List.map_append]; exact hr3, R2.out.gr.stp s3 (fun j hj => Hk.out j (.inl hj)), R2.out.st.trans (s3.mono fun _ h => .inl h)⟩)
          clear hr3 st3 s3 hN
          go_wp2
          go_roundw
          case rel => exact ⟨_, j + 1, oo2, N + 1, oc2, rfl, by go_num, R3.out⟩
          case measure => simp [intOf]; omega
        · have Hf := Lib.hid (show (List.range (j + 1)).filter f = (List.range j).filter f by rw [range_filter_succ, if_neg (by rw [F.out]; simp [endB, hb]), List.append_nil])
          obtain ⟨B, hB⟩ : ∃ B, B = (behindL A j).length := ⟨_, rfl⟩
          have hB0 : B ≠ 0 := by rw [hB]; intro h0; exact hb (List.eq_nil_of_length_eq_zero h0)
          have tB : ((B : Int) == 0) = false := by simpa using hB0
          have HB := Lib.hid hB
          clear hb hh hB
          go_wp2_with (go_at_call 80; refine (ghas_yes Gr.out _ Hh.out).mono ?_; rintro e w' ⟨rfl, rfl⟩)
          refine (grbehind_any Gr.out j Hh.out ks (fun hh => Hk.out ks (.inr rfl) hh)).mono ?_
          rintro e w2 ⟨bo2, bc2, rfl, c2, s2, r2⟩
          rw [← HB.out]
          have R2 := Lib.hid (show ERel c k kr ks w p A G vs n ao cap bo bcap f (j + 1) oo N oc c2 w2 from ⟨by omega, by rw [Hf.out]; exact R.out.len, by rw [Hf.out]; exact R.out.row.stp s2 Hne.out, R.out.gr.stp s2 (fun j hj => Hk.out j (.inr hj)), R.out.st.trans (s2.mono fun _ h => .inr h)⟩)
          clear s2 r2
          go_wp2
          go_roundw
          case rel => exact ⟨_, j + 1, oo, N, oc, rfl, by go_num, R2.out⟩
          case measure => simp [intOf]; omega
      · have Hf := Lib.hid (show (List.range (j + 1)).filter f = (List.range j).filter f by rw [range_filter_succ, if_neg (by rw [F.out]; simp [endB, hh]), List.append_nil])
        have Hh := Lib.hid (show hasB G j = false by simpa using hh)
        clear hh
        go_wp2_with (go_at_call 80; refine (ghas_no Gr.out _ Hh.out).mono ?_; rintro e w' ⟨rfl, rfl⟩)
        go_roundw
        case rel => exact ⟨c1, j + 1, oo, N, oc, rfl, by go_num, by omega, by rw [Hf.out]; exact R.out.len, by rw [Hf.out]; exact R.out.row, R.out.gr, R.out.st⟩
        case measure => simp [intOf]; omega
    · obtain rfl : j = n := by omega
      go_wp2
      go_ret
      rw [← R.out.len]
      exact ⟨oo, oc, rfl, c1, R.out.st, R.out.row⟩
end Go.Proofs.Ytmhhhiegioniaaa
