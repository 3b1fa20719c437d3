/- The contract of the graph's Add. No condition beyond the contract's own. -/
import Derived.Test.YtmhhhiegioniaaaGraph6
namespace Go.Proofs.Ytmhhhiegioniaaa
open Go.RowKit

/-- What is wrong with a list of nodes: 3: one isn't there, 4: one is named twice. -/
def addEr (G : List Bool) : List Nat → List Int → Int
  | _, [] => 0
  | seen, x :: r => if hasB G x = false then 3 else if x ∈ ints seen then 4 else addEr G (seen ++ [x.toNat]) r

theorem addEr_ok {G : List Bool} : ∀ (l : List Int) (seen : List Nat), seen.Nodup → addEr G seen l = 0 → (∀ x ∈ l, hasB G x = true) ∧ (seen ++ l.map Int.toNat).Nodup ∧ l = ints (l.map Int.toNat)
  | [], seen, hn, _ => ⟨by simp, by simpa using hn, rfl⟩
  | x :: r, seen, hn, h => by
    rw [addEr] at h
    split at h
    · cases h
    · next hx =>
      split at h
      · cases h
      · next hm =>
        have hx' : hasB G x = true := by simpa using hx
        have h0 := (hasB_lt hx').1
        obtain ⟨i, rfl⟩ : ∃ i : Nat, x = i := ⟨x.toNat, by omega⟩
        rw [ints_mem] at hm
        obtain ⟨h1, h2, h3⟩ := addEr_ok r (seen ++ [(i : Int).toNat]) (by
          rw [List.nodup_append]
          exact ⟨hn, by simp, by intro a ha b hb; simp at hb; subst hb; rintro rfl; exact hm ha⟩) h
        refine ⟨fun y hy => ?_, by simpa using h2, ?_⟩
        · rcases List.mem_cons.1 hy with rfl | hy
          · exact hx'
          · exact h1 y hy
        · show (i : Int) :: r = ints (_ :: _)
          rw [ints, List.map_cons, ← ints, ← h3]
          simp

theorem addEr_app {G : List Bool} {x : Int} {l : List Int} : ∀ (q : List Nat) (seen : List Nat), (∀ y ∈ q, hasB G (y : Nat) = true) → (seen ++ q).Nodup → addEr G seen (ints q ++ l) = addEr G (seen ++ q) l
  | [], seen, _, _ => by simp [ints]
  | y :: q, seen, h1, h2 => by
    show addEr G seen ((y : Int) :: (ints q ++ l)) = _
    rw [addEr, if_neg (by rw [h1 y (List.mem_cons_self ..)]; decide), if_neg (by
      rw [ints_mem]
      intro hm
      rw [List.nodup_append] at h2
      exact h2.2.2 y hm y (List.mem_cons_self ..) rfl), addEr_app (x := x) q _ (fun z hz => h1 z (List.mem_cons_of_mem _ hz)) (by simpa using h2)]
    simp

/-- What the nodes' lists are, all but the new one. -/
def ARest (k : Nat) (A : List (List Nat)) (vs : List Value) (n : Nat) (oo : Option Addr) (m oc : Nat) (L : List Nat) (c : Nat → Nat) (w : World) : Prop :=
  (∀ i, i < n → ∃ oi ni ci, vs[i]? = some (.slice oi ni ci) ∧ Row c (k + 3 + i) w 3 1 oi ni ci ((ints (A.getD i [])).map (Value.int .i64))) ∧
  Row c (k + 3 + n) w 3 1 oo m oc ((ints L).map (Value.int .i64))

theorem ARest.st {k : Nat} {A : List (List Nat)} {vs : List Value} {n : Nat} {oo : Option Addr} {m oc : Nat} {L : List Nat} (hn : n < 64) : RSt (ARest k A vs n oo m oc L) k := by
  intro c c' w w' st h
  refine ⟨fun i hi => ?_, h.2.stp st (by unfold BJ; omega)⟩
  obtain ⟨oi, ni, ci, h1, h2⟩ := h.1 i hi
  exact ⟨oi, ni, ci, h1, h2.stp st (by unfold BJ; omega)⟩

theorem grown {k p : Nat} {A : List (List Nat)} {G : List Bool} {vs : List Value} {n : Nat} {oo : Option Addr} {m oc : Nat} {L : List Nat} {c c0 : Nat → Nat} {w wB W : World} {oA : Option Addr} {capA : Nat} {oG : Option Addr} {capG : Nat} {tA tG : Option Nat} {vG : Value}
    (hn : n < 64) (hla : A.length = n) (hlg : G.length = n) (hlv : vs.length = n) (s : Stp (GJ k) c c0 w wB)
    (h : Bd (ARest k A vs n oo m oc L) c0 wB k p 176 (.slice oA (n + 1) capA) (.slice oG (n + 1) capG) oA (n + 1) capA (vs ++ [.slice oo m oc]) oG (n + 1) capG (G.map Value.bool ++ [.bool false]) tA tG (.slice oo m oc) vG W) :
    ∃ c', Stp (GJ k) c c' w W ∧ GraphAt c' k W p (A ++ [L]) (G ++ [false]) := by
  obtain ⟨c1, h1, h2, h3, h4, -, -, h7, h8⟩ := h
  refine ⟨c1, s.trans (h1.mono fun j hj => by unfold BJ at hj; unfold GJ; omega), _, n + 1, _, _, _, _, h2, h3, by simpa using h4, fun i hi => ?_, by simp [hla], by simp [hlg], by omega⟩
  rw [getD_app]
  by_cases hin : i = n
  · subst hin
    refine ⟨oo, m, oc, ?_, ?_⟩
    · rw [List.getElem?_append_right (by omega), hlv]; simp
    · rw [if_pos hla.symm]; exact h8
  · obtain ⟨oi, ni, ci, e, hr⟩ := h7 i (by omega)
    exact ⟨oi, ni, ci, by rw [List.getElem?_append_left (by omega)]; exact e, by rw [if_neg (by omega)]; exact hr⟩

structure ARel (c : Nat → Nat) (k : Nat) (w : World) (p : Nat) (A : List (List Nat)) (G : List Bool) (vs : List Value) (n : Nat) (ao : Option Addr) (cap : Nat) (bo : Option Addr) (bcap : Nat) (l : List Int) (j : Nat) (L : List Nat) (oo : Option Addr) (N oc : Nat) (c' : Nat → Nat) (wr : World) : Prop where
  le : j ≤ l.length
  eq : l.take j = ints L
  nd : L.Nodup
  has : ∀ y ∈ L, hasB G (y : Nat) = true
  len : N = L.length
  row : Row c' (k + 3 + n) wr 3 1 oo N oc ((ints L).map (Value.int .i64))
  gr : GraphIs c' k wr p A G vs n ao cap bo bcap
  st : Stp (· = k + 3 + n) c c' w wr

theorem GraphIs.stpN {c c' : Nat → Nat} {k : Nat} {w w' : World} {p : Nat} {A : List (List Nat)} {G : List Bool} {vs : List Value} {n : Nat} {ao : Option Addr} {cap : Nat} {bo : Option Addr} {bcap : Nat} (h : GraphIs c k w p A G vs n ao cap bo bcap) (st : Stp (· = k + 3 + n) c c' w w') : GraphIs c' k w' p A G vs n ao cap bo bcap :=
  ⟨h.hb.stp st (by omega), h.ha.stp st (by omega), h.hg.stp st (by omega), fun i hi => by
    obtain ⟨oi, ni, ci, h1, h2⟩ := h.hv i hi
    exact ⟨oi, ni, ci, h1, h2.stp st (by omega)⟩, h.la, h.lg, h.le⟩

/-- What Add's answer is. -/
def AddPost (c : Nat → Nat) (k : Nat) (w : World) (p : Nat) (A : List (List Nat)) (G : List Bool) (l : List Int) (e : Ending) (w' : World) : Prop :=
  ∃ c', Stp (GJ k) c c' w w' ∧
    ((addEr G [] l = 0 ∧ e = .returned (.tuple #[.int .i64 A.length, .nilIface]) ∧ GraphAt c' k w' p (A ++ [l.map Int.toNat]) (G ++ [false])) ∨
     (addEr G [] l ≠ 0 ∧ ∃ ev, e = .returned (.tuple #[.int .i64 0, ev]) ∧ ErrAt c' w' ev (addEr G [] l) ∧ GraphAt c' k w' p A G))

theorem add_end {k p : Nat} {A : List (List Nat)} {G : List Bool} {vs : List Value} {n : Nat} {oo : Option Addr} {m oc : Nat} {L : List Nat} {c c0 : Nat → Nat} {w wB W : World} {oA : Option Addr} {capA : Nat} {oG : Option Addr} {capG : Nat} {tA tG : Option Nat} {vG : Value} {l : List Int} {v : Int}
    (hn : n < 64) (hla : A.length = n) (hlg : G.length = n) (hlv : vs.length = n) (s : Stp (GJ k) c c0 w wB) (hz : addEr G [] l = 0 ∧ l.map Int.toNat = L) (hv : v = n)
    (h : Bd (ARest k A vs n oo m oc L) c0 wB k p 176 (.slice oA (n + 1) capA) (.slice oG (n + 1) capG) oA (n + 1) capA (vs ++ [.slice oo m oc]) oG (n + 1) capG (G.map Value.bool ++ [.bool false]) tA tG (.slice oo m oc) vG W) :
    AddPost c k w p A G l (.returned (.tuple #[.int .i64 v, .nilIface])) W := by
  obtain ⟨c', h1, h2⟩ := grown hn hla hlg hlv s h
  refine ⟨c', h1, .inl ⟨hz.1, by rw [hv, hla], ?_⟩⟩
  rw [hz.2]
  exact h2

theorem gradd_nil (c : Nat → Nat) (v : Value) (w : World) : Calls Try.prog 88 #[.pointer none, v] w fun e w' => ∃ ev, e = .returned (.tuple #[.int .i64 0, ev]) ∧ ∃ c', Stp (fun _ => False) c c' w w' ∧ ErrAt c' w' ev 2 := by
  go_enter Try.func88, Try.ntmps88
  go_wp2
  go_ret2
  exact ⟨_, rfl, c, Stp.refl _ _ _, .inl rfl⟩

set_option maxRecDepth 100000 in
theorem gradd_many {c : Nat → Nat} {k : Nat} {w : World} {p : Nat} {A : List (List Nat)} {G : List Bool} (h : GraphAt c k w p A G) (hn : 64 ≤ A.length) (v : Value) :
    Calls Try.prog 88 #[.pointer (some ⟨p, 0, none⟩), v] w fun e w' => ∃ ev, e = .returned (.tuple #[.int .i64 0, ev]) ∧ ∃ c', Stp (fun _ => False) c c' w w' ∧ ErrAt c' w' ev 8 := by
  obtain ⟨vs, n, ao, cap, bo, bcap, h⟩ := h
  have b0 := h.hb.cell 0
  simp at b0
  have hle := h.le
  rw [h.la] at hn
  have t : decide ((64 : Int) ≤ (n : Int)) = true := by simp; omega
  clear h
  go_enter Try.func88, Try.ntmps88
  go_wp2_with fail
  go_at_call 102
  refine (wrap_some _ _ _ _ _).mono ?_
  rintro e w' ⟨rfl, rfl⟩
  go_wp2_with fail
  go_ret2
  exact ⟨_, rfl, _, (Stp.refl _ c w).alloc _ 1, ErrAt.new _ _ _ _ _⟩

set_option maxRecDepth 100000 in
set_option maxHeartbeats 4000000 in
theorem gradd_any {c : Nat → Nat} {k : Nat} {w : World} {p : Nat} {A : List (List Nat)} {G : List Bool} (h : GraphAt c k w p A G) (hn : A.length < 64) {ka : Nat} {po : Option Addr} {pn pcap : Nat} {l : List Int} (hi : In c ka w 1 po pn pcap (l.map (Value.int .i64))) (hka : ¬ GJ k ka) (hpn : pn ≤ 1000) :
    Calls Try.prog 88 #[.pointer (some ⟨p, 0, none⟩), .slice po pn pcap] w (AddPost c k w p A G l) := by
  obtain ⟨vs, n, ao, cap, bo, bcap, h⟩ := h
  have b0 := h.hb.cell 0
  simp at b0
  have hla := h.la
  have hn' := hn
  rw [h.la] at hn'
  have t : decide ((64 : Int) ≤ (n : Int)) = false := by simp; omega
  have Hl := Lib.hid (show l.length = pn by have := hi.1; simpa using this)
  have I := Lib.hid h
  have Hi := Lib.hid hi
  have Hka := Lib.hid (show ka ≠ k + 3 + n by intro e; exact hka ⟨by omega, by omega⟩)
  have Hn := Lib.hid hn
  have Hla := Lib.hid hla
  clear h hi hka hn hla
  go_enter Try.func88, Try.ntmps88
  go_wp2_with fail
  go_loopw [6, 27] (fun v i wr => ∃ (c' : Nat → Nat) (j : Nat) (L : List Nat) (oo : Option Addr) (N oc : Nat), v = .slice oo N oc ∧ i = .int .i64 j ∧ ARel c k w p A G vs n ao cap bo bcap l j L oo N oc c' wr) (fun _ i _ => pn - (intOf i).toNat)
  case atStart => exact ⟨c, 0, [], none, 0, 0, rfl, rfl, Nat.zero_le _, rfl, List.nodup_nil, by simp, rfl, Row.nil _ _ _ _ _, I.out, Stp.refl _ _ _⟩
  case round =>
    obtain ⟨c1, j, L, oo, N, oc, rfl, rfl, hr⟩ := hrel
    have R := Lib.hid hr
    have hj := hr.le
    rw [Hl.out] at hj
    have hN : N ≤ 1000 := by
      have := congrArg List.length hr.eq
      rw [List.length_take, ints_len, Hl.out] at this
      rw [hr.len]; omega
    clear hr b0
    have Gr := Lib.hid (show GraphAt c1 k wr p A G from ⟨_, _, _, _, _, _, R.out.gr⟩)
    by_cases hlt : j < pn
    · obtain ⟨a, ha, hc⟩ := (Hi.out.stp R.out.st Hka.out).ints hlt
      subst ha
      have hjl : j < l.length := by rw [Hl.out]; exact hlt
      obtain ⟨x, hx⟩ : ∃ x, x = l.getD j 0 := ⟨_, rfl⟩
      rw [← hx] at hc
      have hd : l.drop j = x :: l.drop (j + 1) := by
        rw [List.drop_eq_getElem_cons hjl, hx]
        simp [List.getD, hjl]
      have Hd := Lib.hid hd
      have he : addEr G [] l = addEr G L (x :: l.drop (j + 1)) := by
        conv => lhs; rw [← List.take_append_drop j l, R.out.eq, hd]
        rw [addEr_app (x := x) L [] R.out.has (by simpa using R.out.nd), List.nil_append]
      have He := Lib.hid he
      clear hx hd hjl he
      by_cases hx : hasB G x = true
      · have hx0 := (hasB_lt hx).1
        obtain ⟨y, rfl⟩ : ∃ y : Nat, x = y := ⟨x.toNat, by omega⟩
        have Hx := Lib.hid hx
        by_cases hm : y ∈ L
        · have Hm := Lib.hid (ints_mem.2 hm)
          have He4 := Lib.hid (show addEr G [] l = 4 by rw [He.out, addEr, if_neg (by rw [hx]; decide), if_pos (ints_mem.2 hm)])
          clear hx hm hx0
          go_wp2_with fail
          go_at_call 80
          refine (ghas_yes Gr.out y Hx.out).mono ?_
          rintro e w' ⟨rfl, rfl⟩
          go_wp2_with fail
          go_at_call 105
          refine (contains_yes R.out.row.toIn _ Hm.out).mono ?_
          rintro e w' ⟨rfl, rfl⟩
          go_wp2_with fail
          go_at_call 102
          refine (wrap_some _ _ _ _ _).mono ?_
          rintro e w' ⟨rfl, rfl⟩
          go_wp2_with fail
          go_ret2
          refine ⟨_, (R.out.st.mono (fun j hj => ⟨by omega, by omega⟩)).alloc _ 1, .inr ⟨by rw [He4.out]; decide, _, rfl, by rw [He4.out]; exact ErrAt.new _ _ _ _ _, Gr.out.stp ((Stp.refl (fun _ => False) _ _).alloc _ 1) (fun _ h => h.elim)⟩⟩
        · have Hm := Lib.hid (fun hh => hm (ints_mem.1 hh))
          have He2 := Lib.hid (show addEr G [] l = addEr G (L ++ [y]) (l.drop (j + 1)) by rw [He.out, addEr, if_neg (by rw [hx]; decide), if_neg (fun hh => hm (ints_mem.1 hh)), Int.toNat_natCast])
          have Hnd := Lib.hid (show (L ++ [y]).Nodup by
            rw [List.nodup_append]
            exact ⟨R.out.nd, by simp, by intro a ha b hb; simp at hb; subst hb; rintro rfl; exact hm ha⟩)
          have d1 : Hid (N + 1 ≤ maxLen) := Lib.hid (by unfold maxLen; omega)
          have d2 : Hid ((N + 1) * 8 ≤ 140737488355328) := Lib.hid (by omega)
          have Htk := Lib.hid (show l.take (j + 1) = ints (L ++ [y]) by
            have hjl : j < l.length := by rw [Hl.out]; exact hlt
            have h1 := Hd.out
            rw [List.drop_eq_getElem_cons hjl] at h1
            rw [List.take_succ_eq_append_getElem hjl, R.out.eq, (List.cons.inj h1).1, ints_app]; rfl)
          clear hx hm hx0
          go_wp2_with fail
          go_at_call 80
          refine (ghas_yes Gr.out y Hx.out).mono ?_
          rintro e w' ⟨rfl, rfl⟩
          go_wp2_with fail
          go_at_call 105
          refine (contains_no R.out.row.toIn _ Hm.out).mono ?_
          rintro e w' ⟨rfl, rfl⟩
          go_wp2_with (at_builtin; refine wpList_append_row _ rfl (.tmp 46) (.tmp 48) 40 rfl (paint c1 wr.heap.size (k + 3 + n)) (k + 3 + n) 3 (.int .i64 0) 1 8 Try.underlying40 Try.infoInt rfl oo N oc ((ints L).map (Value.int .i64)) rfl (R.out.row.alloc _ (k + 3 + n)) _ 1 [.int .i64 (y : Int)] rfl (Src.one wr _ 3) (by simp [Value.oneCell']) d1.out d2.out ?_)
          intro oo2 oc2 w2 hr2 st2 _
          have s2 := ((Stp.refl (· = k + 3 + n) c1 wr).alloc (.cells #[.int .i64 (y : Int)] 3) (k + 3 + n)).trans st2
          have R2 := Lib.hid (show ARel c k w p A G vs n ao cap bo bcap l (j + 1) (L ++ [y]) oo2 (N + 1) oc2 _ w2 from
            ⟨by rw [Hl.out]; omega, Htk.out, Hnd.out, fun z hz => by
              rcases List.mem_append.1 hz with hz | hz
              · exact R.out.has z hz
              · simp at hz; subst hz; exact Hx.out, by rw [List.length_append, ← R.out.len]; rfl, by rw [ints_app, List.map_append]; exact hr2, R.out.gr.stpN s2, R.out.st.trans s2⟩)
          clear hr2 st2 s2 hc
          go_wp2
          go_roundw
          case rel => exact ⟨_, j + 1, L ++ [y], oo2, N + 1, oc2, rfl, by go_num, R2.out⟩
          case measure => simp [intOf]; omega
      · have hx' : hasB G x = false := by simpa using hx
        have Hx := Lib.hid hx'
        have He3 := Lib.hid (show addEr G [] l = 3 by rw [He.out, addEr, if_pos hx'])
        clear hx hx'
        go_wp2_with fail
        go_at_call 80
        refine (ghas_no Gr.out x Hx.out).mono ?_
        rintro e w' ⟨rfl, rfl⟩
        go_wp2_with fail
        go_at_call 102
        refine (wrap_some _ _ _ _ _).mono ?_
        rintro e w' ⟨rfl, rfl⟩
        go_wp2_with fail
        go_ret2
        refine ⟨_, (R.out.st.mono (fun j hj => ⟨by omega, by omega⟩)).alloc _ 1, .inr ⟨by rw [He3.out]; decide, _, rfl, by rw [He3.out]; exact ErrAt.new _ _ _ _ _, Gr.out.stp ((Stp.refl (fun _ => False) _ _).alloc _ 1) (fun _ h => h.elim)⟩⟩
    · obtain rfl : j = pn := by omega
      have hL := R.out.eq
      rw [← Hl.out, List.take_length] at hL
      have HL := Lib.hid (show addEr G [] l = 0 ∧ l.map Int.toNat = L by
        rw [hL]
        refine ⟨?_, by simp [ints, List.map_map, Function.comp_def]⟩
        rw [← List.append_nil (ints L), addEr_app (x := 0) L [] R.out.has (by simpa using R.out.nd)]; rfl)
      have hlen := R.out.gr.ha.1
      have B := Lib.hid (show Bd (ARest k A vs n oo N oc L) c1 wr k p 176 (.slice ao n cap) (.slice bo n bcap) ao n cap vs bo n bcap (G.map Value.bool) none none (.slice oo N oc) (.bool false) wr from
        ⟨c1, Stp.refl _ _ _, R.out.gr.hb, R.out.gr.ha, R.out.gr.hg, fun b hb => (by cases hb), fun b hb => (by cases hb), R.out.gr.hv, R.out.row⟩)
      have HR := Lib.hid (show RSt (ARest k A vs n oo N oc L) k from ARest.st hn')
      obtain ⟨b0, b1, f0, f1, hlt⟩ := B.out.facts
      have hn1 : n ≤ 1000 := by omega
      have Hlv := Lib.hid (show vs.length = n by omega)
      clear hL hlen
      go_wp2_with fail
      go_region_law (first
        | (refine step_appA (R := ARest k A vs n oo N oc L) (vA := .slice oo N oc) (vG := .bool false) (by repeat (first | exact B.out | apply Bd.drew (hR := HR.out) | apply Bd.allocA (hR := HR.out) | apply Bd.allocG (hR := HR.out) | apply Bd.setA (hR := HR.out) | apply Bd.setG (hR := HR.out))) HR.out rfl (.tmp 56) (.tmp 58) rfl rfl _ rfl (by simp) rfl hn1 ?_
           intro oA capA wA B
           obtain ⟨b0, b1, f0, f1, hlt⟩ := B.out.facts)
        | (refine step_appG (R := ARest k A vs n oo N oc L) (vA := .slice oo N oc) (vG := .bool false) (by repeat (first | exact B.out | apply Bd.drew (hR := HR.out) | apply Bd.allocA (hR := HR.out) | apply Bd.allocG (hR := HR.out) | apply Bd.setA (hR := HR.out) | apply Bd.setG (hR := HR.out))) HR.out rfl (.tmp 63) (.tmp 64) rfl rfl _ rfl (by simp) rfl hn1 ?_
           intro oG capG wG B
           obtain ⟨b0, b1, f0, f1, hlt⟩ := B.out.facts))
      all_goals
        go_wp2
        go_ret2
        refine add_end hn' Hla.out R.out.gr.lg Hlv.out (R.out.st.mono (fun j hj => ⟨by omega, by omega⟩)) HL.out ?_ (by repeat (first | exact B.out | apply Bd.drew (hR := HR.out) | apply Bd.allocA (hR := HR.out) | apply Bd.allocG (hR := HR.out) | apply Bd.setA (hR := HR.out) | apply Bd.setG (hR := HR.out)))
        omega
end Go.Proofs.Ytmhhhiegioniaaa
