/- The document's Add of a graph. No condition beyond the contract's own. -/
import Derived.Test.YtmhhhiegioniaaaRGraph5
import Derived.Deep.RegionWith
namespace Go.Proofs.Ytmhhhiegioniaaa
open Go.RowKit Go.Deep

theorem RefPost.same {c c' : Nat → Nat} {k : Nat} {w w' : World} {S : GS} {vs : List Value} {n : Nat} {ao : Option Addr} {cap : Nat} {bo : Option Addr} {bcap : Nat} {er : Int} (h : RefIs c k w S.1 S.2 vs n ao cap bo bcap) (s : Stp (fun _ => False) c c' w w') :
    RefPost c k w S er (.returned (.tuple #[.agg #[.slice ao n cap, .slice bo n bcap], .int .i64 er])) w' :=
  ⟨_, _, _, _, _, _, rfl, c', s.mono (fun _ h => h.elim), h.stp s (fun _ h => h.elim)⟩

theorem Row.re {c c' : Nat → Nat} {k : Nat} {w : World} {e : TypeId} {size : Nat} {ao : Option Addr} {n cap : Nat} {xs : List Value} (h : Row c k w e size ao n cap xs) (hc : ∀ i, c i = k → c' i = k) : Row c' k w e size ao n cap xs := by
  obtain ⟨h1, h2, h3, h4⟩ := h
  refine ⟨h1, h2, h3, ?_⟩
  cases ao with
  | none => exact h4
  | some a =>
    obtain ⟨hs, hcc, h5⟩ := h4
    exact ⟨hs, hc _ hcc, h5⟩

/-- What lies beside the two slices and the box. -/
def RR (k : Nat) (A : List (List Nat)) (vs : List Value) (n : Nat) (oo : Option Addr) (m oc : Nat) (L : List Nat) (qb : Nat) (c : Nat → Nat) (w : World) : Prop :=
  ARest k A vs n oo m oc L c w ∧ Blk c (k + 70) w qb [.slice none 0 0, .slice none 0 0] 134

theorem RR.st {k : Nat} {A : List (List Nat)} {vs : List Value} {n : Nat} {oo : Option Addr} {m oc : Nat} {L : List Nat} {qb : Nat} (hn : n < 64) : RSt (RR k A vs n oo m oc L qb) k := by
  intro c c' w w' st h
  exact ⟨ARest.st hn c c' w w' st h.1, h.2.stp st (by unfold BJ; omega)⟩

theorem Bd.res {k : Nat} {A : List (List Nat)} {vs : List Value} {n : Nat} {oo : Option Addr} {m oc : Nat} {L : List Nat} {qb : Nat} {c0 : Nat → Nat} {wB : World} {p : Nat} {tp : TypeId} {pA pG : Value} {oA : Option Addr} {nA capA : Nat} {xsA : List Value} {oG : Option Addr} {nG capG : Nat} {xsG : List Value} {tA tG : Option Nat} {vA vG : Value} {W : World}
    (h : Bd (RR k A vs n oo m oc L qb) c0 wB k p tp pA pG oA nA capA xsA oG nG capG xsG tA tG vA vG W) : W.cell? ⟨qb, 0, none⟩ = some (.slice none 0 0) ∧ W.cell? ⟨qb, 1, none⟩ = some (.slice none 0 0) ∧ W.frozen? ⟨qb, 0, none⟩ = false ∧ W.frozen? ⟨qb, 1, none⟩ = false ∧ qb < W.heap.size := by
  obtain ⟨c, -, -, -, -, -, -, -, hq⟩ := h
  exact ⟨by simpa using hq.cell 0, by simpa using hq.cell 1, hq.free 0, hq.free 1, hq.lt⟩

theorem RTwo.toBd {c : Nat → Nat} {k : Nat} {w : World} {pb qb : Nat} {S : GS} {vs : List Value} {n : Nat} {ao : Option Addr} {cap : Nat} {bo : Option Addr} {bcap : Nat} {c1 c5 : Nat → Nat} {wr w5 : World} {oo : Option Addr} {m oc : Nat} {L : List Nat}
    (h : RTwo c k w pb qb n ao cap bo bcap S vs n ao cap bo bcap c1 wr) (hn : n < 64) (hpb : w.heap.size ≤ pb) (st : Stp (· = k + 3 + n) c1 c5 wr w5) (hr : Row c5 (k + 3 + n) w5 3 1 oo m oc ((ints L).map (Value.int .i64))) (vG : Value) :
    ∃ c6, Stp (GJ k) c c6 w w5 ∧ Bd (RR k S.1 vs n oo m oc L qb) c6 w5 k pb 134 (.slice ao n cap) (.slice bo n bcap) ao n cap vs bo n bcap (S.2.map Value.bool) none none (.slice oo m oc) vG w5 := by
  have hbox := h.box.stp st (by omega)
  have hc5 := hbox.1
  have re : ∀ (j : Nat), j ≠ k + 70 → ∀ i, c5 i = j → (fun i => if i = pb then k else c5 i) i = j := fun j hj i hi => by
    simp only
    rw [if_neg (fun e => hj (by rw [← hi, e, hc5]))]
    exact hi
  have hst : Stp (GJ k) c c5 w w5 := h.st.trans (st.mono fun q hq => ⟨by omega, by omega⟩)
  refine ⟨fun i => if i = pb then k else c5 i, ⟨hst.os, hst.tape, hst.output, hst.size, fun i hi => ?_, hst.block⟩, _, Stp.refl _ _ _, ⟨by simp, hbox.2⟩, (h.rf.ha.stp st (by omega)).re (re _ (by omega)), (h.rf.hg.stp st (by omega)).re (re _ (by omega)), fun b hb => (by cases hb), fun b hb => (by cases hb), ⟨fun i hi => ?_, hr.re (re _ (by omega))⟩, ?_⟩
  · show (if i = pb then k else c5 i) = c i
    rw [if_neg (by omega)]
    exact hst.col i hi
  · obtain ⟨oi, ni, ci, h1, h2⟩ := h.rf.hv i hi
    exact ⟨oi, ni, ci, h1, (h2.stp st (by omega)).re (re _ (by omega))⟩
  · have hq := h.res.stp st (by omega)
    refine ⟨?_, hq.2⟩
    show (if qb = pb then k else c5 qb) = k + 70
    rw [if_neg (by have := h.ne; omega)]
    exact hq.1

def RAddPost (c : Nat → Nat) (k : Nat) (w : World) (S : GS) (l : List Int) (e : Ending) (w' : World) : Prop := RefPost c k w (addS S l) (addN S l) e w'

theorem radd_end {k p : Nat} {S : GS} {vs : List Value} {n : Nat} {oo : Option Addr} {m oc : Nat} {L : List Nat} {qb : Nat} {c c0 : Nat → Nat} {w wB W : World} {oA : Option Addr} {capA : Nat} {oG : Option Addr} {capG : Nat} {tA tG : Option Nat} {vG : Value} {l : List Int} {pA pG : Value} {tp : TypeId}
    (hn : n < 64) (hla : S.1.length = n) (hlg : S.2.length = n) (hlv : vs.length = n) (s : Stp (GJ k) c c0 w wB) (hq : w.heap.size ≤ qb) (hz : addN S l = 0 ∧ l.map Int.toNat = L)
    (h : Bd (RR k S.1 vs n oo m oc L qb) c0 wB k p tp pA pG oA (n + 1) capA (vs ++ [.slice oo m oc]) oG (n + 1) capG (S.2.map Value.bool ++ [.bool false]) tA tG (.slice oo m oc) vG W) :
    RAddPost c k w S l (.returned (.tuple #[.agg #[.slice oA (n + 1) capA, .slice oG (n + 1) capG], .int .i64 0])) ((W.setCell ⟨qb, 0, none⟩ (.slice oA (n + 1) capA)).setCell ⟨qb, 1, none⟩ (.slice oG (n + 1) capG)) := by
  obtain ⟨c1, h1, -, h3, h4, -, -, ⟨h7, h8⟩, h9⟩ := h
  have hs : Stp (GJ k) c c1 w W := s.trans (h1.mono fun j hj => by unfold BJ at hj; unfold GJ; omega)
  have s2 := ((Stp.refl (· = k + 70) c1 W).setCell (p := ⟨qb, 0, none⟩) (.slice oA (n + 1) capA) h9.1).setCell (p := ⟨qb, 1, none⟩) (.slice oG (n + 1) capG) h9.1
  rw [RAddPost, hz.1, addS, if_pos hz.1]
  refine ⟨_, _, _, _, _, _, rfl, c1, (hs.setNew (p := ⟨qb, 0, none⟩) _ hq).setNew (p := ⟨qb, 1, none⟩) _ hq, RefIs.stp ⟨h3, by simpa using h4, fun i hi => ?_, by simp [hla], by simp [hlg], by omega⟩ s2 (fun j hj => by unfold GJ; omega)⟩
  simp only
  rw [getD_app, hz.2]
  by_cases hin : i = n
  · subst hin
    refine ⟨oo, m, oc, ?_, ?_⟩
    · rw [List.getElem?_append_right (by omega), hlv]; simp
    · rw [if_pos hla.symm]; exact h8
  · obtain ⟨oi, ni, ci, e, hr⟩ := h7 i (by omega)
    exact ⟨oi, ni, ci, by rw [List.getElem?_append_left (by omega)]; exact e, by rw [if_neg (by omega)]; exact hr⟩

set_option maxRecDepth 100000 in
theorem r13add_many {c : Nat → Nat} {k : Nat} {w : World} {S : GS} {vs : List Value} {n : Nat} {ao : Option Addr} {cap : Nat} {bo : Option Addr} {bcap : Nat} (h : RefIs c k w S.1 S.2 vs n ao cap bo bcap) (hn : 64 ≤ S.1.length) (v : Value) :
    Calls Try.prog 89 #[.agg #[.slice ao n cap, .slice bo n bcap], v] w (RefPost c k w S 8) := by
  have H := Lib.hid h
  rw [h.la] at hn
  have t : decide ((64 : Int) ≤ (n : Int)) = true := by simp; omega
  clear h hn
  go_enter Try.func89, Try.ntmps89
  go_wp2
  refine bodyPost_ret (v := .tuple #[.agg #[.slice ao n cap, .slice bo n bcap], .int .i64 8]) (by simp [results, Try.results89, go_sem]) rfl ?_
  exact RefPost.same H.out (((Stp.refl (fun _ => False) c w).alloc _ 0).alloc _ 0)

theorem RefPost.add_bad {c : Nat → Nat} {k : Nat} {w : World} {S : GS} {l : List Int} {er : Int} {e : Ending} {w' : World} (h : RefPost c k w S er e w') (he : addN S l = er) (h0 : er ≠ 0) : RAddPost c k w S l e w' := by
  rw [RAddPost, he, addS, if_neg (by rw [he]; exact h0)]
  exact h

set_option maxRecDepth 100000 in
set_option maxHeartbeats 4000000 in
theorem r13add_any {c : Nat → Nat} {k : Nat} {w : World} {S : GS} {vs : List Value} {n : Nat} {ao : Option Addr} {cap : Nat} {bo : Option Addr} {bcap : Nat} (h : RefIs c k w S.1 S.2 vs n ao cap bo bcap) (hn : S.1.length < 64) {ka : Nat} {po : Option Addr} {pn pcap : Nat} {l : List Int} (hi : In c ka w 1 po pn pcap (l.map (Value.int .i64))) (hka : ¬ GJ k ka) (hpn : pn ≤ 1000) :
    Calls Try.prog 89 #[.agg #[.slice ao n cap, .slice bo n bcap], .slice po pn pcap] w (RAddPost c k w S l) := by
  have T1 := Lib.hid (RTwo.start h)
  have Hn := Lib.hid hn
  rw [h.la] at hn
  have Hn2 := Lib.hid hn
  have Hlv := Lib.hid (show vs.length = n by have := h.ha.1; omega)
  have t : decide ((64 : Int) ≤ (n : Int)) = false := by simp; omega
  have Hi := Lib.hid hi
  have Hka := Lib.hid hka
  have Hl := Lib.hid (show l.length = pn by have := hi.1; simpa using this)
  obtain ⟨pb, hpb⟩ : ∃ pb, pb = w.heap.size := ⟨_, rfl⟩
  obtain ⟨qb, hqb⟩ : ∃ qb, qb = w.heap.size + 1 := ⟨_, rfl⟩
  clear h hi hka
  go_enter Try.func89, Try.ntmps89
  go_wp2_with fail
  rw [← hqb, ← hpb] at T1
  rw [← hqb, ← hpb]
  have Hpb := Lib.hid (show w.heap.size ≤ pb by omega)
  clear hqb hpb
  go_loopw [6] (fun i wr => ∃ (c' : Nat → Nat) (j : Nat) (L : List Nat), i = .int .i64 j ∧ j ≤ pn ∧ l.take j = ints L ∧ L.Nodup ∧ (∀ y ∈ L, hasB S.2 (y : Nat) = true) ∧ RTwo c k w pb qb n ao cap bo bcap S vs n ao cap bo bcap c' wr) (fun i _ => pn - (intOf i).toNat)
  case atStart => exact ⟨_, 0, [], rfl, Nat.zero_le _, rfl, List.nodup_nil, by simp, T1.out⟩
  case round =>
    obtain ⟨c1, j, L, rfl, hj, hL, hnd, hhas, hr⟩ := hrel
    have T := Lib.hid hr
    have HL := Lib.hid hL
    have Hnd := Lib.hid hnd
    have Hhas := Lib.hid hhas
    obtain ⟨p0, p1, q0, q1, f0, f1, lp, lq, nq⟩ := hr.facts
    clear hr hL hnd hhas T1
    by_cases hlt : j < pn
    · have hjl : j < l.length := by rw [Hl.out]; exact hlt
      have hIn := Hi.out.stp T.out.st Hka.out
      obtain ⟨a, ha, hc⟩ := hIn.ints hlt
      subst ha
      obtain ⟨x, hx⟩ : ∃ x, x = l.getD j 0 := ⟨_, rfl⟩
      rw [← hx] at hc
      have hd : l.drop j = x :: l.drop (j + 1) := by
        rw [List.drop_eq_getElem_cons hjl, hx]
        simp [List.getD, hjl]
      have Hd := Lib.hid hd
      have HE := Lib.hid (show addN S l = addEr S.2 L (x :: l.drop (j + 1)) by
        rw [addN_ne l Hn.out]
        conv => lhs; rw [← List.take_append_drop j l, HL.out, hd]
        rw [addEr_app (x := x) L [] Hhas.out (by simpa using Hnd.out), List.nil_append])
      have HI := Lib.hid hIn
      have hjn : (j : Int) ≤ pn := by omega
      have hcap : (pn : Int) ≤ pcap := by have := hIn.2.1; omega
      clear hx hd hjl hIn
      by_cases hb : hasB S.2 x = true
      · have Hb := Lib.hid hb
        obtain ⟨y, rfl⟩ : ∃ y : Nat, x = y := ⟨x.toNat, by have := (hasB_lt hb).1; omega⟩
        clear hb
        go_wp2_with fail
        go_region_with ((go_at_call 96; refine (r13has_any (T.out.rf.stp ((Stp.refl (fun _ => False) c1 wr).drew) (fun _ h => h.elim)) _ true Hb.out).mono ?_; rintro e w5 ⟨rfl, c5, s5⟩))
        all_goals
          have T5 := Lib.hid ((T.out.stpF (Stp.refl (fun _ => False) c1 wr).drew).stpF s5)
          have I5 := Lib.hid (show In c5 ka w5 1 (some a) j pcap ((ints L).map (Value.int .i64)) from by
            have h1 := ((HI.out.drew.stp s5 id).take (q := j) (by omega))
            rw [Nat.mul_one, ← List.map_take, HL.out] at h1
            exact h1)
          have hc5 := (World.cell?_of_block (s5.block (a.add j).block (World.block_lt_of_cell? _ _ hc) id)).trans hc
          clear s5 p0 p1 q0 q1 f0 f1 lp lq nq hc
          obtain ⟨p0, p1, q0, q1, f0, f1, lp, lq, nq⟩ := T5.out.facts
          by_cases hm : y ∈ L
          · have Hm := Lib.hid (show decide ((y : Int) ∈ ints L) = true by rw [decide_eq_true_iff, ints_mem]; exact hm)
            have He4 := Lib.hid (show addN S l = 4 by rw [HE.out, addEr, if_neg (by rw [Hb.out]; decide), if_pos (ints_mem.2 hm)])
            clear hm
            go_wp2_with fail
            go_region_with ((go_at_call 82; refine (in13_any I5.out.drew _ true Hm.out).mono ?_; rintro e w' ⟨rfl, rfl⟩))
            all_goals
              go_wp2
              exact bodyPost_ret (v := .tuple #[.agg #[.slice ao n cap, .slice bo n bcap], .int .i64 4]) (by simp [results, Try.results89, go_sem, q0, q1]) rfl (((T5.out.stpF (Stp.refl (fun _ => False) c5 w5).drew).fin 4).add_bad He4.out (by decide))
          · have Hm := Lib.hid (show decide ((y : Int) ∈ ints L) = false by rw [decide_eq_false_iff_not, ints_mem]; exact hm)
            have Hnd2 := Lib.hid (show (L ++ [y]).Nodup by
              rw [List.nodup_append]
              exact ⟨Hnd.out, by simp, by intro a ha b hb; simp at hb; subst hb; rintro rfl; exact hm ha⟩)
            have Htk := Lib.hid (show l.take (j + 1) = ints (L ++ [y]) by
              have hjl : j < l.length := by rw [Hl.out]; exact hlt
              have h1 := Hd.out
              rw [List.drop_eq_getElem_cons hjl] at h1
              rw [List.take_succ_eq_append_getElem hjl, HL.out, (List.cons.inj h1).1, ints_app]; rfl)
            have Hhas2 := Lib.hid (show ∀ z ∈ L ++ [y], hasB S.2 (z : Nat) = true from fun z hz => by
              rcases List.mem_append.1 hz with hz | hz
              · exact Hhas.out z hz
              · simp at hz; subst hz; exact Hb.out)
            clear hm
            go_wp2_with fail
            go_region_with ((go_at_call 82; refine (in13_any I5.out.drew _ false Hm.out).mono ?_; rintro e w' ⟨rfl, rfl⟩))
            all_goals
              go_wp2
              go_roundw
              case rel => exact ⟨c5, j + 1, L ++ [y], by go_num, by omega, Htk.out, Hnd2.out, Hhas2.out, T5.out.stpF (Stp.refl (fun _ => False) c5 w5).drew⟩
              case measure => simp [intOf]; omega
      · have Hb := Lib.hid (show hasB S.2 x = false by simpa using hb)
        have He3 := Lib.hid (show addN S l = 3 by rw [HE.out, addEr, if_pos Hb.out])
        clear hb
        go_wp2_with fail
        go_region_with ((go_at_call 96; refine (r13has_any (T.out.rf.stp ((Stp.refl (fun _ => False) c1 wr).drew) (fun _ h => h.elim)) _ false Hb.out).mono ?_; rintro e w5 ⟨rfl, c5, s5⟩))
        all_goals
          have T5 := Lib.hid ((T.out.stpF (Stp.refl (fun _ => False) c1 wr).drew).stpF s5)
          clear s5 p0 p1 q0 q1 f0 f1 lp lq nq
          obtain ⟨p0, p1, q0, q1, f0, f1, lp, lq, nq⟩ := T5.out.facts
          go_wp2
          exact bodyPost_ret (v := .tuple #[.agg #[.slice ao n cap, .slice bo n bcap], .int .i64 3]) (by simp [results, Try.results89, go_sem, q0, q1]) rfl ((T5.out.fin 3).add_bad He3.out (by decide))
    · obtain rfl : pn = j := by omega
      have HZ := Lib.hid (show addN S l = 0 ∧ l.map Int.toNat = L by
        have h1 := HL.out
        rw [← Hl.out, List.take_length] at h1
        rw [addN_ne l Hn.out, h1]
        refine ⟨?_, by simp [ints, List.map_map, Function.comp_def]⟩
        rw [← List.append_nil (ints L), addEr_app (x := 0) L [] Hhas.out (by simpa using Hnd.out)]; rfl)
      have HLL := Lib.hid (show ints L = l by
        have h1 := HL.out
        rw [← Hl.out, List.take_length] at h1
        exact h1.symm)
      have HI := Lib.hid (Hi.out.stp T.out.st Hka.out)
      have d1 : Hid (0 + pn ≤ maxLen) := Lib.hid (by unfold maxLen; omega)
      have d2 : Hid ((0 + pn) * 8 ≤ 140737488355328) := Lib.hid (by omega)
      clear hlt
      go_wp2_with (at_builtin; refine wpList_append_row _ rfl (.tmp 36) (.tmp 37) 40 rfl c1 (k + 3 + n) 3 (.int .i64 0) 1 8 Try.underlying40 Try.infoInt rfl none 0 0 [] rfl (Row.nil _ _ _ _ _) (.slice po pn pcap) pn (l.map (Value.int .i64)) rfl HI.out.src (ints_one _) d1.out d2.out ?_)
      intro oo oc w5 hr5 st5 _
      obtain ⟨c6, s6, hbd⟩ := T.out.toBd (L := L) Hn2.out Hpb.out st5 (by rw [HLL.out]; simpa using hr5) (.bool false)
      have B := Lib.hid hbd
      have HR := Lib.hid (show RSt (RR k S.1 vs n oo pn oc L qb) k from RR.st Hn2.out)
      have S6 := Lib.hid s6
      clear p0 p1 q0 q1 f0 f1 lp lq hr5 st5 hbd s6
      obtain ⟨b0, b1, -, -, hlt⟩ := B.out.facts
      obtain ⟨q0, q1, f0, f1, lq⟩ := B.out.res
      have hn1 : n ≤ 1000 := by omega
      go_wp2_with fail
      go_region_law (first
        | (refine step_appA (R := RR k S.1 vs n oo pn oc L qb) (vA := .slice oo pn oc) (vG := .bool false) (by repeat (first | exact B.out | apply Bd.drew (hR := HR.out) | apply Bd.allocA (hR := HR.out) | apply Bd.allocG (hR := HR.out))) HR.out rfl (.tmp 40) (.tmp 42) rfl rfl _ rfl (by simp) rfl hn1 ?_
           intro oA capA wA B
           obtain ⟨b0, b1, -, -, hlt⟩ := B.out.facts
           obtain ⟨q0, q1, f0, f1, lq⟩ := B.out.res)
        | (refine step_appG (R := RR k S.1 vs n oo pn oc L qb) (vA := .slice oo pn oc) (vG := .bool false) (by repeat (first | exact B.out | apply Bd.drew (hR := HR.out) | apply Bd.allocA (hR := HR.out) | apply Bd.allocG (hR := HR.out))) HR.out rfl (.tmp 45) (.tmp 46) rfl rfl _ rfl (by simp) rfl hn1 ?_
           intro oG capG wG B
           obtain ⟨b0, b1, -, -, hlt⟩ := B.out.facts
           obtain ⟨q0, q1, f0, f1, lq⟩ := B.out.res))
      all_goals
        go_wp2
        exact bodyPost_ret (v := .tuple #[.agg #[.slice oA (n + 1) capA, .slice oG (n + 1) capG], .int .i64 0]) (by simp [results, Try.results89, go_sem, q0, q1]) rfl (radd_end Hn2.out T.out.rf.la T.out.rf.lg Hlv.out S6.out T.out.new HZ.out (by repeat (first | exact B.out | apply Bd.drew (hR := HR.out) | apply Bd.allocA (hR := HR.out) | apply Bd.allocG (hR := HR.out))))
end Go.Proofs.Ytmhhhiegioniaaa
