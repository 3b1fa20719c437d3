/- Contracts of the graph's ready and Order. No condition beyond each contract's own. -/
import Derived.Test.YtmhhhiegioniaaaGraph7
import Derived.Deep.LoopGhost
namespace Go.Proofs.Ytmhhhiegioniaaa
open Go.RowKit Go.Deep

/-- So many bits. -/
def bitsN (n : Nat) (S : Nat → Bool) : List Value := (List.range n).map (fun i => Value.bool (S i))
theorem bitsN_len (n : Nat) (S : Nat → Bool) : (bitsN n S).length = n := by simp [bitsN]
theorem bitsN_get {n : Nat} {S : Nat → Bool} {i : Nat} (h : i < n) : (bitsN n S)[i]? = some (.bool (S i)) := by simp [bitsN, h]
theorem bitsN_set (n : Nat) (S : Nat → Bool) (x : Nat) : (bitsN n S).set x (.bool true) = bitsN n (upd S x) := by
  apply List.ext_getElem?
  intro i
  rw [List.getElem?_set]
  by_cases h : x = i
  · subst h
    by_cases hx : x < n
    · rw [if_pos rfl, if_pos (by simp [bitsN, hx]), bitsN_get hx]; simp [upd]
    · rw [if_pos rfl, if_neg (by simp [bitsN]; omega), List.getElem?_eq_none (by simp [bitsN]; omega)]
  · rw [if_neg h]
    by_cases hi : i < n
    · rw [bitsN_get hi, bitsN_get hi, upd, if_neg (fun e => h e.symm)]
    · rw [List.getElem?_eq_none (by simp [bitsN]; omega), List.getElem?_eq_none (by simp [bitsN]; omega)]

set_option maxRecDepth 100000 in
theorem grready_any {c : Nat → Nat} {k : Nat} {w : World} {p : Nat} {A : List (List Nat)} {G : List Bool} (h : GraphAt c k w p A G) (gd : Good A G) (x : Nat) (hx : x < A.length) {kp : Nat} {po : Option Addr} {pcap m : Nat} {S : Nat → Bool} (hp : Row c kp w 4 1 po m pcap (bitsN m S)) (hm : m = A.length) (b : Bool) (hb : (A.getD x []).all S = b) :
    Calls Try.prog 119 #[.pointer (some ⟨p, 0, none⟩), .int .i64 x, .slice po m pcap] w fun e w' => e = .returned (.bool b) ∧ w = w' := by
  obtain ⟨vs, n, ao, cap, bo, bcap, h⟩ := h
  rw [h.la] at hx hm
  subst hm
  obtain ⟨g, off, oi, ci, rfl, -, -, y0, -, hr⟩ := h.node hx
  have b0 := h.hb.cell 0
  simp at b0
  have hle := h.le
  have hl : (x : Int) < m := by omega
  have HR := Lib.hid hr
  have HP := Lib.hid hp
  have Hb := Lib.hid hb
  have Hlt := Lib.hid (show ∀ y ∈ A.getD x [], y < m from fun y hy => by have := gd.lt hy; have := h.la; omega)
  have hsm := gd.small x
  obtain ⟨l, hl0⟩ : ∃ l, l = A.getD x [] := ⟨_, rfl⟩
  rw [← hl0] at y0 HR Hb Hlt hsm
  obtain ⟨L, hL⟩ : ∃ L, L = l.length := ⟨_, rfl⟩
  rw [← hL] at y0 HR hsm
  have HL := Lib.hid hL
  clear h hr hp hb gd hl0 hL hx
  go_enter Try.func119, Try.ntmps119
  go_wp2
  go_loop [17] (fun i => ∃ j : Nat, j ≤ L ∧ i = .int .i64 j ∧ Hid (∀ q ∈ l.take j, S q = true)) (fun i => L - (intOf i).toNat)
  case atStart => exact ⟨0, Nat.zero_le _, rfl, Lib.hid (by simp)⟩
  case round =>
    obtain ⟨j, hj, rfl, HS⟩ := hrel
    by_cases hlt : j < L
    · have hjl : j < l.length := by rw [← HL.out]; exact hlt
      obtain ⟨y, hy⟩ : ∃ y, y = l[j] := ⟨_, rfl⟩
      have hym : y ∈ l := by rw [hy]; exact List.getElem_mem hjl
      have hylt := Hlt.out y hym
      have Htk := Lib.hid (show l.take (j + 1) = l.take j ++ [y] by rw [List.take_succ_eq_append_getElem hjl, hy])
      obtain ⟨a, ha, hs, hc, -, hadd, -⟩ := HR.out.cell (j := j) (v := .int .i64 (y : Nat)) (by rw [getD_val _ _ hjl]; simp [List.getD, hjl, hy])
      obtain ⟨g1, off1, sp1⟩ := a
      simp only at hs
      subst hs ha
      rw [hadd] at hc
      obtain ⟨a2, ha2, hs2, hc2, -, hadd2, -⟩ := HP.out.cell (bitsN_get (S := S) hylt)
      obtain ⟨g2, off2, sp2⟩ := a2
      simp only at hs2
      subst hs2 ha2
      rw [hadd2] at hc2
      have Hym := Lib.hid hym
      have hy1 : (y : Int) < m := by omega
      clear hy hjl hadd hadd2 hym
      by_cases hS : S y = true
      · have Ht := Lib.hid (show ∀ q ∈ l.take (j + 1), S q = true from fun q hq => by
          rw [Htk.out] at hq
          rcases List.mem_append.1 hq with hq | hq
          · exact HS.out q hq
          · simp at hq; rw [hq]; exact hS)
        rw [hS] at hc2
        clear hS
        go_wp2
        go_round
        case rel => exact ⟨j + 1, by omega, by go_num, Ht⟩
        case measure => simp [intOf]; omega
      · have hS' : S y = false := by simpa using hS
        have Hbf := Lib.hid (show b = false by
          rw [← Hb.out, List.all_eq_false]
          exact ⟨y, Hym.out, hS⟩)
        rw [hS'] at hc2
        clear hS hS'
        go_wp2
        go_ret
        rw [Hbf.out]
        exact ⟨rfl, rfl⟩
    · have Hbt := Lib.hid (show b = true by
        rw [← Hb.out, List.all_eq_true]
        intro q hq
        refine HS.out q ?_
        rw [List.take_of_length_le (by rw [← HL.out]; omega)]
        exact hq)
      go_wp2
      go_ret
      rw [Hbt.out]
      exact ⟨rfl, rfl⟩

/-! ### Order -/

theorem made_bits (n : Nat) : madeCells #[.bool false] n = (bitsN n fun _ => false).toArray := by
  apply Array.toList_inj.1
  rw [toList_madeCells_one]
  show _ = (List.range n).map (fun _ => Value.bool false)
  rw [List.map_const', List.length_range]

def nextP (A : List (List Nat)) (G : List Bool) (L : List Nat) (n : Nat) : Bool := hasB G n && !(decide (n ∈ L)) && (A.getD n []).all (fun k => decide (k ∈ L))

theorem nextN_eq {A : List (List Nat)} {G : List Bool} {L : List Nat} {j : Nat} (hj : j < A.length) (h : nextP A G L j = true) (hb : ∀ i, i < j → nextP A G L i = false) : nextN A G L = some j := by
  rw [nextN, List.find?_range_eq_some]
  exact ⟨h, List.mem_range.2 hj, fun i hi => by have := hb i hi; rw [nextP] at this; rw [this]; rfl⟩

theorem nextN_eq_none {A : List (List Nat)} {G : List Bool} {L : List Nat} (hb : ∀ i, i < A.length → nextP A G L i = false) : nextN A G L = none := by
  rw [nextN, List.find?_eq_none]
  intro i hi
  have := hb i (List.mem_range.1 hi)
  rw [nextP] at this
  rw [this]
  decide

theorem upd_mem (L : List Nat) (x : Nat) : upd (fun i => decide (i ∈ L)) x = fun i => decide (i ∈ L ++ [x]) := by
  funext i
  unfold upd
  by_cases h : i = x
  · subst h; simp
  · rw [if_neg h]; simp [h]

structure ORel (c0 : Nat → Nat) (k kp kr : Nat) (w : World) (p : Nat) (A : List (List Nat)) (G : List Bool) (m pb : Nat) (L : List Nat) (oo : Option Addr) (N oc : Nat) (c' : Nat → Nat) (wr : World) : Prop where
  len : N = L.length
  row : Row c' kr wr 3 1 oo N oc ((ints L).map (Value.int .i64))
  pl : Blk c' kp wr pb (bitsN m (fun i => decide (i ∈ L))) 4
  gr : GraphAt c' k wr p A G
  st : Stp (fun j => j = kr ∨ j = kp) c0 c' w wr
  ord : Ordd A G L
  eq : ordL A G = ordF A G (m - N) L
  lm : m = A.length

theorem ORel.next {c0 : Nat → Nat} {k kp kr : Nat} {w : World} {p : Nat} {A : List (List Nat)} {G : List Bool} {m pb : Nat} {L : List Nat} {oo : Option Addr} {N oc : Nat} {c' : Nat → Nat} {wr : World} (h : ORel c0 k kp kr w p A G m pb L oo N oc c' wr) {j : Nat} (hj : nextN A G L = some j)
    {oo2 : Option Addr} {oc2 : Nat} {c2 : Nat → Nat} {w2 : World} (hr : Row c2 kr w2 3 1 oo2 (N + 1) oc2 ((ints L).map (Value.int .i64) ++ [.int .i64 (j : Int)])) (st : Stp (· = kr) c' c2 wr w2) (hk : ¬ GJ k kr) (hk2 : ¬ GJ k kp) (hd : kr ≠ kp) :
    N < m ∧ ORel c0 k kp kr w p A G m pb (L ++ [j]) oo2 (N + 1) oc2 c2 (w2.setCell ⟨pb, j, none⟩ (.bool true)) := by
  have h1 := h.ord.next hj
  have h2 := h1.len
  have hl := h.len
  have hm := h.lm
  have hN : N < m := by simp at h2; omega
  have hpl := h.pl.stp st (fun e => hd e.symm)
  have hgr := h.gr.stp st (fun q hq => by rw [hq]; exact hk)
  refine ⟨hN, by rw [List.length_append, ← hl]; rfl, ?_, ?_, ?_, ?_, h1, ?_, hm⟩
  · rw [ints_app, List.map_append]
    exact hr.other (u := .bool true) _ (hr.ne_col (by simp only; rw [hpl.1]; exact fun e => hd e.symm)) rfl
  · rw [← upd_mem, ← bitsN_set]
    exact hpl.set j (.bool true)
  · exact hgr.stp ((Stp.refl (· = kp) c2 w2).setCell _ hpl.1) (fun q hq => by rw [hq]; exact hk2)
  · exact (h.st.trans (st.mono fun _ h => .inl h)).setCell _ (.inr hpl.1)
  · rw [h.eq, show m - N = (m - (N + 1)) + 1 by omega, ordF, hj]

theorem ORel.last {c0 : Nat → Nat} {k kp kr : Nat} {w : World} {p : Nat} {A : List (List Nat)} {G : List Bool} {m pb : Nat} {L : List Nat} {oo : Option Addr} {N oc : Nat} {c' : Nat → Nat} {wr : World} (h : ORel c0 k kp kr w p A G m pb L oo N oc c' wr) (hj : nextN A G L = none) : L = ordL A G := by
  rw [h.eq, ordF_none hj]

set_option maxRecDepth 100000 in
set_option maxHeartbeats 1000000 in
theorem grorder_any {c : Nat → Nat} {k : Nat} {w : World} {p : Nat} {A : List (List Nat)} {G : List Bool} (h : GraphAt c k w p A G) (gd : Good A G) (kp kr : Nat) (hd : kr ≠ kp) (hkp : ¬ GJ k kp) (hkr : ¬ GJ k kr) :
    Calls Try.prog 79 #[.pointer (some ⟨p, 0, none⟩)] w fun e w' => ∃ ao cap, e = .returned (.slice ao (ordL A G).length cap) ∧ ∃ c', Stp (fun j => j = kr ∨ j = kp) c c' w w' ∧ Row c' kr w' 3 1 ao (ordL A G).length cap ((ints (ordL A G)).map (Value.int .i64)) := by
  have H := Lib.hid h
  have Gd := Lib.hid gd
  have Hd := Lib.hid hd
  have Hkp := Lib.hid hkp
  have Hkr := Lib.hid hkr
  obtain ⟨m, hm⟩ : ∃ m, m = A.length := ⟨_, rfl⟩
  have hle := gd.le
  rw [← hm] at hle
  have Hm := Lib.hid hm
  obtain ⟨i0, hi, hz0, hz1, hz2⟩ := info_parts Try.infoBoolG
  have hmk : ∀ wx : World, (Instr.makeSlice 76 (.int .i64 (m : Int)) (.int .i64 (m : Int))).run Try.prog wx = .ok (.slice (some ⟨wx.heap.size, 0, none⟩) m m) (wx.alloc (.cells (bitsN m fun _ => false).toArray 4)) := fun wx => by
    have := run_make (P := Try.prog) wx 76 4 i0 (.bool false) Try.underlying76 hi hz0 .i64 .i64 m m (by omega) (Int.le_refl _) (by rw [hz2]; omega) (by omega)
    rw [hz1, show (Value.bool false).cells = #[.bool false] from rfl, Int.toNat_natCast, Nat.mul_one, made_bits] at this
    exact this
  obtain ⟨c1, hc1, A1⟩ := ((Stp.refl (fun _ => False) c w).alloc (.cells (bitsN m fun _ => false).toArray 4) kp).name
  have R0 := Lib.hid (show ORel c k kp kr w p A G m w.heap.size [] none 0 0 c1 (w.alloc (.cells (bitsN m fun _ => false).toArray 4)) from
    ⟨rfl, Row.nil _ _ _ _ _, by rw [hc1.out]; simpa using Blk.new c kp w (bitsN m fun _ => false) 4, h.stp A1.out (fun _ h => h.elim), A1.out.mono (fun _ h => h.elim), Ordd.nil A G, by rw [ordL, hm]; rfl, hm⟩)
  clear h gd hd hkp hkr hm hc1 A1 hi hz0 hz1 hz2
  go_enter Try.func79, Try.ntmps79
  go_wp2_with (go_at_call 81; refine (grlen_any H.out).mono ?_; rintro e w' ⟨rfl, rfl⟩; rw [← Hm.out])
  go_step3
  go_wp2_with (go_at_call 81; refine (grlen_any H.out).mono ?_; rintro e w' ⟨rfl, rfl⟩; rw [← Hm.out])
  go_step3
  go_wp2_with (go_at_call 81; refine (grlen_any H.out).mono ?_; rintro e w' ⟨rfl, rfl⟩; rw [← Hm.out])
  obtain ⟨wa, hwa⟩ : ∃ wa : World, wa = w.alloc (.cells (bitsN m fun _ => false).toArray 4) := ⟨_, rfl⟩
  rw [← hwa] at R0 ⊢
  obtain ⟨pb, hpb⟩ : ∃ pb, pb = w.heap.size := ⟨_, rfl⟩
  rw [← hpb] at R0 ⊢
  clear hmk hwa hpb
  go_loopg [3] m (fun g v wr => ∃ (c' : Nat → Nat) (L : List Nat) (oo : Option Addr) (N oc : Nat), v = .slice oo N oc ∧ g + N = m ∧ ORel c k kp kr w p A G m pb L oo N oc c' wr)
  case atStart => exact ⟨c1, [], none, 0, 0, rfl, by omega, R0.out⟩
  case round =>
    obtain ⟨c2, L, oo, N, oc, rfl, hg, hr⟩ := hrel
    have R := Lib.hid hr
    have Hg := Lib.hid hg
    clear hr hg R0
    obtain ⟨wo, rfl⟩ : ∃ wo : World, wo = wr := ⟨_, rfl⟩
    obtain ⟨go, rfl⟩ : ∃ go : Nat, go = gk := ⟨_, rfl⟩
    go_wp2_with (go_at_call 81; refine (grlen_any R.out.gr).mono ?_; rintro e w' ⟨rfl, rfl⟩; rw [← Hm.out])
    go_loopg [3, 11] m (fun g v i wr => ∃ j : Nat, v = .slice oo N oc ∧ i = .int .i64 j ∧ g + j = m ∧ wr = wo ∧ Hid (∀ q, q < j → nextP A G L q = false))
    case atStart => exact ⟨0, rfl, rfl, by omega, rfl, Lib.hid (fun q hq => absurd hq (Nat.not_lt_zero _))⟩
    case round =>
      obtain ⟨j, rfl, rfl, hg, rfl, HQ⟩ := hrel
      by_cases hlt : j < m
      · have hq1 : ∀ (b : Bool), nextP A G L j = b → b = false → Hid (∀ q, q < j + 1 → nextP A G L q = false) := fun b e hb => Lib.hid (fun q hq => by
          by_cases e2 : q = j
          · rw [e2, e, hb]
          · exact HQ.out q (by omega))
        have Hq := Lib.hid hq1
        clear hq1
        have Hjlt := Lib.hid (show j < A.length by rw [← Hm.out]; exact hlt)
        by_cases hh : hasB G j = true
        · have Hh := Lib.hid hh
          obtain ⟨a, ha, hs, hc, hfr, hadd, -⟩ := (Row.blk R.out.pl (by rw [bitsN_len, Nat.mul_one]) (by unfold maxLen; omega)).cell (bitsN_get (S := fun i => decide (i ∈ L)) hlt)
          cases ha
          rw [hadd] at hc hfr
          simp only [Nat.zero_add] at hc hfr
          by_cases hin : j ∈ L
          · rw [decide_eq_true hin] at hc
            have HN := Hq.out _ (show nextP A G L j = false by simp [nextP, hin]) rfl
            clear hh hin hadd
            go_wp2_with (first
              | (go_at_call 80; refine (ghas_yes R.out.gr _ Hh.out).mono ?_; rintro e w' ⟨rfl, rfl⟩))
            go_roundg (gk - 1)
            case rel => exact ⟨j + 1, rfl, by go_num, by omega, rfl, HN⟩
            case measure => omega
          · rw [decide_eq_false hin] at hc
            have Hin := Lib.hid hin
            have HP := Lib.hid (Row.blk R.out.pl (by rw [bitsN_len, Nat.mul_one]) (by unfold maxLen; omega))
            by_cases hrd : (A.getD j []).all (fun i => decide (i ∈ L)) = true
            · have Hrd := Lib.hid hrd
              have HX := Lib.hid (nextN_eq Hjlt.out (show nextP A G L j = true by simp only [nextP, hh, hrd, decide_eq_false hin]; rfl) HQ.out)
              have hN : N ≤ 64 := by have := R.out.len; have := R.out.ord.len; have := Hm.out; omega
              have d1 : Hid (N + 1 ≤ maxLen) := Lib.hid (by unfold maxLen; omega)
              have d2 : Hid ((N + 1) * 8 ≤ 140737488355328) := Lib.hid (by omega)
              clear hh hin hrd hadd
              go_wp2_with (first
                | (go_at_call 80; refine (ghas_yes R.out.gr _ Hh.out).mono ?_; rintro e w' ⟨rfl, rfl⟩)
                | (go_at_call 119; refine (grready_any R.out.gr Gd.out _ Hjlt.out HP.out Hm.out true Hrd.out).mono ?_; rintro e w' ⟨rfl, rfl⟩)
                | (at_builtin; refine wpList_append_row _ rfl (.tmp 32) (.tmp 34) 40 rfl (paint c2 wr.heap.size kr) kr 3 (.int .i64 0) 1 8 Try.underlying40 Try.infoInt rfl oo N oc ((ints L).map (Value.int .i64)) rfl (R.out.row.alloc _ kr) _ 1 [.int .i64 (j : Int)] rfl (Src.one wr _ 3) (by simp [Value.oneCell']) d1.out d2.out ?_))
              intro oo2 oc2 w2 hr2 st2 _
              have s2 := ((Stp.refl (· = kr) c2 wr).alloc (.cells #[.int .i64 (j : Int)] 3) kr).trans st2
              have hpf := (R.out.pl.stp s2 (fun e => Hd.out e.symm)).free j
              have hpc := (R.out.pl.stp s2 (fun e => Hd.out e.symm)).cell j
              rw [bitsN_get hlt, decide_eq_false Hin.out] at hpc
              obtain ⟨hNm, R2⟩ := R.out.next HX.out hr2 s2 Hkr.out Hkp.out Hd.out
              have R3 := Lib.hid R2
              have hgo := Hg.out
              clear R2 hr2 st2 s2 hc hfr hN
              go_wp2
              go_roundg (go - 1)
              case rel => exact ⟨_, _, oo2, N + 1, oc2, rfl, by omega, R3.out⟩
              case measure => omega
            · have Hrd := Lib.hid (show (A.getD j []).all (fun i => decide (i ∈ L)) = false by simpa using hrd)
              have HN := Hq.out _ (show nextP A G L j = false by rw [nextP, Hrd.out, Bool.and_false]) rfl
              clear hh hin hrd hadd
              go_wp2_with (first
                | (go_at_call 80; refine (ghas_yes R.out.gr _ Hh.out).mono ?_; rintro e w' ⟨rfl, rfl⟩)
                | (go_at_call 119; refine (grready_any R.out.gr Gd.out _ Hjlt.out HP.out Hm.out false Hrd.out).mono ?_; rintro e w' ⟨rfl, rfl⟩))
              go_roundg (gk - 1)
              case rel => exact ⟨j + 1, rfl, by go_num, by omega, rfl, HN⟩
              case measure => omega
        · have Hh := Lib.hid (show hasB G j = false by simpa using hh)
          have HN := Hq.out _ (show nextP A G L j = false by simp [nextP, Hh.out]) rfl
          clear hh
          go_wp2_with (go_at_call 80; refine (ghas_no R.out.gr _ Hh.out).mono ?_; rintro e w' ⟨rfl, rfl⟩)
          go_roundg (gk - 1)
          case rel => exact ⟨j + 1, rfl, by go_num, by omega, rfl, HN⟩
          case measure => omega
      · obtain rfl : j = m := by omega
        have HL := Lib.hid (R.out.last (nextN_eq_none fun i hi => HQ.out i (by rw [Hm.out]; exact hi)))
        go_wp2
        try rw [Exit.noGoto_ret]
        go_ret
        rw [← HL.out, ← R.out.len]
        exact ⟨oo, oc, rfl, c2, R.out.st, R.out.row⟩

theorem grorder_p {c : Nat → Nat} {k : Nat} {w : World} {p : Nat} {A : List (List Nat)} {G : List Bool} (h : GraphAt c k w p A G) (gd : Good A G) (kr : Nat) :
    Calls Try.prog 79 #[.pointer (some ⟨p, 0, none⟩)] w (NewInts c kr w (ordL A G)) := by
  refine (grorder_any h.recol gd (k + 70) (k + 71) (by omega) (by unfold GJ; omega) (by unfold GJ; omega)).mono ?_
  rintro e w' ⟨ao, cap, rfl, c', st, hr⟩
  exact ⟨ao, cap, rfl, _, st.pure (fun i hi => by rcases hi with hi | hi <;> exact recol_ne c k _ ⟨by omega, by omega⟩ i hi) c kr, hr.fresh st (recol_ne c k _ ⟨by omega, by omega⟩) c kr⟩
end Go.Proofs.Ytmhhhiegioniaaa
