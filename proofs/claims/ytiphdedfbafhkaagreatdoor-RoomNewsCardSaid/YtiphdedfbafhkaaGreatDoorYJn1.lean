/- Contracts that the closing theorem wants (Jn1). No condition beyond each law's own. -/
import Derived.Test.YtiphdedfbafhkaaGreatDoorZRpX
import Derived.Test.YtiphdedfbafhkaaGreatDoorZDwX
import Derived.Test.YtiphdedfbafhkaaGreatDoorZDwY
namespace Go.Proofs.YtiphdedfbafhkaaGreatDoor
open Go.RowKit

/-- How many cells a ring has. -/
def RD.size (d : RD) : Nat := if d.many = true then 2 + 2 ^ d.sh else 1
/-- A ring of the code's is the document's. -/
structure RJ (la : List Int) (k : Nat) (d : RD) (e : DR) : Prop where
  sh : d.sh ≤ 6
  n : e.n = ((2 ^ d.sh : Nat) : Int)
  many : e.many = d.many
  wl : e.wl = d.wl
  ids : d.ids = []
  b : -1 ≤ e.cl ∧ e.cl ≤ 64 * k ∧ -1 ≤ e.seen ∧ e.seen ≤ e.cl
  one : d.many = false → d.cl = e.cl ∧ la.getD d.cur 0 = e.pub ∧ d.ca = e.seen ∧ e.seen ≤ e.pub ∧ e.pub ≤ e.cl ∧ 0 ≤ d.sc ∧ d.sc ≤ k
  two : d.many = true → la.getD d.cur 0 = e.cl ∧ la.getD d.cac 0 = e.seen ∧ d.cac = d.cur + 1 ∧ d.first = d.cur + 2 ∧ e.shown.length = 2 ^ d.sh ∧
    ∀ s, s < 2 ^ d.sh → la.getD (d.first + s) 0 = e.shown.getD s 0 / 2 ^ d.sh ∧ (e.shown.getD s 0 = -1 ∨ 0 ≤ e.shown.getD s 0 ∧ e.shown.getD s 0 ≤ e.cl ∧ slotOf d.sh (e.shown.getD s 0) = s)
/-- An actor is ready, parked or halted. -/
def StOK (l : List One) : Prop := ∀ x ∈ l, x.state = 0 ∨ x.state = 1 ∨ x.state = 2
/-- A room of the code's is the document's. -/
structure J14 (k : Nat) (la : List Int) (now : Int) (tl dl : List Tm) (l : List One) (D : List RD) (R : List DR) : Prop where
  len : R.length = D.length
  rings : ∀ (i : Nat) (d : RD) (e : DR), D[i]? = some d → R[i]? = some e → RJ la k d e
  own : ∀ (i j : Nat) (d e : RD), i < j → D[i]? = some d → D[j]? = some e → d.cur + d.size ≤ e.cur
  fit : ∀ (i : Nat) (d : RD), D[i]? = some d → d.cur + d.size ≤ la.length
  ll : la.length ≤ 66 * D.length
  d8 : D.length ≤ 8
  wr : ∀ (i : Nat) (d : RD), D[i]? = some d → d.wl.Nodup ∧ ∀ x ∈ d.wl, 0 ≤ x ∧ x < l.length
  ts : tl = srt dl
  tw : ∀ t ∈ dl, wrongAt l t.who = 0
  tn : (dl.map Tm.who).Nodup
  l64 : l.length ≤ 64
  wk : WakesOK l (1000 * (k : Nat))
  nw : 0 ≤ now ∧ now ≤ 1099511627776
  st : StOK l

theorem nodup_len : ∀ (n : Nat) (l : List Int), l.Nodup → (∀ x ∈ l, 0 ≤ x ∧ x < n) → l.length ≤ n
  | 0, l, _, h => by
    cases l with
    | nil => simp
    | cons a t => have := h a (by simp); omega
  | n + 1, l, hn, h => by
    have h1 : (l.erase (n : Int)).length ≤ n := by
      refine nodup_len n _ (hn.erase _) (fun x hx => ?_)
      have h2 := h x (List.mem_of_mem_erase hx)
      have h3 : x ≠ n := fun e => by subst e; exact (hn.not_mem_erase) hx
      omega
    have := List.length_erase (a := (n : Int)) (l := l)
    split at this <;> omega

section
variable {k : Nat} {la la' : List Int} {now : Int} {tl dl : List Tm} {l l' : List One} {D : List RD} {R : List DR} {i : Nat} {d d' : RD} {e e' : DR}
theorem RJ.mono (h : RJ la k d e) {k' : Nat} (hk : k ≤ k') : RJ la k' d e :=
  ⟨h.sh, h.n, h.many, h.wl, h.ids, ⟨h.b.1, by have := h.b.2.1; omega, h.b.2.2⟩, fun hm => by obtain ⟨a1, a2, a3, a4, a5, a6, a7⟩ := h.one hm; exact ⟨a1, a2, a3, a4, a5, a6, by omega⟩, h.two⟩
theorem RJ.cong (h : RJ la k d e) (hc : ∀ x, d.cur ≤ x → x < d.cur + d.size → la'.getD x 0 = la.getD x 0) : RJ la' k d e := by
  refine ⟨h.sh, h.n, h.many, h.wl, h.ids, h.b, fun hm => ?_, fun hm => ?_⟩
  · have := h.one hm
    rw [hc d.cur (Nat.le_refl _) (by simp [RD.size, hm])]
    exact this
  · have hz : d.size = 2 + 2 ^ d.sh := by simp [RD.size, hm]
    obtain ⟨a1, a2, a3, a4, a5, a6⟩ := h.two hm
    refine ⟨?_, ?_, a3, a4, a5, fun s hs => ?_⟩
    · rw [hc d.cur (Nat.le_refl _) (by omega)]; exact a1
    · rw [hc d.cac (by omega) (by omega)]; exact a2
    · rw [hc (d.first + s) (by omega) (by omega)]; exact a6 s hs
theorem J14.mono (h : J14 k la now tl dl l D R) {k' : Nat} (hk : k ≤ k') : J14 k' la now tl dl l D R :=
  { h with rings := fun i d e hd he => (h.rings i d e hd he).mono hk, wk := h.wk.mono (by omega) }
theorem J14.get (h : J14 k la now tl dl l D R) {i : Nat} (hi : i < D.length) : ∃ d e, D[i]? = some d ∧ R[i]? = some e ∧ RJ la k d e :=
  ⟨D[i], R[i]'(by rw [h.len]; exact hi), List.getElem?_eq_getElem hi, List.getElem?_eq_getElem _, h.rings i _ _ (List.getElem?_eq_getElem hi) (List.getElem?_eq_getElem _)⟩
theorem J14.tlen (h : J14 k la now tl dl l D R) : dl.length ≤ 64 := by
  have h1 := nodup_len l.length (dl.map Tm.who) h.tn (fun x hx => by
    obtain ⟨t, ht, rfl⟩ := List.mem_map.1 hx
    obtain ⟨j, y, e1, e2, -⟩ := right_of (h.tw t ht)
    have := (List.getElem?_eq_some_iff.1 e2).1
    omega)
  have := h.l64
  rw [List.length_map] at h1
  omega
theorem J14.tllen (h : J14 k la now tl dl l D R) : tl.length ≤ 64 := by rw [h.ts, srt_len]; exact h.tlen
theorem J14.wlen (h : J14 k la now tl dl l D R) (hd : D[i]? = some d) : d.wl.length ≤ 64 := by
  have := nodup_len l.length d.wl (h.wr i d hd).1 (h.wr i d hd).2
  have := h.l64
  omega
/-- One ring changes, and cells of its own. -/
theorem J14.setR (h : J14 k la now tl dl l D R) (hd : D[i]? = some d) {k' : Nat} (hk : k ≤ k') (hcur : d'.cur = d.cur) (hsz : d'.size = d.size) (hla : la'.length = la.length) (hot : ∀ x, x < d.cur ∨ d.cur + d.size ≤ x → la'.getD x 0 = la.getD x 0) (hr : RJ la' k' d' e') (hw : d'.wl.Nodup ∧ ∀ x ∈ d'.wl, 0 ≤ x ∧ x < l.length) : J14 k' la' now tl dl l (D.set i d') (R.set i e') := by
  have hi : i < D.length := (List.getElem?_eq_some_iff.1 hd).1
  have hi' : i < R.length := by rw [h.len]; exact hi
  have gd : ∀ (j : Nat) (x : RD), (D.set i d')[j]? = some x → (j = i ∧ x = d') ∨ (j ≠ i ∧ D[j]? = some x) := fun j x hx => by
    by_cases hj : i = j
    · subst hj
      rw [List.getElem?_set_self hi] at hx
      exact .inl ⟨rfl, by cases hx; rfl⟩
    · rw [List.getElem?_set_ne hj] at hx
      exact .inr ⟨Ne.symm hj, hx⟩
  have ge : ∀ (j : Nat) (x : RD), (D.set i d')[j]? = some x → ∃ y, D[j]? = some y ∧ x.cur = y.cur ∧ x.size = y.size := fun j x hx => by
    rcases gd j x hx with ⟨rfl, rfl⟩ | ⟨-, h1⟩
    · exact ⟨d, hd, hcur, hsz⟩
    · exact ⟨x, h1, rfl, rfl⟩
  refine ⟨by simp [h.len], fun j x y hx hy => ?_, fun a b x y hab hx hy => ?_, fun a x hx => ?_, by rw [hla, List.length_set]; exact h.ll, by rw [List.length_set]; exact h.d8, fun j x hx => ?_, h.ts, h.tw, h.tn, h.l64, h.wk.mono (by omega), h.nw, h.st⟩
  · rcases gd j x hx with ⟨rfl, rfl⟩ | ⟨hj, h1⟩
    · rw [List.getElem?_set_self hi'] at hy
      cases hy
      exact hr
    · rw [List.getElem?_set_ne (Ne.symm hj)] at hy
      refine ((h.rings j x y h1 hy).mono hk).cong (fun z z1 z2 => hot z ?_)
      rcases Nat.lt_or_gt_of_ne hj with q | q
      · have := h.own j i x d q h1 hd; omega
      · have := h.own i j d x q hd h1; omega
  · obtain ⟨x', p1, p2, p3⟩ := ge a x hx
    obtain ⟨y', q1, q2, q3⟩ := ge b y hy
    have := h.own a b x' y' hab p1 q1
    omega
  · obtain ⟨x', p1, p2, p3⟩ := ge a x hx
    have := h.fit a x' p1
    omega
  · rcases gd j x hx with ⟨rfl, rfl⟩ | ⟨hj, h1⟩
    · exact hw
    · exact h.wr j x h1
/-- The clock and the actors change. -/
theorem J14.tab (h : J14 k la now tl dl l D R) {k' : Nat} (hk : k ≤ k') {now' : Int} {tl' dl' : List Tm} (hl : l.length ≤ l'.length) (h64 : l'.length ≤ 64) (hts : tl' = srt dl') (htw : ∀ t ∈ dl', wrongAt l' t.who = 0) (htn : (dl'.map Tm.who).Nodup) (hwk : WakesOK l' (1000 * (k' : Nat))) (hn : 0 ≤ now' ∧ now' ≤ 1099511627776) (hst : StOK l') : J14 k' la now' tl' dl' l' D R :=
  { h with rings := fun i d e hd he => (h.rings i d e hd he).mono hk, wr := fun i d hd => ⟨(h.wr i d hd).1, fun x hx => ⟨((h.wr i d hd).2 x hx).1, by have := ((h.wr i d hd).2 x hx).2; omega⟩⟩, ts := hts, tw := htw, tn := htn, l64 := h64, wk := hwk, nw := hn, st := hst }
end

/-- Nothing becomes wrong. -/
def Keeps (l l' : List One) : Prop := l'.length = l.length ∧ ∀ who, wrongAt l who = 0 → wrongAt l' who = 0
theorem Keeps.refl (l : List One) : Keeps l l := ⟨rfl, fun _ h => h⟩
theorem Keeps.trans {a b c : List One} (h : Keeps a b) (g : Keeps b c) : Keeps a c := ⟨g.1.trans h.1, fun w q => g.2 w (h.2 w q)⟩
theorem keeps_set {l : List One} {j : Nat} {y : One} (hs : y.state ≠ 2) : Keeps l (l.set j y) := by
  refine ⟨List.length_set .., fun who hw => ?_⟩
  obtain ⟨i, x, rfl, hi, hx, -, -⟩ := right_of hw
  have hlt := (List.getElem?_eq_some_iff.1 hi).1
  by_cases hj : j = i
  · subst hj
    rw [wrong_at (List.getElem?_set_self hlt), if_neg hs]
  · rw [wrong_at ((List.getElem?_set_ne hj).trans hi), if_neg hx]
theorem keeps_wake (l : List One) (who : Int) : Keeps l (wakeT l who).1 := by
  unfold wakeT
  split
  · exact Keeps.refl _
  · rename_i h
    obtain ⟨j, x, rfl, hj, hx, hg, hn⟩ := right_of (Decidable.not_not.1 h)
    rw [hg, hn]
    split
    · exact keeps_set (by simp)
    · exact keeps_set hx
theorem StOK.put {l : List One} {j : Nat} {y : One} (h : StOK l) (hy : y.state = 0 ∨ y.state = 1 ∨ y.state = 2) : StOK (l.set j y) := fun x hx => by
  rcases List.mem_or_eq_of_mem_set hx with q | q
  · exact h x q
  · rw [q]; exact hy
theorem StOK.wake {l : List One} (h : StOK l) (who : Int) : StOK (wakeT l who).1 := by
  unfold wakeT
  split
  · exact h
  · rename_i hw
    obtain ⟨j, x, rfl, hj, hx, hg, hn⟩ := right_of (Decidable.not_not.1 hw)
    rw [hg, hn]
    split
    · exact h.put (.inl rfl)
    · exact h.put (h x (List.mem_of_getElem? hj))
theorem who_filter {dl : List Tm} (who : Int) (h : (dl.map Tm.who).Nodup) (p : Tm → Bool) : ((dl.filter p).map Tm.who).Nodup := by
  have _ := who
  exact h.sublist (List.Sublist.map _ List.filter_sublist)
theorem stays_ne {who : Int} {dl : List Tm} {t : Tm} (h : t ∈ dl.filter (stays who)) : t ∈ dl ∧ t.who ≠ who := by
  rw [List.mem_filter] at h
  exact ⟨h.1, by simpa [stays] using h.2⟩

section
variable {k : Nat} {la la' : List Int} {now : Int} {tl dl : List Tm} {l l' : List One} {D : List RD} {R : List DR} {i : Nat} {d d' : RD} {e e' : DR}
theorem J14.wake (h : J14 k la now tl dl l D R) (who : Int) : J14 (k + 1) la now (tl.filter (stays who)) (dl.filter (stays who)) (wakeT l who).1 D R := by
  have hk := keeps_wake l who
  refine h.tab (Nat.le_succ _) (by rw [hk.1]; exact Nat.le_refl _) (by rw [hk.1]; exact h.l64) (by rw [h.ts, srt_filter]) (fun t ht => hk.2 _ (h.tw t (stays_ne ht).1)) (who_filter who h.tn _) ((h.wk.wake who (by omega)).mono (by omega)) h.nw (h.st.wake who)
theorem J14.halt (h : J14 k la now tl dl l D R) (who : Int) : J14 (k + 1) la now (tl.filter (stays who)) (if wrongAt l who = 0 then dl.filter (stays who) else dl) (if wrongAt l who = 0 then l.set who.toNat { l.getD who.toNat ⟨0, false, 0⟩ with state := 2, token := false } else l) D R := by
  by_cases he : wrongAt l who = 0
  · rw [if_pos he, if_pos he]
    obtain ⟨j, x, rfl, hj, hx, hg, hn⟩ := right_of he
    rw [hg, hn]
    refine h.tab (Nat.le_succ _) (by rw [List.length_set]; exact Nat.le_refl _) (by rw [List.length_set]; exact h.l64) (by rw [h.ts, srt_filter]) (fun t ht => ?_) (who_filter j h.tn _) (fun y hy => ?_) h.nw (h.st.put (.inr (.inr rfl)))
    · obtain ⟨t1, t2⟩ := stays_ne ht
      obtain ⟨m, z, e1, e2, e3, -, -⟩ := right_of (h.tw t t1)
      rw [e1] at t2 ⊢
      rw [wrong_at ((List.getElem?_set_ne (by omega)).trans e2), if_neg e3]
    · have hm : x.wakes = x.wakes := rfl
      rcases List.mem_or_eq_of_mem_set hy with q | q
      · exact (h.wk.mono (by omega)) y q
      · subst q
        exact (h.wk.mono (by omega)) x (List.mem_of_getElem? hj)
  · rw [if_neg he, if_neg he]
    have hf : tl.filter (stays who) = tl := by
      rw [h.ts, ← srt_filter]
      congr 1
      rw [List.filter_eq_self]
      intro t ht
      have := h.tw t ht
      simp only [stays, Bool.not_eq_true', beq_eq_false_iff_ne, ne_eq]
      intro q
      rw [q] at this
      exact he this
    rw [hf]
    exact h.mono (Nat.le_succ _)
theorem J14.fewer (h : J14 k la now tl dl l D R) {who : Int} (hw : wrongAt l who = 0) : (dl.filter (stays who)).length < 64 := by
  obtain ⟨j, x, rfl, hj, hx, hg, hn⟩ := right_of hw
  have hlt := (List.getElem?_eq_some_iff.1 hj).1
  have h1 := nodup_len l.length ((j : Int) :: (dl.filter (stays j)).map Tm.who) (List.nodup_cons.2 ⟨fun hm => by
    obtain ⟨t, ht, e⟩ := List.mem_map.1 hm
    exact (stays_ne ht).2 e, who_filter j h.tn _⟩) (fun y hy => by
    rcases List.mem_cons.1 hy with rfl | hm
    · omega
    · obtain ⟨t, ht, rfl⟩ := List.mem_map.1 hm
      obtain ⟨m, z, e1, e2, -⟩ := right_of (h.tw t (stays_ne ht).1)
      have := (List.getElem?_eq_some_iff.1 e2).1
      omega)
  have := h.l64
  rw [List.length_cons, List.length_map] at h1
  omega
theorem J14.fewer2 (h : J14 k la now tl dl l D R) {who : Int} (hw : wrongAt l who = 0) : (tl.filter (stays who)).length < 64 := by
  rw [h.ts, ← srt_filter, srt_len]
  exact h.fewer hw
theorem J14.park (h : J14 k la now tl dl l D R) (who x : Int) : (parkR now tl l who x).2 = (rparkR now dl l who x).2 ∧ J14 (k + 1) la now (parkR now tl l who x).1 (rparkR now dl l who x).1 (rparkR now dl l who x).2.1 D R := by
  have h0 := h.mono (Nat.le_succ k)
  unfold parkR rparkR
  split
  · exact ⟨rfl, h0⟩
  · split
    · exact ⟨rfl, h0⟩
    · rename_i hw
      obtain ⟨j, y, rfl, hj, hy, hg, hn⟩ := right_of (Decidable.not_not.1 hw)
      rw [hg, hn]
      have hwk : ∀ y' : One, y'.wakes = y.wakes → WakesOK (l.set j y') (1000 * ((k + 1 : Nat) : Int)) := fun y' hy' z hz => by
        rcases List.mem_or_eq_of_mem_set hz with q | q
        · exact h0.wk z q
        · subst q
          rw [hy']
          exact h0.wk y (List.mem_of_getElem? hj)
      split
      · exact ⟨rfl, h0⟩
      · split
        · refine ⟨rfl, h.tab (Nat.le_succ _) (by rw [List.length_set]; exact Nat.le_refl _) (by rw [List.length_set]; exact h.l64) h.ts (fun t ht => (keeps_set (y := { y with token := false }) hy).2 _ (h.tw t ht)) h.tn (hwk _ rfl) h.nw (h.st.put (h.st y (List.mem_of_getElem? hj)))⟩
        · refine ⟨rfl, ?_⟩
          by_cases hx : x = 0
          · rw [if_pos hx, if_pos hx]
            exact h.tab (Nat.le_succ _) (by rw [List.length_set]; exact Nat.le_refl _) (by rw [List.length_set]; exact h.l64) h.ts (fun t ht => (keeps_set (by simp)).2 _ (h.tw t ht)) h.tn (hwk _ rfl) h.nw (h.st.put (.inr (.inl rfl)))
          · rw [if_neg hx, if_neg hx]
            refine h.tab (Nat.le_succ _) (by rw [List.length_set]; exact Nat.le_refl _) (by rw [List.length_set]; exact h.l64) (by rw [srt_snoc, srt_filter, h.ts]) (fun t ht => (keeps_set (by simp)).2 _ ?_) ?_ (hwk _ rfl) h.nw (h.st.put (.inr (.inl rfl)))
            · rcases List.mem_append.1 ht with q | q
              · exact h.tw t (stays_ne q).1
              · rw [List.mem_singleton] at q
                subst q
                exact Decidable.not_not.1 hw
            · rw [List.map_append, List.nodup_append]
              refine ⟨who_filter j h.tn _, by simp, fun a ha b hb => ?_⟩
              obtain ⟨t, ht, rfl⟩ := List.mem_map.1 ha
              simp at hb
              subst hb
              exact (stays_ne ht).2
end

theorem insT_perm (t : Tm) (l : List Tm) : (insT t l).Perm (t :: l) := by
  unfold insT
  refine List.perm_middle.trans ?_
  rw [List.take_append_drop]
theorem srt_perm (m : List Tm) : (srt m).Perm m := by
  suffices h : ∀ (m acc : List Tm), (m.foldl (fun acc t => insT t acc) acc).Perm (acc ++ m) by simpa [srt] using h m []
  intro m
  induction m with
  | nil => intro acc; simp
  | cons x m ih =>
    intro acc
    rw [List.foldl_cons]
    refine (ih _).trans ?_
    refine ((insT_perm x acc).append_right m).trans ?_
    rw [List.cons_append]
    exact List.perm_middle.symm
theorem sig_srt : ∀ (ws : List Int) (dl : List Tm) (l : List One) (n : Nat), sigT ws (srt dl) l n = (srt (sigT ws dl l n).1, (sigT ws dl l n).2)
  | [], _, _, _ => rfl
  | who :: ws, dl, l, n => by
    simp only [sigT]
    rw [← srt_filter]
    exact sig_srt ws _ _ _
theorem sig_sub : ∀ (ws : List Int) (dl : List Tm) (l : List One) (n : Nat), ((sigT ws dl l n).1).Sublist dl
  | [], dl, _, _ => List.Sublist.refl dl
  | who :: ws, dl, l, n => by
    simp only [sigT]
    exact (sig_sub ws _ _ _).trans List.filter_sublist
theorem sig_keeps : ∀ (ws : List Int) (dl : List Tm) (l : List One) (n : Nat), Keeps l (sigT ws dl l n).2.1
  | [], _, l, _ => Keeps.refl l
  | who :: ws, dl, l, n => by
    simp only [sigT]
    exact (keeps_wake l who).trans (sig_keeps ws _ _ _)
theorem sig_wk : ∀ (ws : List Int) (dl : List Tm) (l : List One) (n : Nat) (B : Int), 0 ≤ B → WakesOK l B → WakesOK (sigT ws dl l n).2.1 (B + ws.length)
  | [], _, l, _, B, _, h => h.mono (by simp)
  | who :: ws, dl, l, n, B, hB, h => by
    simp only [sigT]
    exact (sig_wk ws _ _ _ (B + 1) (by omega) (h.wake who hB)).mono (by simp; omega)
theorem sig_st : ∀ (ws : List Int) (dl : List Tm) (l : List One) (n : Nat), StOK l → StOK (sigT ws dl l n).2.1
  | [], _, _, _, h => h
  | who :: ws, dl, l, n, h => by
    simp only [sigT]
    exact sig_st ws _ _ _ (h.wake who)
theorem wakes_st : ∀ (ws : List Int) (l : List One), StOK l → StOK (wakesT ws l)
  | [], _, h => h
  | who :: ws, l, h => by
    simp only [wakesT]
    exact wakes_st ws _ (h.wake who)
theorem wakes_keeps : ∀ (ws : List Int) (l : List One), Keeps l (wakesT ws l)
  | [], l => Keeps.refl l
  | who :: ws, l => by
    simp only [wakesT]
    exact (keeps_wake l who).trans (wakes_keeps ws _)
theorem wakes_wk : ∀ (ws : List Int) (l : List One) (B : Int), 0 ≤ B → WakesOK l B → WakesOK (wakesT ws l) (B + ws.length)
  | [], l, B, _, h => h.mono (by simp)
  | who :: ws, l, B, hB, h => by
    simp only [wakesT]
    exact (wakes_wk ws _ (B + 1) (by omega) (h.wake who hB)).mono (by simp; omega)
theorem set_same {α : Type} {D : List α} {i : Nat} {d : α} (hd : D[i]? = some d) : D.set i d = D := by
  apply List.ext_getElem?
  intro j
  by_cases hj : i = j
  · subst hj
    rw [List.getElem?_set_self (List.getElem?_eq_some_iff.1 hd).1, hd]
  · rw [List.getElem?_set_ne hj]
theorem getD_set {l : List Int} {i x : Nat} {v : Int} (hi : i < l.length) : (l.set i v).getD x 0 = if x = i then v else l.getD x 0 := by
  unfold List.getD
  by_cases h : x = i
  · subst h
    rw [List.getElem?_set_self hi, if_pos rfl]
    rfl
  · rw [List.getElem?_set_ne (Ne.symm h), if_neg h]

section
variable {k : Nat} {la la' : List Int} {now : Int} {tl dl : List Tm} {l l' : List One} {D : List RD} {R : List DR} {i : Nat} {d d' : RD} {e e' : DR}
theorem J14.signal (h : J14 k la now tl dl l D R) (hd : D[i]? = some d) (he : R[i]? = some e) (a b : Option Addr) (m n : Nat) : (sigT d.wl tl l 0).2 = (sigT e.wl dl l 0).2 ∧
    J14 (k + 1) la now (sigT d.wl tl l 0).1 (sigT e.wl dl l 0).1 (sigT d.wl tl l 0).2.1 (D.set i { d with wl := [], wo := a, wcap := m }) (R.set i { e with wl := [], wo := b, wcap := n }) := by
  have hr := h.rings i d e hd he
  have hwl := hr.wl
  have hlen := h.wlen hd
  have q := h.setR (i := i) (d' := { d with wl := [], wo := a, wcap := m }) (e' := { e with wl := [], wo := b, wcap := n }) (la' := la) hd (Nat.le_refl k) rfl rfl rfl (fun _ _ => rfl) ⟨hr.sh, hr.n, hr.many, rfl, hr.ids, hr.b, hr.one, hr.two⟩ ⟨List.nodup_nil, by simp⟩
  have e1 := sig_srt d.wl dl l 0
  rw [← h.ts] at e1
  rw [hwl, e1]
  refine ⟨rfl, ?_⟩
  have hk := sig_keeps d.wl dl l 0
  refine q.tab (Nat.le_succ _) (by rw [hk.1]; exact Nat.le_refl _) (by rw [hk.1]; exact h.l64) rfl (fun t ht => hk.2 _ (h.tw t ((sig_sub _ _ _ _).mem ht))) (h.tn.sublist ((sig_sub _ _ _ _).map _)) ?_ h.nw (sig_st _ _ _ _ h.st)
  exact (sig_wk d.wl dl l 0 _ (by omega) h.wk).mono (by omega)
theorem J14.tick (h : J14 k la now tl dl l D R) (x : Int) (h1 : 1 ≤ x) (h2 : x ≤ 1099511627776 - now) (mm : List Tm) (p : Tm → Bool) (hm : srt mm = tl.dropWhile p) : J14 (k + 1) la (now + x) (tl.dropWhile p) mm (wakesT ((tl.takeWhile p).map Tm.who) l) D R := by
  have hk := wakes_keeps ((tl.takeWhile p).map Tm.who) l
  have hs : (srt mm).Sublist (srt dl) := by rw [hm, h.ts]; exact List.dropWhile_sublist p
  have hlen : (tl.takeWhile p).length ≤ 64 := Nat.le_trans ((List.takeWhile_sublist p).length_le) h.tllen
  refine h.tab (Nat.le_succ _) (by rw [hk.1]; exact Nat.le_refl _) (by rw [hk.1]; exact h.l64) hm.symm (fun t ht => hk.2 _ (h.tw t ?_)) ?_ ?_ (by have := h.nw; omega) (wakes_st _ _ h.st)
  · exact (srt_perm dl).mem_iff.1 (hs.mem ((srt_perm mm).mem_iff.2 ht))
  · exact (((srt_perm mm).map Tm.who).nodup_iff).1 ((((srt_perm dl).map Tm.who).nodup_iff.2 h.tn).sublist (hs.map _))
  · refine (wakes_wk ((tl.takeWhile p).map Tm.who) l _ (by omega) h.wk).mono ?_
    rw [List.length_map]
    omega
theorem J14.enl (h : J14 k la now tl dl l D R) (hd : D[i]? = some d) (he : R[i]? = some e) (who : Int) (a b : Option Addr) (m n : Nat) : (enlT l d.wl who).2 = (enlT l e.wl who).2 ∧
    J14 (k + 1) la now tl dl l (D.set i { d with wl := (enlT l d.wl who).1, wo := a, wcap := m }) (R.set i { e with wl := (enlT l e.wl who).1, wo := b, wcap := n }) := by
  have hr := (h.rings i d e hd he).mono (Nat.le_succ k)
  have hw := h.wr i d hd
  rw [hr.wl]
  refine ⟨rfl, h.setR hd (Nat.le_succ k) rfl rfl rfl (fun _ _ => rfl) ⟨hr.sh, hr.n, hr.many, rfl, hr.ids, hr.b, hr.one, hr.two⟩ ?_⟩
  show (enlT l d.wl who).1.Nodup ∧ ∀ x ∈ (enlT l d.wl who).1, 0 ≤ x ∧ x < l.length
  unfold enlT
  split
  · exact hw
  · split
    · exact hw
    · rename_i h1 h2
      obtain ⟨j, y, rfl, hj, -⟩ := right_of (Decidable.not_not.1 h1)
      have hlt := (List.getElem?_eq_some_iff.1 hj).1
      refine ⟨List.nodup_append.2 ⟨hw.1, by simp, fun x hx y hy => ?_⟩, fun x hx => ?_⟩
      · simp at hy
        subst hy
        intro q
        subst q
        exact h2 hx
      · rcases List.mem_append.1 hx with q | q
        · exact hw.2 x q
        · simp at q
          omega
theorem J14.add (h : J14 k la now tl dl l D R) (hl : l.length < 64) : J14 (k + 1) la now tl dl (l ++ [⟨0, false, 0⟩]) D R := by
  refine h.tab (Nat.le_succ _) (by simp) (by simp; omega) h.ts (fun t ht => ?_) h.tn (fun x hx => ?_) h.nw (fun x hx => by
    rcases List.mem_append.1 hx with q | q
    · exact h.st x q
    · simp at q
      subst q
      exact .inl rfl)
  · obtain ⟨j, y, e1, hj, hy, -⟩ := right_of (h.tw t ht)
    have hlt := (List.getElem?_eq_some_iff.1 hj).1
    rw [e1, wrong_at ((List.getElem?_append_left hlt).trans hj), if_neg hy]
  · rcases List.mem_append.1 hx with q | q
    · exact (h.wk.mono (by omega)) x q
    · simp at q
      subst q
      exact ⟨Int.le_refl 0, by show (0 : Int) ≤ _; omega⟩
theorem J14.show_s (h : J14 k la now tl dl l D R) (hd : D[i]? = some d) (he : R[i]? = some e) (hm : d.many = false) (hi : Int) (h1 : e.pub < hi) (h2 : hi ≤ e.cl) : J14 (k + 1) (la.set d.cur hi) now tl dl l D (R.set i { e with pub := hi }) := by
  have hr := (h.rings i d e hd he).mono (Nat.le_succ k)
  have hf := h.fit i d hd
  have hz : d.size = 1 := by simp [RD.size, hm]
  have q := h.setR (la' := la.set d.cur hi) (d' := d) (e' := { e with pub := hi }) hd (Nat.le_succ k) rfl rfl (List.length_set ..) (fun x hx => by rw [getD_set (by omega), if_neg (by omega)]) ⟨hr.sh, hr.n, hr.many, hr.wl, hr.ids, hr.b, fun _ => ?_, fun g => by rw [hm] at g; cases g⟩ (h.wr i d hd)
  · rw [set_same hd] at q
    exact q
  · obtain ⟨a1, a2, a3, a4, a5, a6⟩ := hr.one hm
    exact ⟨a1, by rw [getD_set (by omega), if_pos rfl], a3, by show e.seen ≤ hi; omega, h2, a6⟩
theorem J14.show_m (h : J14 k la now tl dl l D R) (hd : D[i]? = some d) (he : R[i]? = some e) (hm : d.many = true) (at0 : Int) (h1 : 0 ≤ at0) (h2 : at0 ≤ e.cl) : J14 (k + 1) (showAll la d.first d.sh at0 1) now tl dl l D (R.set i { e with shown := e.shown.set (slotOf d.sh at0) at0 }) := by
  have hr := (h.rings i d e hd he).mono (Nat.le_succ k)
  have hf := h.fit i d hd
  have hz : d.size = 2 + 2 ^ d.sh := by simp [RD.size, hm]
  have hs := slotOf_lt d.sh at0 (by have := hr.sh; omega)
  obtain ⟨a1, a2, a3, a4, a5, a6⟩ := hr.two hm
  have e1 : showAll la d.first d.sh at0 1 = la.set (d.first + slotOf d.sh at0) (at0 / 2 ^ d.sh) := by simp [showAll]
  rw [e1]
  have q := h.setR (la' := la.set (d.first + slotOf d.sh at0) (at0 / 2 ^ d.sh)) (d' := d) (e' := { e with shown := e.shown.set (slotOf d.sh at0) at0 }) hd (Nat.le_succ k) rfl rfl (List.length_set ..) (fun x hx => by rw [getD_set (by omega), if_neg (by omega)]) ⟨hr.sh, hr.n, hr.many, hr.wl, hr.ids, hr.b, (fun g => by rw [hm] at g; cases g), fun _ => ?_⟩ (h.wr i d hd)
  · rw [set_same hd] at q
    exact q
  · refine ⟨by rw [getD_set (by omega), if_neg (by omega)]; exact a1, by rw [getD_set (by omega), if_neg (by omega)]; exact a2, a3, a4, by show (e.shown.set _ _).length = _; rw [List.length_set]; exact a5, fun s hs' => ?_⟩
    show (la.set (d.first + slotOf d.sh at0) (at0 / 2 ^ d.sh)).getD (d.first + s) 0 = (e.shown.set (slotOf d.sh at0) at0).getD s 0 / 2 ^ d.sh ∧ ((e.shown.set (slotOf d.sh at0) at0).getD s 0 = -1 ∨ 0 ≤ (e.shown.set (slotOf d.sh at0) at0).getD s 0 ∧ (e.shown.set (slotOf d.sh at0) at0).getD s 0 ≤ e.cl ∧ slotOf d.sh ((e.shown.set (slotOf d.sh at0) at0).getD s 0) = s)
    rw [getD_set (by omega), getD_set (by omega)]
    by_cases hq : s = slotOf d.sh at0
    · rw [if_pos (by omega), if_pos hq]
      exact ⟨rfl, .inr ⟨h1, h2, hq.symm⟩⟩
    · rw [if_neg (by omega), if_neg hq]
      exact a6 s hs'
/-- An index is shown in both or in none. -/
theorem RJ.shown (h : RJ la k d e) (hm : d.many = true) (s : Int) (hs : 0 ≤ s) : shownAt la d.first d.sh s = (e.shown.getD (slotOf d.sh s) 0 == s) := by
  have hz := slotOf_lt d.sh s (by have := h.sh; omega)
  have hb := two_pow_bd d.sh (by have := h.sh; omega)
  obtain ⟨a1, a2, a3, a4, a5, a6⟩ := h.two hm
  obtain ⟨b1, b2⟩ := a6 _ hz.1
  unfold shownAt
  rw [b1]
  generalize e.shown.getD (slotOf d.sh s) 0 = v at b2 ⊢
  rw [Bool.eq_iff_iff, beq_iff_eq, beq_iff_eq]
  constructor
  · intro q
    rcases b2 with rfl | ⟨c1, c2, c3⟩
    · have h1 : (-1 : Int) / 2 ^ d.sh = -1 := by
        rw [Int.ediv_eq_iff_of_pos (by omega)] <;> omega
      have h2 : 0 ≤ s / 2 ^ d.sh := Int.ediv_nonneg hs (by omega)
      omega
    · have z1 := (slotOf_lt d.sh v (by have := h.sh; omega)).2
      rw [c3, hz.2] at z1
      have e1 := Int.emod_add_mul_ediv v (2 ^ d.sh)
      have e2 := Int.emod_add_mul_ediv s (2 ^ d.sh)
      rw [← e1, ← e2, z1, q]
  · intro q
    rw [q]
end

section
variable {k : Nat} {la la' : List Int} {now : Int} {tl dl : List Tm} {l l' : List One} {D : List RD} {R : List DR} {i : Nat} {d d' : RD} {e e' : DR}
theorem pow_cast (sh : Nat) : ((2 ^ sh : Nat) : Int) = 2 ^ sh := by simp
theorem pow64 {sh : Nat} (h : sh ≤ 6) : (2 : Int) ^ sh ≤ 64 ∧ 2 ^ sh ≤ 64 := by
  have h1 : 2 ^ sh ≤ 2 ^ 6 := Nat.pow_le_pow_right (by decide) h
  have := pow_cast sh
  omega
theorem slot_nat (sh : Nat) (s : Int) (hs : 0 ≤ s) : s.toNat % 2 ^ sh = slotOf sh s := by
  unfold slotOf
  obtain ⟨j, rfl⟩ := Int.eq_ofNat_of_zero_le hs
  rw [← pow_cast, ← Int.natCast_emod]
  rfl
theorem J14.cl_done (h : J14 k la now tl dl l D R) (hd : D[i]? = some d) (he : R[i]? = some e) (hm : d.many = false) (n : Int) (h1 : 1 ≤ n) (h2 : n ≤ 2 ^ d.sh) : J14 (k + 1) la now tl dl l (D.set i { d with cl := d.cl + n, ca := d.ca, sc := d.sc }) (R.set i { e with cl := e.cl + n }) := by
  have hr := h.rings i d e hd he
  have hp := (pow64 hr.sh).1
  have hb := hr.b
  obtain ⟨a1, a2, a3, a4, a5, a6, a7⟩ := hr.one hm
  refine h.setR hd (Nat.le_succ k) rfl rfl rfl (fun _ _ => rfl) ⟨hr.sh, hr.n, hr.many, hr.wl, hr.ids, ?_, fun _ => ?_, fun g => absurd (hm.symm.trans g) (by decide)⟩ (h.wr i d hd)
  · refine ⟨?_, ?_, hb.2.2.1, ?_⟩ <;> simp only <;> omega
  · exact ⟨by simp only; omega, a2, a3, a4, by simp only; omega, a6, by simp only; omega⟩
theorem J14.cl_ok (h : J14 k la now tl dl l D R) (hd : D[i]? = some d) (he : R[i]? = some e) (hm : d.many = false) (n : Int) (h1 : 1 ≤ n) (h2 : n ≤ 2 ^ d.sh) : J14 (k + 1) la now tl dl l (D.set i { d with cl := d.cl + n, ca := la.getD d.cur 0, sc := d.sc + 1 }) (R.set i { e with seen := e.pub, cl := e.cl + n }) := by
  have hr := h.rings i d e hd he
  have hp := (pow64 hr.sh).1
  have hb := hr.b
  obtain ⟨a1, a2, a3, a4, a5, a6, a7⟩ := hr.one hm
  refine h.setR hd (Nat.le_succ k) rfl rfl rfl (fun _ _ => rfl) ⟨hr.sh, hr.n, hr.many, hr.wl, hr.ids, ?_, fun _ => ?_, fun g => absurd (hm.symm.trans g) (by decide)⟩ (h.wr i d hd)
  · refine ⟨?_, ?_, ?_, ?_⟩ <;> simp only <;> omega
  · exact ⟨by simp only; omega, a2, a2, Int.le_refl _, by simp only; omega, by simp only; omega, by simp only; omega⟩
theorem J14.cl_full (h : J14 k la now tl dl l D R) (hd : D[i]? = some d) (he : R[i]? = some e) (hm : d.many = false) : J14 (k + 1) la now tl dl l (D.set i { d with cl := d.cl, ca := la.getD d.cur 0, sc := d.sc + 1 }) (R.set i { e with seen := e.pub }) := by
  have hr := h.rings i d e hd he
  have hp := (pow64 hr.sh).1
  have hb := hr.b
  obtain ⟨a1, a2, a3, a4, a5, a6, a7⟩ := hr.one hm
  refine h.setR hd (Nat.le_succ k) rfl rfl rfl (fun _ _ => rfl) ⟨hr.sh, hr.n, hr.many, hr.wl, hr.ids, ?_, fun _ => ?_, fun g => absurd (hm.symm.trans g) (by decide)⟩ (h.wr i d hd)
  · refine ⟨?_, ?_, ?_, ?_⟩ <;> simp only <;> omega
  · exact ⟨by simp only; omega, a2, a2, Int.le_refl _, by simp only; omega, by simp only; omega, by simp only; omega⟩
theorem J14.cl_seen (h : J14 k la now tl dl l D R) (hd : D[i]? = some d) (he : R[i]? = some e) (hm : d.many = true) : J14 k (la.set d.cac e.cl) now tl dl l D (R.set i { e with seen := e.cl }) := by
  have hr := h.rings i d e hd he
  have hf := h.fit i d hd
  have hb := hr.b
  have hz : d.size = 2 + 2 ^ d.sh := by simp [RD.size, hm]
  obtain ⟨a1, a2, a3, a4, a5, a6⟩ := hr.two hm
  have q := h.setR (la' := la.set d.cac e.cl) (d' := d) (e' := { e with seen := e.cl }) hd (Nat.le_refl k) rfl rfl (List.length_set ..) (fun x hx => by rw [getD_set (by omega), if_neg (by omega)]) ⟨hr.sh, hr.n, hr.many, hr.wl, hr.ids, ⟨hb.1, hb.2.1, hb.1, Int.le_refl _⟩, (fun g => by rw [hm] at g; cases g), fun _ => ?_⟩ (h.wr i d hd)
  · rw [set_same hd] at q
    exact q
  · refine ⟨by rw [getD_set (by omega), if_neg (by omega)]; exact a1, by rw [getD_set (by omega), if_pos rfl], a3, a4, a5, fun s hs => ?_⟩
    rw [getD_set (by omega), if_neg (by omega)]
    exact a6 s hs
theorem J14.cl_m (h : J14 k la now tl dl l D R) (hd : D[i]? = some d) (he : R[i]? = some e) (hm : d.many = true) (n : Int) (h1 : 1 ≤ n) (h2 : n ≤ 2 ^ d.sh) : J14 (k + 1) (la.set d.cur (e.cl + n)) now tl dl l D (R.set i { e with cl := e.cl + n }) := by
  have hr := h.rings i d e hd he
  have hp := (pow64 hr.sh).1
  have hf := h.fit i d hd
  have hb := hr.b
  have hz : d.size = 2 + 2 ^ d.sh := by simp [RD.size, hm]
  obtain ⟨a1, a2, a3, a4, a5, a6⟩ := hr.two hm
  have q := h.setR (la' := la.set d.cur (e.cl + n)) (d' := d) (e' := { e with cl := e.cl + n }) hd (Nat.le_succ k) rfl rfl (List.length_set ..) (fun x hx => by rw [getD_set (by omega), if_neg (by omega)]) ⟨hr.sh, hr.n, hr.many, hr.wl, hr.ids, ?_, (fun g => by rw [hm] at g; cases g), fun _ => ?_⟩ (h.wr i d hd)
  · rw [set_same hd] at q
    exact q
  · refine ⟨?_, ?_, hb.2.2.1, ?_⟩ <;> simp only <;> omega
  · refine ⟨by rw [getD_set (by omega), if_pos rfl], by rw [getD_set (by omega), if_neg (by omega)]; exact a2, a3, a4, a5, fun s hs => ?_⟩
    rw [getD_set (by omega), if_neg (by omega)]
    obtain ⟨b1, b2⟩ := a6 s hs
    refine ⟨b1, ?_⟩
    rcases b2 with b | ⟨c1, c2, c3⟩
    · exact .inl b
    · exact .inr ⟨c1, by show e.shown.getD s 0 ≤ e.cl + n; omega, c3⟩
theorem getD_app_l {l m : List Int} {x : Nat} (h : x < l.length) : (l ++ m).getD x 0 = l.getD x 0 := by
  unfold List.getD
  rw [List.getElem?_append_left h]
/-- One ring more. -/
theorem J14.grow (h : J14 k la now tl dl l D R) (hD : D.length < 8) (hcur : d.cur = la.length) (hsz : d.size ≤ 66) {m : List Int} (hm : d.size = m.length) (hr : RJ (la ++ m) (k + 1) d e) (hw : d.wl = []) : J14 (k + 1) (la ++ m) now tl dl l (D ++ [d]) (R ++ [e]) := by
  have gd : ∀ {α : Type} (L : List α) (x y : α) (j : Nat), (L ++ [x])[j]? = some y → L[j]? = some y ∨ (j = L.length ∧ y = x) := fun L x y j hy => by
    by_cases hj : j < L.length
    · rw [List.getElem?_append_left hj] at hy
      exact .inl hy
    · have hlt := (List.getElem?_eq_some_iff.1 hy).1
      simp at hlt
      have : j = L.length := by omega
      subst this
      simp at hy
      exact .inr ⟨rfl, hy.symm⟩
  refine ⟨by simp [h.len], fun j x y hx hy => ?_, fun a b x y hab hx hy => ?_, fun a x hx => ?_, ?_, by simp; omega, fun j x hx => ?_, h.ts, h.tw, h.tn, h.l64, h.wk.mono (by omega), h.nw, h.st⟩
  · rcases gd D d x j hx with q | ⟨q, rfl⟩
    · rcases gd R e y j hy with q2 | ⟨q2, rfl⟩
      · refine ((h.rings j x y q q2).mono (Nat.le_succ k)).cong (fun z z1 z2 => getD_app_l ?_)
        have := h.fit j x q
        omega
      · have := (List.getElem?_eq_some_iff.1 q).1
        have := h.len
        omega
    · rcases gd R e y j hy with q2 | ⟨q2, rfl⟩
      · have := (List.getElem?_eq_some_iff.1 q2).1
        have := h.len
        omega
      · exact hr
  · rcases gd D d y b hy with q | ⟨q, rfl⟩
    · rcases gd D d x a hx with q2 | ⟨q2, rfl⟩
      · exact h.own a b x y hab q2 q
      · have := (List.getElem?_eq_some_iff.1 q).1
        omega
    · rcases gd D _ x a hx with q2 | ⟨q2, rfl⟩
      · have := h.fit a x q2
        omega
      · omega
  · rw [List.length_append]
    rcases gd D d x a hx with q | ⟨q, rfl⟩
    · have := h.fit a x q
      omega
    · omega
  · have := h.ll
    rw [List.length_append, List.length_append, List.length_singleton]
    omega
  · rcases gd D d x j hx with q | ⟨q, rfl⟩
    · exact h.wr j x q
    · rw [hw]
      exact ⟨List.nodup_nil, by simp⟩
theorem J14.ring_s (h : J14 k la now tl dl l D R) (hD : D.length < 8) {sh : Nat} (hsh : sh ≤ 6) (g : Nat) (sl : Value) (sp gp : Nat) (so ea : Option Addr) (scap en ecap wc : Nat) (shown : List Int) : J14 (k + 1) (la ++ [-1]) now tl dl l (D ++ [⟨false, sh, g, sl, sp, 0, gp, la.length, 0, 0, -1, -1, 0, [], [], none, 0⟩]) (R ++ [⟨((2 ^ sh : Nat) : Int), false, -1, -1, -1, so, scap, shown, ea, en, ecap, none, wc, []⟩]) := by
  refine h.grow hD rfl (by simp [RD.size]) (by simp [RD.size]) ⟨hsh, rfl, rfl, rfl, rfl, ?_, fun _ => ?_, fun g => by cases g⟩ rfl
  · refine ⟨?_, ?_, ?_, ?_⟩ <;> simp only <;> omega
  · refine ⟨rfl, ?_, rfl, Int.le_refl _, Int.le_refl _, Int.le_refl _, ?_⟩
    · simp
    · simp only; omega
theorem J14.ring_m (h : J14 k la now tl dl l D R) (hD : D.length < 8) {sh : Nat} (hsh : sh ≤ 6) (g : Nat) (sl : Value) (sp bp gp : Nat) (so ea : Option Addr) (scap en ecap wc : Nat) : J14 (k + 1) (la ++ [-1] ++ [-1] ++ List.replicate (2 ^ sh) (-1)) now tl dl l (D ++ [⟨true, sh, g, sl, sp, bp, gp, la.length, la.length + 1, la.length + 2, 0, 0, 0, [], [], none, 0⟩]) (R ++ [⟨((2 ^ sh : Nat) : Int), true, -1, -1, -1, so, scap, List.replicate (2 ^ sh) (-1), ea, en, ecap, none, wc, []⟩]) := by
  have hp := pow64 hsh
  have hb := two_pow_bd sh (by omega)
  have gr : ∀ s, s < 2 ^ sh → (List.replicate (2 ^ sh) (-1 : Int)).getD s 0 = -1 := fun s hs => by simp [List.getD, hs]
  rw [List.append_assoc, List.append_assoc]
  refine h.grow hD rfl (by simp [RD.size]; omega) (by simp [RD.size]; omega) ⟨hsh, rfl, rfl, rfl, rfl, ?_, (fun g => by cases g), fun _ => ?_⟩ rfl
  · refine ⟨?_, ?_, ?_, ?_⟩ <;> simp only <;> omega
  · have e1 : ∀ j, (la ++ ([-1] ++ ([-1] ++ List.replicate (2 ^ sh) (-1)))).getD (la.length + j) 0 = ([-1] ++ ([-1] ++ List.replicate (2 ^ sh) (-1))).getD j 0 := fun j => by
      unfold List.getD
      rw [List.getElem?_append_right (by omega), Nat.add_sub_cancel_left]
    refine ⟨e1 0, e1 1, rfl, rfl, by simp, fun s hs => ?_⟩
    simp only at hs ⊢
    rw [Nat.add_assoc, e1, gr s hs]
    refine ⟨?_, .inl rfl⟩
    have h1 : (-1 : Int) / 2 ^ sh = -1 := by
      rw [Int.ediv_eq_iff_of_pos (by omega)] <;> omega
    rw [h1]
    have e2 : ([-1] ++ ([-1] ++ List.replicate (2 ^ sh) (-1))).getD (2 + s) (0 : Int) = (List.replicate (2 ^ sh) (-1)).getD s 0 := by
      rw [Nat.add_comm]
      simp [List.getD]
    rw [e2, gr s hs]
end

section
variable {k : Nat} {la : List Int} {d : RD} {e : DR}
theorem RJ.hi (h : RJ la k d e) (hm : d.many = true) {lo x : Int} (h0 : 0 ≤ lo) (hx : RHi e.shown (2 ^ d.sh) lo e.cl x) : HiAt la d.first d.sh lo e.cl x := by
  obtain ⟨x1, x2, x3, x4⟩ := hx
  refine ⟨x1, x2, fun s s1 s2 => ?_, fun s1 => ?_⟩
  · rw [h.shown hm s (by omega), ← slot_nat d.sh s (by omega), x3 s s1 s2]
    simp
  · rw [h.shown hm (x + 1) (by omega), ← slot_nat d.sh (x + 1) (by omega)]
    simpa using x4 s1
end
end Go.Proofs.YtiphdedfbafhkaaGreatDoor
