/- Contracts of slices.Delete of one number, and of Group.Drop; of the document's In, Add, Drop. No condition beyond each contract's own. -/
import Derived.Test.YtmhhhiegioniaaaGate
import Derived.Test.YtmhhhiegioniaaaMem5
import Derived.Lib.SliceRun
namespace Go.Proofs.Ytmhhhiegioniaaa
open Go.RowKit

/-- What is behind a slice's end, up to its capacity. -/
theorem Row.spare {c : Nat → Nat} {k : Nat} {w : World} {e : TypeId} {size : Nat} {a : Addr} {n cap : Nat} {xs : List Value} (h : Row c k w e size (some a) n cap xs) {j : Nat} (hj : j < cap * size) :
    (w.cell? ⟨a.block, a.off + j, none⟩).isSome = true ∧ w.frozen? ⟨a.block, a.off + j, none⟩ = false := by
  obtain ⟨h1, h2, h3, hs, hc, cur, hb, hl, hx⟩ := h
  have hlt : a.off + j < cur.length := by omega
  constructor
  · simp [World.cell?, hb, List.getElem?_eq_getElem hlt]
  · simp [World.frozen?, hb]

theorem Row.setSpare {c : Nat → Nat} {k : Nat} {w : World} {e : TypeId} {size : Nat} {a : Addr} {n cap : Nat} {xs : List Value} (h : Row c k w e size (some a) n cap xs) {j : Nat} (hj : n * size ≤ j) (v : Value) :
    Row c k (w.setCell ⟨a.block, a.off + j, none⟩ v) e size (some a) n cap xs := by
  obtain ⟨h1, h2, h3, hs, hc, cur, hb, hl, hx⟩ := h
  refine ⟨h1, h2, h3, hs, hc, cur.set (a.off + j) v, heap_setCell_same v hb, by simpa using hl, ?_⟩
  rw [← hx, List.drop_set]
  simp only [Nat.not_lt.2 (Nat.le_add_right a.off j), if_false, Nat.add_sub_cancel_left]
  rw [List.take_set, List.set_eq_of_length_le]
  rw [List.length_take]
  omega

section
variable {P : Program}
/-- The built-in append where there is room. -/
theorem run_append_here (w : World) (c : Nat → Nat) (k : Nat) (t ty e : TypeId) (i : TypeInfo) (ht : P.underlying t = some (.slice e)) (hi : P.info? e = some i)
    (a : Addr) (n cap : Nat) (xs : List Value) (hrow : Row c k w e i.size (some a) n cap xs)
    (b : Addr) (m cc : Nat) (news : List Value) (hl : news.length = m * i.size) (hnews : ∀ j u, news[j]? = some u → w.cell? (b.add j) = some u) (h1 : ∀ u ∈ news, u.oneCell' = true) (hroom : n + m ≤ cap) :
    ∃ w', (Builtin.append_ #[t, t] ty #[.slice (some a) n cap, .slice (some b) m cc]).run P w = .ok (.slice (some a) (n + m) cap) w' ∧
      Row c k w' e i.size (some a) (n + m) cap (xs ++ news) ∧ Stp (· = k) c c w w' ∧ Others w w' (some a) := by
  obtain ⟨hx1, hx2, hx3, hs, hc, cur, hb, hlc, hx⟩ := hrow
  have hbe : a = ⟨a.block, a.off, none⟩ := by cases a; simp_all
  have hle : (n + m) * i.size ≤ cap * i.size := Nat.mul_le_mul_right _ hroom
  rw [Nat.add_mul] at hle
  have hfit : a.off + n * i.size + news.length ≤ cur.toArray.size := by rw [hl]; simp; omega
  have hr := run_append_room_at (P := P) w t ty e i ht hi a.block a.off n cap cur.toArray hb b m cc news hl hnews h1 hroom hfit
  rw [← hbe] at hr
  refine ⟨_, hr, ⟨by rw [List.length_append, hx1, hl, Nat.add_mul], hroom, hx3, hs, hc, _, setRow_heap w a.block cur.toArray _ e _ hb, ?_, ?_⟩, (Stp.refl _ c w).setRow _ hc, fun j _ hn => setRow_other w a.block j _ (fun e => hn a rfl e.symm)⟩
  · simp only [List.length_append, List.length_take, List.length_drop]
    omega
  · have e1 : (cur.take (a.off + n * i.size)).length = a.off + n * i.size := by rw [List.length_take]; omega
    have e2 : (cur.take (a.off + n * i.size)).drop a.off = xs := by rw [← hx, List.drop_take]; congr 1; omega
    simp only [List.append_assoc]
    rw [List.drop_append_of_le_length (by omega), e2, ← List.append_assoc]
    rw [show (n + m) * i.size = (xs ++ news).length by rw [List.length_append, hx1, hl, Nat.add_mul]]
    exact List.take_left

theorem step_here {w : World} {ops : Array Oper} {o : Oper} {a : Act} {K : Act → World → Prop} {Q : Exit → Act → World → Prop} {E : Prop} (hg : o.guard = none) (s x : Operand) (t : TypeId)
    (hop : o.op = Op.call { callee := Callee.builtin Builtin.append, args := #[s, x], argTypes := #[t, t] })
    (c : Nat → Nat) (k : Nat) (e : TypeId) (size : Nat) (ht : P.underlying t = some (.slice e)) (hinfo : (P.info? e).map (·.size) = some size)
    (d : Addr) (n cap : Nat) (xs : List Value) (hs : a.eval s = .slice (some d) n cap) (hrow : Row c k w e size (some d) n cap xs)
    (b : Addr) (m cc : Nat) (news : List Value) (hx : a.eval x = .slice (some b) m cc) (hl : news.length = m * size) (hnews : ∀ j u, news[j]? = some u → w.cell? (b.add j) = some u) (h1 : ∀ u ∈ news, u.oneCell' = true) (hroom : n + m ≤ cap)
    (hK : ∀ w', Row c k w' e size (some d) (n + m) cap (xs ++ news) → Stp (· = k) c c w w' → Others w w' (some d) → K (a.put o.dst (.slice (some d) (n + m) cap)) w') :
    if Region.wanted o (yielded ops a.tmps) = true then Oper.wp P o a w K Q else E := by
  have hw : Region.wanted o (yielded ops a.tmps) = true := by simp [Region.wanted, hg]
  rw [if_pos hw]
  obtain ⟨i, hi, hsize⟩ := Option.map_eq_some_iff.1 hinfo
  subst hsize
  obtain ⟨w', hr, h2, h3, h4⟩ := run_append_here (P := P) w c k t o.type e i ht hi d n cap xs hrow b m cc news hl hnews h1 hroom
  unfold Oper.wp
  simp [execOp, hop, resolve, invoke, builtin, hs, hx, hr, Result.andThen]
  exact hK _ h2 h3 h4
end

theorem int_zero {t : TypeId} (h : (Try.prog.info? t).map (fun i => (i.zero, i.size, i.bytes)) = some (some (.int .i64 0), 1, 8)) : ∀ w, (zeroValue t).run Try.prog w = .ok (.int .i64 0) w := by
  intro w
  obtain ⟨i, hi, hz, _, _⟩ := info_parts h
  simp [zeroValue, typeInfo, hi, hz]

theorem erase_eq (l : List Int) (i : Nat) : l.take i ++ l.drop (i + 1) = l.eraseIdx i := (List.eraseIdx_eq_take_drop_succ l i).symm

set_option maxRecDepth 100000 in
/-- slices.Delete of one number: in place. -/
theorem sdelete_one {c : Nat → Nat} {k : Nat} {w : World} {g off cap i m : Nat} {l : List Int} (h : Row c k w 3 1 (some ⟨g, off, none⟩) (i + 1 + m) cap (l.map (Value.int .i64))) :
    Calls Try.prog 112 #[.slice (some ⟨g, off, none⟩) (i + 1 + m) cap, .int .i64 i, .int .i64 ((i : Int) + 1)] w fun e w' => e = .returned (.slice (some ⟨g, off, none⟩) (i + m) cap) ∧ Stp (· = k) c c w w' ∧ Others w w' (some ⟨g, off, none⟩) ∧ Row c k w' 3 1 (some ⟨g, off, none⟩) (i + m) cap ((l.eraseIdx i).map (Value.int .i64)) := by
  have hlen : l.length = i + 1 + m := by simpa using h.1
  have hcap : i + 1 + m ≤ cap := h.2.1
  have hmax : cap ≤ 9223372036854775807 := by have := h.2.2.1; simp only [maxLen] at this; omega
  have H := Lib.hid h
  have Hlen := Lib.hid hlen
  obtain ⟨A, hA, hsrc⟩ : ∃ A : Addr, (if cap = i + 1 then some (⟨g, off, none⟩ : Addr) else some ⟨g, off + (i + 1), none⟩) = some A ∧ Hid (∀ t u, ((l.drop (i + 1)).map (Value.int .i64))[t]? = some u → w.drew.cell? (A.add t) = some u) := by
    by_cases hc : cap = i + 1
    · refine ⟨⟨g, off, none⟩, by simp [hc], Lib.hid fun t u hu => ?_⟩
      have : (l.drop (i + 1)).length = 0 := by rw [List.length_drop]; omega
      rw [List.length_eq_zero_iff.1 this] at hu
      simp at hu
    · refine ⟨⟨g, off + (i + 1), none⟩, by simp [hc], Lib.hid fun t u hu => ?_⟩
      rw [List.getElem?_map, List.getElem?_drop] at hu
      obtain ⟨a, ha, _, hcc, _, hadd, _⟩ := h.cell (j := i + 1 + t) (v := u) (by rw [List.getElem?_map]; exact hu)
      cases ha
      rw [hadd] at hcc
      rw [Addr.add_lit, Nat.add_assoc]
      exact hcc
  have s1 : Hid (((l.drop (i + 1)).map (Value.int .i64)).length = m * 1) := Lib.hid (by simp; omega)
  have hz := int_zero Try.infoInt
  have t22 := Try.underlying40
  have hic : i ≤ cap := by omega
  have hjc : i + 1 ≤ cap := by omega
  have hjc2 : (i : Int) + 1 ≤ cap := by omega
  have htn : ((i : Int) + 1).toNat = i + 1 := by omega
  have hb1 : (0 : Int) ≤ (i : Int) + 1 := by omega
  have hb2 : (i : Int) + 1 ≤ (i : Int) + 1 + m := by omega
  have hmax2 : (i : Int) + 1 + m ≤ 9223372036854775807 := by omega
  clear h hlen
  go_enter Try.func112, Try.ntmps112
  go_wp2_with fail
  go_region_law (refine step_here rfl (.tmp 22) (.tmp 25) 40 rfl c k 3 1 Try.underlying40 (by kernel_rfl) ⟨g, off, none⟩ i cap ((l.map (Value.int .i64)).take (i * 1)) (by simp [Act.eval, Act.put]) (H.out.drew.take i (by omega)) A m (cap - (i + 1)) ((l.drop (i + 1)).map (Value.int .i64)) (by simp [Act.eval, Act.put]) s1.out hsrc.out (ints_one _) (by omega) ?_; intro w1 hr1 st1 ot1)
  have hsp := hr1.spare (j := i + m) (by omega)
  have e1 : i + 1 + m - (i + m) = 1 := by omega
  have hcl : ∀ ty, (Builtin.clear_ #[40] ty #[.slice (some ⟨g, off + (i + m), none⟩) 1 (cap - (i + m))]).run Try.prog w1 = .ok (.tuple #[]) (w1.setCell ⟨g, off + (i + m), none⟩ (.int .i64 0)) := fun ty =>
    Lib.run_clear_slice w1 _ _ ty _ t22 hz rfl rfl g (off + (i + m)) _ _ (by omega) (fun t ht => by rw [show off + (i + m) + t = off + (i + m) by omega]; exact hsp.1) (fun t ht => by rw [show off + (i + m) + t = off + (i + m) by omega]; exact hsp.2)
  have hne : ¬ cap = i + m := by omega
  have hR := Lib.hid hr1
  have St := Lib.hid st1
  have Ot := Lib.hid ot1
  clear hr1 st1 ot1 hsp
  go_wp2
  go_ret
  have hs := hR.out.setSpare (j := i + m) (by omega) (.int .i64 0)
  refine ⟨rfl, ((Stp.refl (· = k) c w).drew.trans St.out).setCell _ H.out.2.2.2.2.1, fun j hj hn => ?_, ?_⟩
  · have hjg : j ≠ g := fun e => hn _ rfl e.symm
    rw [Below.heap_setCell w1 ⟨g, off + (i + m), none⟩ _ j hjg]
    exact Ot.out j hj hn
  · rw [← erase_eq]
    simpa using hs

theorem ixOf_in {l : List Int} {v : Int} (h : v ∈ l) : ixOf l v = (l.idxOf v : Nat) ∧ l.idxOf v < l.length := by
  exact ⟨by rw [ixOf, if_pos h], List.idxOf_lt_length_iff.2 h⟩

theorem gdrop_bad {c : Nat → Nat} {k : Nat} {w : World} {p : Nat} {l : List Int} (h : GroupAt c k w p l) (id : Int) (hv : id ∉ l) :
    Calls Try.prog 60 #[.pointer (some ⟨p, 0, none⟩), .int .i64 id] w fun e w' => ∃ t v, e = .returned (.iface t v) ∧ ∃ c', Stp (fun _ => False) c c' w w' ∧ ErrAt c' w' (.iface t v) 3 := by
  obtain ⟨ao, cap, hb, hr⟩ := h
  have c0 := hb.cell 0
  simp at c0
  have Hr := Lib.hid hr
  have hx : ixOf l id = -1 := by simp [ixOf, hv]
  have Hx := Lib.hid hx
  clear hb hr hv hx
  go_enter Try.func60, Try.ntmps60
  go_wp2_with (first
    | (go_at_call 111; refine (index_in Hr.out.toIn _).mono ?_; rintro e w' ⟨rfl, rfl⟩; rw [Hx.out])
    | (go_at_call 102; refine (wrap_some _ _ _ _ _).mono ?_; rintro e w' ⟨rfl, rfl⟩))
  go_ret
  exact ⟨_, _, rfl, _, (Stp.refl _ c w).alloc _ 1, ErrAt.new _ _ _ _ _⟩

theorem gdrop_ok {c : Nat → Nat} {k : Nat} {w : World} {p : Nat} {l : List Int} (h : GroupAt c k w p l) (id : Int) (hv : id ∈ l) (hl : (l.length : Int) ≤ 1000000) :
    Calls Try.prog 60 #[.pointer (some ⟨p, 0, none⟩), .int .i64 id] w fun e w' => e = .returned .nilIface ∧ ∃ c', Stp (· = k) c c' w w' ∧ GroupAt c' k w' p (l.eraseIdx (l.idxOf id)) := by
  obtain ⟨ao, cap, hb, hr⟩ := h
  obtain ⟨hx, hi⟩ := ixOf_in hv
  obtain ⟨i, hie⟩ : ∃ i, i = l.idxOf id := ⟨_, rfl⟩
  rw [← hie] at hx hi ⊢
  obtain ⟨m, hm⟩ : ∃ m, l.length = i + 1 + m := ⟨l.length - (i + 1), by omega⟩
  rw [hm] at hb hr
  obtain ⟨a, rfl, hs, -, -, -, -⟩ := hr.cell (j := i) (v := .int .i64 (l.getD i 0)) (by simp [List.getD, hi])
  obtain ⟨g, off, sp⟩ := a
  simp only at hs
  subst hs
  have c0 := hb.cell 0
  have f0 := hb.free 0
  simp at c0
  have Hb := Lib.hid hb
  have Hr := Lib.hid hr
  have Hx := Lib.hid hx
  have Hm := Lib.hid hm
  have W : wrap64 ((i : Int) + 1) = i + 1 := IntWalk.wrap64_in _ ⟨by omega, by omega⟩
  clear hb hr hx hv hie hm hl
  go_enter Try.func60, Try.ntmps60
  go_wp2_with (go_at_call 111; refine (index_in Hr.out.toIn _).mono ?_; rintro e w' ⟨rfl, rfl⟩; rw [Hx.out])
  refine (sdelete_one Hr.out).mono ?_
  rintro e w1 ⟨rfl, s1, o1, r1⟩
  have hb1 := Hb.out.kept (c' := c) rfl o1 (Hr.out.ne_blk Hb.out (by decide))
  have d0 := hb1.cell 0
  have g0 := hb1.free 0
  simp at d0
  have Hb1 := Lib.hid hb1
  have R1 := Lib.hid r1
  have S1 := Lib.hid s1
  clear s1 o1 r1 hb1 c0 f0
  go_wp2
  go_ret
  have hlen : (l.eraseIdx i).length = i + m := by rw [List.length_eraseIdx, if_pos hi, Hm.out]; omega
  refine ⟨rfl, c, S1.out.setCell _ Hb1.out.1, some ⟨g, off, none⟩, cap, ?_, ?_⟩
  · rw [hlen]; simpa using Hb1.out.set 0 (.slice (some ⟨g, off, none⟩) (i + m) cap)
  · rw [hlen]; exact R1.out.other _ (Hr.out.ne_blk Hb.out (by decide)) rfl

theorem r08in_any {c : Nat → Nat} {k : Nat} {w : World} {ao : Option Addr} {n cap : Nat} {l : List Int} (h : In c k w 1 ao n cap (l.map (Value.int .i64))) (v : Int) :
    Calls Try.prog 113 #[.slice ao n cap, .int .i64 v] w fun e w' => e = .returned (.int .i64 (ixOf l v)) ∧ w = w' := by
  have hl : l.length = n := by simpa using h.1
  have hm : n ≤ 9223372036854775807 := by have h1 := h.2.1; have h2 := h.2.2.1; simp only [maxLen] at h2; omega
  have H := Lib.hid h
  have Hl := Lib.hid hl
  clear h hl
  go_enter Try.func113, Try.ntmps113
  go_wp2
  go_loop [5] (fun i => ∃ j : Nat, i = .int .i64 j ∧ j ≤ n ∧ v ∉ l.take j) (fun i => n - (intOf i).toNat)
  case atStart => exact ⟨0, rfl, Nat.zero_le _, by simp⟩
  case round =>
    obtain ⟨j, rfl, hj, hn⟩ := hrel
    have Hn := Lib.hid hn
    clear hn
    by_cases hlt : j < n
    · obtain ⟨a, ha, hc⟩ := H.out.ints hlt
      subst ha
      have hjl : j < l.length := by rw [Hl.out]; exact hlt
      by_cases he : l.getD j 0 = v
      · have Hx := Lib.hid (ixOf_hit hjl he Hn.out)
        have t : (l.getD j 0 == v) = true := by simpa using he
        generalize l.getD j 0 = x at *
        clear he hj hjl
        go_wp2
        go_ret
        exact ⟨by rw [Hx.out]; rfl, rfl⟩
      · have Hx := Lib.hid (not_mem_succ hjl he Hn.out)
        have t : (l.getD j 0 == v) = false := by simpa using he
        generalize l.getD j 0 = x at *
        clear he hj hjl
        go_wp2
        go_round
        case rel => exact ⟨j + 1, by go_num, by omega, Hx.out⟩
        case measure => simp [intOf]; omega
    · have hjn : j = n := by omega
      have Hx : Hid (ixOf l v = -1) := Lib.hid (by
        have := Hn.out
        rw [hjn, ← Hl.out, List.take_length] at this
        simp [ixOf, this])
      clear hj hjn
      go_wp2
      go_ret
      exact ⟨by rw [Hx.out]; rfl, rfl⟩

theorem gadd_cond {l : List Int} {id : Int} (he : gaddErr l id = 0) : ¬ id < 0 ∧ ¬ 2097152 ≤ id ∧ id ∉ l ∧ ¬ (32 : Int) ≤ l.length := by
  unfold gaddErr at he
  split at he
  · cases he
  · split at he
    · cases he
    · split at he
      · cases he
      · rename_i h1 h2 h3; exact ⟨by omega, by omega, h2, h3⟩

theorem r08add_bad {c : Nat → Nat} {k : Nat} {w : World} {ao : Option Addr} {n cap : Nat} {l : List Int} (h : In c k w 1 ao n cap (l.map (Value.int .i64))) (hn : l.length = n) (id : Int) (he : gaddErr l id ≠ 0) :
    Calls Try.prog 62 #[.slice ao n cap, .int .i64 id] w fun e w' => e = .returned (.tuple #[.slice ao n cap, .int .i64 (gaddErr l id)]) ∧ w = w' := by
  have H := Lib.hid h
  have Hn := Lib.hid hn
  clear h
  rcases (show (decide (id < 0) = true ∧ gaddErr l id = 1) ∨ (decide (id < 0) = false ∧ decide ((2097152 : Int) ≤ id) = true ∧ gaddErr l id = 1) ∨
      (decide (id < 0) = false ∧ decide ((2097152 : Int) ≤ id) = false ∧ decide (0 ≤ ixOf l id) = true ∧ gaddErr l id = 4) ∨
      (decide (id < 0) = false ∧ decide ((2097152 : Int) ≤ id) = false ∧ decide (0 ≤ ixOf l id) = false ∧ decide ((32 : Int) ≤ (n : Int)) = true ∧ gaddErr l id = 8) by
    by_cases h0 : id < 0
    · exact .inl ⟨by simpa using h0, by simp [gaddErr, h0]⟩
    · by_cases h1 : 2097152 ≤ id
      · exact .inr (.inl ⟨by simpa using h0, by simpa using h1, by simp [gaddErr, h1]⟩)
      · by_cases h2 : id ∈ l
        · exact .inr (.inr (.inl ⟨by simpa using h0, by simpa using h1, ixOf_nonneg h2, by simp [gaddErr, h0, h1, h2]⟩))
        · by_cases h3 : (32 : Int) ≤ l.length
          · exact .inr (.inr (.inr ⟨by simpa using h0, by simpa using h1, ixOf_neg h2, by rw [← hn]; simpa using h3, by simp [gaddErr, h0, h1, h2]; omega⟩))
          · exact absurd (by simp [gaddErr, h0, h1, h2]; omega) he) with ⟨t0, e⟩ | ⟨t0, t1, e⟩ | ⟨t0, t1, t2, e⟩ | ⟨t0, t1, t2, t3, e⟩
  all_goals
    rw [e]
    clear he e hn
    go_enter Try.func62, Try.ntmps62
    go_wp2_with (go_at_call 113; refine (r08in_any H.out _).mono ?_; rintro e w' ⟨rfl, rfl⟩)
    go_ret2
    exact ⟨rfl, rfl⟩

theorem r08add_ok {c : Nat → Nat} {k : Nat} {w : World} {ao : Option Addr} {n cap : Nat} {l : List Int} (h : In c k w 1 ao n cap (l.map (Value.int .i64))) (hn : l.length = n) (k2 : Nat) (id : Int) (he : gaddErr l id = 0) :
    Calls Try.prog 62 #[.slice ao n cap, .int .i64 id] w fun e w' => ∃ ao' cap', e = .returned (.tuple #[.slice ao' (n + 1) cap', .int .i64 0]) ∧ ∃ c', Stp (· = k2) c c' w w' ∧ Row c' k2 w' 3 1 ao' (n + 1) cap' ((l ++ [id]).map (Value.int .i64)) := by
  obtain ⟨h0, h1, h2, h3⟩ := gadd_cond he
  have t0 : decide (id < 0) = false := by simpa using h0
  have t1 : decide ((2097152 : Int) ≤ id) = false := by simpa using h1
  have t2 : decide (0 ≤ ixOf l id) = false := ixOf_neg h2
  have t3 : decide ((32 : Int) ≤ (n : Int)) = false := by rw [← hn]; simpa using h3
  have H := Lib.hid h
  have d1 : Hid (0 + n ≤ maxLen) := Lib.hid (by unfold maxLen; omega)
  have d2 : Hid ((0 + n) * 8 ≤ 140737488355328) := Lib.hid (by omega)
  have d3 : Hid (n + 1 ≤ maxLen) := Lib.hid (by unfold maxLen; omega)
  have d4 : Hid ((n + 1) * 8 ≤ 140737488355328) := Lib.hid (by omega)
  clear h he h0 h1 h2 h3 hn
  go_enter Try.func62, Try.ntmps62
  go_wp2_with (first
    | (go_at_call 113; refine (r08in_any H.out _).mono ?_; rintro e w' ⟨rfl, rfl⟩)
    | (at_builtin; refine wpList_append_row _ rfl (.tmp 23) (.tmp 24) 40 rfl c k2 3 (.int .i64 0) 1 8 Try.underlying40 Try.infoInt rfl none 0 0 [] rfl (Row.nil _ _ _ _ _) _ n (l.map (Value.int .i64)) rfl H.out.src (ints_one _) d1.out d2.out ?_))
  intro ao1 cap1 w1 hr1 st1 _
  obtain ⟨c1, hc1, A1⟩ := st1.name
  rw [← hc1.out] at hr1
  have R1 := Lib.hid (show Row c1 k2 w1 3 1 ao1 n cap1 (l.map (Value.int .i64)) by simpa using hr1)
  clear hr1 st1 hc1
  go_wp2_with (at_builtin; refine wpList_append_row _ rfl (.tmp 26) (.tmp 28) 40 rfl (paint c1 w1.heap.size k2) k2 3 (.int .i64 0) 1 8 Try.underlying40 Try.infoInt rfl ao1 n cap1 (l.map (Value.int .i64)) (by simp [Act.eval]) (R1.out.alloc _ k2) _ 1 [.int .i64 id] rfl (Src.one _ _ _) (by simp [Value.oneCell']) d3.out d4.out ?_)
  intro ao2 cap2 w2 hr2 st2 _
  have R2 := Lib.hid hr2
  have S2 := Lib.hid (((A1.out).alloc (.cells #[.int .i64 id] 3) k2).trans st2)
  clear hr2 st2
  go_wp2
  go_ret2
  exact ⟨ao2, cap2, rfl, _, S2.out, by simpa using R2.out⟩

theorem r08drop_bad {c : Nat → Nat} {k : Nat} {w : World} {ao : Option Addr} {n cap : Nat} {l : List Int} (h : In c k w 1 ao n cap (l.map (Value.int .i64))) (id : Int) (hv : id ∉ l) :
    Calls Try.prog 61 #[.slice ao n cap, .int .i64 id] w fun e w' => e = .returned (.tuple #[.slice ao n cap, .int .i64 3]) ∧ w = w' := by
  have H := Lib.hid h
  have Hx := Lib.hid (show ixOf l id = -1 by simp [ixOf, hv])
  clear h hv
  go_enter Try.func61, Try.ntmps61
  go_wp2_with (go_at_call 113; refine (r08in_any H.out _).mono ?_; rintro e w' ⟨rfl, rfl⟩; rw [Hx.out])
  go_ret2
  exact ⟨rfl, rfl⟩

set_option maxRecDepth 100000 in
theorem r08drop_mid {c : Nat → Nat} {k : Nat} {w : World} {a : Addr} {n cap i : Nat} {l : List Int} (h : In c k w 1 (some a) n cap (l.map (Value.int .i64))) (hn : l.length = n) (hin : i < n) (hcn : n ≤ cap) (hne : ¬ cap = i + 1) (hl : (i : Int) ≤ 900000) (hl2 : l.length ≤ 900000) (k2 : Nat) (v : Int) (hx : ixOf l v = (i : Nat)) :
    Calls Try.prog 61 #[.slice (some a) n cap, .int .i64 v] w fun e w' => ∃ ao' cap', e = .returned (.tuple #[.slice ao' (n - 1) cap', .int .i64 0]) ∧ ∃ c', Stp (· = k2) c c' w w' ∧ Row c' k2 w' 3 1 ao' (n - 1) cap' ((l.eraseIdx i).map (Value.int .i64)) := by
  have H := Lib.hid h
  have Hx := Lib.hid hx
  have W : wrap64 ((i : Int) + 1) = i + 1 := IntWalk.wrap64_in _ ⟨by omega, by omega⟩
  have d1 : Hid (0 + i ≤ maxLen) := Lib.hid (by unfold maxLen; omega)
  have d2 : Hid ((0 + i) * 8 ≤ 140737488355328) := Lib.hid (by omega)
  have d3 : Hid (i + (n - (i + 1)) ≤ maxLen) := Lib.hid (by unfold maxLen; omega)
  have d4 : Hid ((i + (n - (i + 1))) * 8 ≤ 140737488355328) := Lib.hid (by omega)
  have hmax : cap ≤ 9223372036854775807 := by have := h.2.2.1; simp only [maxLen] at this; omega
  have hic : i ≤ cap := by omega
  have hjc : i + 1 ≤ cap := by omega
  have hjn : i + 1 ≤ n := by omega
  have hjn2 : (i : Int) + 1 ≤ n := by omega
  have hjc2 : (i : Int) + 1 ≤ cap := by omega
  have hic2 : (i : Int) ≤ cap := by omega
  have htn : ((i : Int) + 1).toNat = i + 1 := by omega
  have hb1 : (0 : Int) ≤ (i : Int) + 1 := by omega
  have Hlen := Lib.hid hn
  have hd := h.drop (q := i + 1) (by omega)
  rw [Nat.mul_one, ← List.map_drop, if_neg hne] at hd
  have hsrc := Lib.hid hd
  have htk := h.take (q := i) (by omega)
  rw [Nat.mul_one, ← List.map_take] at htk
  have Htk := Lib.hid htk
  have t0 : decide ((i : Int) < 0) = false := by simp
  clear h hx hn htk hl hl2
  go_enter Try.func61, Try.ntmps61
  go_wp2_with (first
    | (go_at_call 113; refine (r08in_any H.out _).mono ?_; rintro e w' ⟨rfl, rfl⟩; rw [Hx.out])
    | (at_builtin; refine wpList_append_row _ rfl (.tmp 14) (.tmp 17) 40 rfl c k2 3 (.int .i64 0) 1 8 Try.underlying40 Try.infoInt rfl none 0 0 [] rfl (Row.nil _ _ _ _ _) _ i ((l.take i).map (Value.int .i64)) rfl Htk.out.src (ints_one _) d1.out d2.out ?_))
  intro ao1 cap1 w1 hr1 st1 ot1
  obtain ⟨c1, hc1, A1⟩ := (st1.ofOthers ot1).name
  rw [← hc1.out] at hr1
  have R1 := Lib.hid (show Row c1 k2 w1 3 1 ao1 i cap1 ((l.take i).map (Value.int .i64)) by simpa using hr1)
  have Hs1 := Lib.hid (hsrc.out.stp A1.out (fun h => h))
  clear hr1 st1 hc1 ot1
  go_wp2_with (at_builtin; refine wpList_append_row _ rfl (.tmp 19) (.tmp 23) 40 rfl c1 k2 3 (.int .i64 0) 1 8 Try.underlying40 Try.infoInt rfl ao1 i cap1 ((l.take i).map (Value.int .i64)) (by simp [Act.eval]) R1.out _ (n - (i + 1)) ((l.drop (i + 1)).map (Value.int .i64)) rfl Hs1.out.src (ints_one _) d3.out d4.out ?_)
  intro ao2 cap2 w2 hr2 st2 _
  have R2 := Lib.hid hr2
  have S2 := Lib.hid ((A1.out.mono (J' := (· = k2)) (fun _ h => h.elim)).trans st2)
  clear hr2 st2
  go_wp2
  go_ret2
  have hlen := Hlen.out
  have e1 : i + (n - (i + 1)) = n - 1 := by omega
  refine ⟨ao2, cap2, by rw [e1]; rfl, _, S2.out, ?_⟩
  rw [← erase_eq, ← e1]
  simpa using R2.out

set_option maxRecDepth 100000 in
theorem r08drop_end {c : Nat → Nat} {k : Nat} {w : World} {a : Addr} {i : Nat} {l : List Int} (h : In c k w 1 (some a) (i + 1) (i + 1) (l.map (Value.int .i64))) (hn : l.length = i + 1) (hl : (i : Int) ≤ 900000) (hl2 : l.length ≤ 900000) (k2 : Nat) (v : Int) (hx : ixOf l v = (i : Nat)) :
    Calls Try.prog 61 #[.slice (some a) (i + 1) (i + 1), .int .i64 v] w fun e w' => ∃ ao' cap', e = .returned (.tuple #[.slice ao' i cap', .int .i64 0]) ∧ ∃ c', Stp (· = k2) c c' w w' ∧ Row c' k2 w' 3 1 ao' i cap' ((l.eraseIdx i).map (Value.int .i64)) := by
  have H := Lib.hid h
  have Hx := Lib.hid hx
  have W : wrap64 ((i : Int) + 1) = i + 1 := IntWalk.wrap64_in _ ⟨by omega, by omega⟩
  have d1 : Hid (0 + i ≤ maxLen) := Lib.hid (by unfold maxLen; omega)
  have d2 : Hid ((0 + i) * 8 ≤ 140737488355328) := Lib.hid (by omega)
  have d3 : Hid (i + 0 ≤ maxLen) := Lib.hid (by unfold maxLen; omega)
  have d4 : Hid ((i + 0) * 8 ≤ 140737488355328) := Lib.hid (by omega)
  have htn : ((i : Int) + 1).toNat = i + 1 := by omega
  have hb1 : (0 : Int) ≤ (i : Int) + 1 := by omega
  have Hlen := Lib.hid hn
  have hsrc := Lib.hid (In.nil c k w 1 (some a))
  have htk := h.take (q := i) (by omega)
  rw [Nat.mul_one, ← List.map_take] at htk
  have Htk := Lib.hid htk
  have t0 : decide ((i : Int) < 0) = false := by simp
  clear h hx hn htk hl hl2
  go_enter Try.func61, Try.ntmps61
  go_wp2_with (first
    | (go_at_call 113; refine (r08in_any H.out _).mono ?_; rintro e w' ⟨rfl, rfl⟩; rw [Hx.out])
    | (at_builtin; refine wpList_append_row _ rfl (.tmp 14) (.tmp 17) 40 rfl c k2 3 (.int .i64 0) 1 8 Try.underlying40 Try.infoInt rfl none 0 0 [] rfl (Row.nil _ _ _ _ _) _ i ((l.take i).map (Value.int .i64)) rfl Htk.out.src (ints_one _) d1.out d2.out ?_))
  intro ao1 cap1 w1 hr1 st1 ot1
  obtain ⟨c1, hc1, A1⟩ := (st1.ofOthers ot1).name
  rw [← hc1.out] at hr1
  have R1 := Lib.hid (show Row c1 k2 w1 3 1 ao1 i cap1 ((l.take i).map (Value.int .i64)) by simpa using hr1)
  have Hs1 := Lib.hid (hsrc.out.stp A1.out (fun h => h))
  clear hr1 st1 hc1 ot1
  go_wp2_with (at_builtin; refine wpList_append_row _ rfl (.tmp 19) (.tmp 23) 40 rfl c1 k2 3 (.int .i64 0) 1 8 Try.underlying40 Try.infoInt rfl ao1 i cap1 ((l.take i).map (Value.int .i64)) (by simp [Act.eval]) R1.out _ 0 [] rfl Hs1.out.src (by simp) d3.out d4.out ?_)
  intro ao2 cap2 w2 hr2 st2 _
  have R2 := Lib.hid hr2
  have S2 := Lib.hid ((A1.out.mono (J' := (· = k2)) (fun _ h => h.elim)).trans st2)
  clear hr2 st2
  go_wp2
  go_ret2
  have hlen := Hlen.out
  have e1 : l.eraseIdx i = l.take i := by rw [← erase_eq, List.drop_of_length_le (by omega), List.append_nil]
  have r2 := R2.out
  rw [e1]
  exact ⟨ao2, cap2, rfl, _, S2.out, by simpa using r2⟩

theorem r08drop_ok {c : Nat → Nat} {k : Nat} {w : World} {ao : Option Addr} {n cap : Nat} {l : List Int} (h : In c k w 1 ao n cap (l.map (Value.int .i64))) (hn : l.length = n) (hl : n ≤ 900000) (k2 : Nat) (v : Int) (hv : v ∈ l) :
    Calls Try.prog 61 #[.slice ao n cap, .int .i64 v] w fun e w' => ∃ ao' cap', e = .returned (.tuple #[.slice ao' (n - 1) cap', .int .i64 0]) ∧ ∃ c', Stp (· = k2) c c' w w' ∧ Row c' k2 w' 3 1 ao' (n - 1) cap' ((l.eraseIdx (l.idxOf v)).map (Value.int .i64)) := by
  obtain ⟨hx, hi⟩ := ixOf_in hv
  obtain ⟨i, hie⟩ : ∃ i, i = l.idxOf v := ⟨_, rfl⟩
  rw [← hie] at hx hi ⊢
  have hcap := h.2.1
  obtain ⟨a, rfl, -⟩ := h.2.2.2.2 (by omega)
  by_cases hc : cap = i + 1
  · subst hc
    obtain rfl : n = i + 1 := by omega
    exact r08drop_end h hn (by omega) (by omega) k2 v hx
  · exact r08drop_mid h hn (by omega) hcap hc (by omega) (by omega) k2 v hx
end Go.Proofs.Ytmhhhiegioniaaa
