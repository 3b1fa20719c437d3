/- A chain's text, by the program and by the document; whether it is one number. No condition beyond each lemma's own, and that the listed variables hold what the program lays there. -/
import Derived.Test.YtpknhaemfpmpkaaDoorFltD
import Derived.Test.YtpknhaemfpmpkaaDoorFltText
import Derived.Test.YtpknhaemfpmpkaaDoorFlt7
import Derived.Great.Walk
import Derived.Deep.RegionHeld3
namespace Go.Proofs.YtpknhaemfpmpkaaDoor
open Go.RowKit Go.Extern.Stop Go.Stop Go.Extern Go.Deep Go.Great

attribute [local irreducible] nameCells in
/-- What the document calls a number. -/
theorem name_c (n : Int) (h0 : 0 ≤ n) (h1 : n < 19) (o : ByteArray) (ho : nameCells[n.toNat]? = some (.string o)) (w : World) : Calls Tryd.prog 28 #[.int .i64 n] w fun e w' => e = .returned (.string o) ∧ Old w w' := by
  go_enter Tryd.func28, Tryd.ntmps28
  apply wp_seq_k; intro K0 hK0
  apply wp_region_lit
  refine wpList_readTo rfl (some 2) rfl (.string ⟨#[]⟩) (by kernel_rfl) ?_
  apply wpList_nil
  refine hK0 _ _ ?_
  clear hK0 K0
  apply wp_seq_k; intro K1 hK1
  apply wp_region_lit
  refine wpList_buildSliceTo rfl 84 9 19 _ rfl w.heap.size rfl (some 4) rfl Tryd.underlying84 nameCells (by as_aux_lemma => kernel_rfl) ?_
  refine wpList_readTo rfl (some 3) rfl (.slice (some ⟨w.heap.size, 0, none⟩) 19 19) (by kernel_rfl) ?_
  apply wpList_nil
  refine hK1 _ _ ?_
  clear hK1 K1
  have hcell : (w.alloc (.cells nameCells 9)).cell? ⟨w.heap.size, n.toNat, none⟩ = some (.string o) := by
    rw [World.cell?_alloc_at _ _ _ _ rfl]; exact ho
  have hold : Old w (w.alloc (.cells nameCells 9)) := (Old.refl w).alloc _
  generalize (w.alloc (.cells nameCells 9)) = W at hcell hold ⊢
  have Hold := Lib.hid hold
  clear ho hold
  obtain ⟨m, rfl⟩ : ∃ m : Nat, n = m := ⟨n.toNat, by omega⟩
  have g1 : decide ((m : Int) < 0) = false := by simp
  have g2 : decide ((19 : Int) ≤ (m : Int)) = false := by simp; omega
  have g4 : m < 19 := by omega
  have g5 : (0 : Int) ≤ (m : Int) := by omega
  simp only [Int.toNat_natCast] at hcell
  show Code.wp _ _ _ ⟨#[.int .i64 m, undef, .string ⟨#[]⟩, .slice (some ⟨w.heap.size, 0, none⟩) 19 19, .slice (some ⟨w.heap.size, 0, none⟩) 19 19, undef, undef, undef, undef, undef, undef, undef, undef, undef, undef, undef, undef], []⟩ W
  generalize w.heap.size = b at hcell ⊢
  go_wp2
  go_ret
  exact ⟨rfl, Hold.out⟩

theorem names_fin (i : Nat) (h : i < 19) : ∃ o : ByteArray, nameCells[i]? = some (.string o) ∧ o.size ≤ 9 := by
  match i, h with
  | 0, _ => exact ⟨_, rfl, by decide⟩
  | 1, _ => exact ⟨_, rfl, by decide⟩
  | 2, _ => exact ⟨_, rfl, by decide⟩
  | 3, _ => exact ⟨_, rfl, by decide⟩
  | 4, _ => exact ⟨_, rfl, by decide⟩
  | 5, _ => exact ⟨_, rfl, by decide⟩
  | 6, _ => exact ⟨_, rfl, by decide⟩
  | 7, _ => exact ⟨_, rfl, by decide⟩
  | 8, _ => exact ⟨_, rfl, by decide⟩
  | 9, _ => exact ⟨_, rfl, by decide⟩
  | 10, _ => exact ⟨_, rfl, by decide⟩
  | 11, _ => exact ⟨_, rfl, by decide⟩
  | 12, _ => exact ⟨_, rfl, by decide⟩
  | 13, _ => exact ⟨_, rfl, by decide⟩
  | 14, _ => exact ⟨_, rfl, by decide⟩
  | 15, _ => exact ⟨_, rfl, by decide⟩
  | 16, _ => exact ⟨_, rfl, by decide⟩
  | 17, _ => exact ⟨_, rfl, by decide⟩
  | 18, _ => exact ⟨_, rfl, by decide⟩
  | k + 19, h => omega

theorem nDigits_le : ∀ (k u : Nat), u < 10 ^ (k + 1) → Lib.nDigits u ≤ k + 1
  | 0, u, h => by rw [Lib.nDigits_small (by simpa using h)]; exact Nat.le_refl _
  | k + 1, u, h => by
    by_cases hu : u < 10
    · rw [Lib.nDigits_small hu]; omega
    · rw [Lib.nDigits_big hu]
      have := nDigits_le k (u / 10) (by rw [Nat.pow_succ] at h; exact Nat.div_lt_of_lt_mul (by rw [Nat.mul_comm]; exact h))
      omega

def itoaB (s : Int) : ByteArray := ⟨(Lib.itoa s).toArray⟩
theorem itoaB_size {s : Int} (h0 : -9223372036854775808 ≤ s) (h1 : s ≤ 9223372036854775807) : (itoaB s).size ≤ 20 := by
  have hb := nat63 h0 h1
  have h2 := nDigits_le 18 s.natAbs hb
  have hlen : (Lib.itoa s).length ≤ 20 := by
    unfold Lib.itoa
    by_cases hs : s < 0
    · rw [if_pos hs, List.length_cons, Lib.decDigits_length]; omega
    · rw [if_neg hs, Lib.decDigits_length, show s.toNat = s.natAbs by omega]; omega
  simpa [itoaB, ByteArray.size] using hlen

/-- The text of a chain whose number is called `o`. -/
def txt (o : ByteArray) : List (ByteArray × Int) → ByteArray
  | [] => o
  | x :: L => x.1 ++ ⟨#[32]⟩ ++ itoaB x.2 ++ ⟨#[58, 32]⟩ ++ txt o L

def okL (L : List (ByteArray × Int)) : Prop := ∀ x ∈ L, x.1.size ≤ 100 ∧ -9223372036854775808 ≤ x.2 ∧ x.2 ≤ 9223372036854775807

theorem txt_size {o : ByteArray} (ho : o.size ≤ 9) : ∀ {L : List (ByteArray × Int)}, okL L → (txt o L).size ≤ 9 + 123 * L.length
  | [], _ => by simpa [txt] using ho
  | x :: L, h => by
    have hx := h x (by simp)
    have h1 := itoaB_size hx.2.1 hx.2.2
    have h2 := txt_size ho (L := L) (fun y hy => h y (by simp [hy]))
    have e1 : (⟨#[32]⟩ : ByteArray).size = 1 := rfl
    have e2 : (⟨#[58, 32]⟩ : ByteArray).size = 2 := rfl
    simp only [txt, ByteArray.size_append, e1, e2, List.length_cons]
    omega

/-- The table of powers of ten. -/
def PT (w : World) : Prop := Lib.TabIs Tryd.prog w "internal/strconv.uint64pow10" .u64 Lib.pow10Tab

theorem fmt_old (n : Int) (h0 : -9223372036854775808 ≤ n) (h1 : n ≤ 9223372036854775807) (w : World) (h : PT w) :
    Calls Tryd.prog 25 #[.int .i64 n, .int .i64 10] w fun e w' => e = .returned (.string (itoaB n)) ∧ Old w w' :=
  (fmt_any n h0 h1 w h).mono fun _ _ ⟨he, k, os, hw⟩ => ⟨he, by
    subst hw
    exact ⟨rfl, rfl, rfl, by simp, fun j hj => Sort.heap_grow_old (w.drewN k) os hj⟩⟩

theorem PT.old {w w' : World} (h : PT w) (k : Old w w') : PT w' := by
  unfold PT Lib.TabIs at *
  rw [← h]
  have hg : Tryd.prog.globalNamed "internal/strconv.uint64pow10" = some 1 := by kernel_rfl
  unfold World.var? at *
  rw [hg] at h ⊢
  simp only [Option.bind_some] at h ⊢
  have hlt : 1 < w.heap.size := by
    rcases Nat.lt_or_ge 1 w.heap.size with hl | hl
    · exact hl
    · rw [Array.getElem?_eq_none hl] at h; cases h
  rw [k.block _ hlt]

theorem fmt_b {w0 W : World} {b : Nat} {op : ByteArray} {sq : Int} {u : Value} (hx : -9223372036854775808 ≤ sq ∧ sq ≤ 9223372036854775807) (hb : w0.heap[b]? = some (.cells #[.string op, .int .i64 sq, u] 33 (0, 0))) (hO : Old w0 W) (hp : PT w0) :
    Calls Tryd.prog 25 #[.int .i64 sq, .int .i64 10] W fun e w' => e = .returned (.string (itoaB sq)) ∧ Hid (Old w0 w') ∧ w'.cell? ⟨b, 0, none⟩ = some (.string op) ∧ w'.cell? ⟨b, 1, none⟩ = some (.int .i64 sq) :=
  (fmt_old sq hx.1 hx.2 W (hp.old hO)).mono fun _ w' ⟨he, ho⟩ => ⟨he, Lib.hid (hO.trans ho), by
    have := (hO.trans ho).blk hb
    exact ⟨by simp only [World.cell?, this]; rfl, by simp only [World.cell?, this]; rfl⟩⟩

set_option maxRecDepth 100000 in
set_option maxHeartbeats 4000000 in
/-- The program's text of a fault. -/
theorem ferr_c (o : ByteArray) (n : Int) (hn : 0 ≤ n ∧ n < 19) (ho : nameCells[n.toNat]? = some (.string o)) (ho9 : o.size ≤ 9) :
    ∀ (L : List (ByteArray × Int)) (x : ByteArray × Int) (p : Nat) (w : World), okL (x :: L) → L.length ≤ 100 → Ch w (x :: L) n (.iface 29 (.pointer (some ⟨p, 0, none⟩))) → ET w → PT w →
      Calls Tryd.prog 16 #[.pointer (some ⟨p, 0, none⟩)] w fun e w' => e = .returned (.string (txt o (x :: L))) ∧ Old w w' := by
  intro L
  induction L with
  | nil =>
    intro x p w hx hl hc hg hp
    obtain ⟨b, u, e, hb, hu⟩ := hc
    injection e with _ e
    injection e with e
    injection e with e
    injection e with e
    subst e
    have HX := Lib.hid (hx x (by simp))
    have Hits := Lib.hid (itoaB_size HX.out.2.1 HX.out.2.2)
    have hv : u = Value.iface 37 (.int .i64 n) := hu
    subst hv
    obtain ⟨op, sq⟩ := x
    simp only at Hits hb HX
    have Hb := Lib.hid hb
    have Hg := Lib.hid hg
    have Hp := Lib.hid hp
    have Ht := Lib.hid (show txt o ([(op, sq)]) = op ++ ⟨#[32]⟩ ++ itoaB sq ++ ⟨#[58, 32]⟩ ++ o from rfl)
    rw [Ht.out]
    have hbx : Hid (-9223372036854775808 ≤ sq ∧ sq ≤ 9223372036854775807) := Lib.hid HX.out.2
    have hfm := fun (W : World) (h : Old w W) => fmt_b hbx.out Hb.out h Hp.out
    have Hfm := Lib.hid hfm
    have a1 : ∀ W : World, (Op.stringOp .add op ⟨#[32]⟩).run Tryd.prog W = .ok (.string (op ++ ⟨#[32]⟩)) W := fun W => run_string_add_sum W _ _ (by have := HX.out.1; have e1 : (⟨#[32]⟩ : ByteArray).size = 1 := rfl; omega)
    have a2 : ∀ W : World, (Op.stringOp .add (op ++ ⟨#[32]⟩) (itoaB sq)).run Tryd.prog W = .ok (.string (op ++ ⟨#[32]⟩ ++ itoaB sq)) W := fun W => run_string_add_sum W _ _ (by have := HX.out.1; have := Hits.out; have e1 : (⟨#[32]⟩ : ByteArray).size = 1 := rfl; rw [ByteArray.size_append]; omega)
    have a3 : ∀ W : World, (Op.stringOp .add (op ++ ⟨#[32]⟩ ++ itoaB sq) ⟨#[58, 32]⟩).run Tryd.prog W = .ok (.string (op ++ ⟨#[32]⟩ ++ itoaB sq ++ ⟨#[58, 32]⟩)) W := fun W => run_string_add_sum W _ _ (by have := HX.out.1; have := Hits.out; have e1 : (⟨#[32]⟩ : ByteArray).size = 1 := rfl; have e2 : (⟨#[58, 32]⟩ : ByteArray).size = 2 := rfl; rw [ByteArray.size_append, ByteArray.size_append]; omega)
    have a4 : ∀ W : World, (Op.stringOp .add (op ++ ⟨#[32]⟩ ++ itoaB sq ++ ⟨#[58, 32]⟩) o).run Tryd.prog W = .ok (.string (op ++ ⟨#[32]⟩ ++ itoaB sq ++ ⟨#[58, 32]⟩ ++ o)) W := fun W => run_string_add_sum W _ _ (by have := HX.out.1; have := Hits.out; have e1 : (⟨#[32]⟩ : ByteArray).size = 1 := rfl; have e2 : (⟨#[58, 32]⟩ : ByteArray).size = 2 := rfl; rw [ByteArray.size_append, ByteArray.size_append, ByteArray.size_append]; omega)
    have k0 : w.cell? ⟨p, 0, none⟩ = some (.string op) := by simp only [World.cell?, hb]; rfl
    have k1 : w.cell? ⟨p, 1, none⟩ = some (.int .i64 sq) := by simp only [World.cell?, hb]; rfl
    clear hx hl hg hp hb hfm hu
    generalize itoaB sq = it at *
    go_enter Tryd.func16, Tryd.ntmps16
    go_wp2
    go_region_held3 (fun w' => w'.cell? ⟨p, 0, none⟩ = some (.string op) ∧ w'.cell? ⟨p, 1, none⟩ = some (.int .i64 sq))
      (first | exact ⟨by assumption, by assumption⟩ | go_keep)
      (first | (go_at_call 25; refine (Hfm.out _ (by first | exact (Old.refl _).drew | exact Old.refl _)).mono ?_; rintro e w2 ⟨rfl, O2, k0, k1⟩))
    clear k0 k1
    have k2 : ((w2.alloc (.cells #[.pointer none] 29)).alloc (.cells #[.int .i64 0] 37)).cell? ⟨p, 2, none⟩ = some (.iface 37 (.int .i64 n)) := by
      have := ((O2.out.alloc (.cells #[.pointer none] 29)).alloc (.cells #[.int .i64 0] 37)).blk Hb.out
      simp only [World.cell?, this]; rfl
    go_wp2_with fail
    refine (as_no n ⟨w2.heap.size, 0, none⟩ _ (((Hg.out.old O2.out).alloc _).alloc _)).mono ?_
    rintro e w3 ⟨rfl, o3⟩
    have O3 := Lib.hid (((O2.out.alloc _).alloc _).trans o3)
    have hcb : w3.heap[w2.heap.size + 1]? = some (.cells #[.int .i64 0] 37) := o3.blk (by have := heap_alloc_new (w2.alloc (.cells #[.pointer none] 29)) (.cells #[.int .i64 0] 37); simpa using this)
    have HE := Lib.hid hcb
    have k3 : w3.cell? ⟨p, 2, none⟩ = some (.iface 37 (.int .i64 n)) := by
      have := O3.out.blk Hb.out
      simp only [World.cell?, this]; rfl
    clear o3 k2 hcb
    go_wp2_with fail
    refine (as_num [] n (.iface 37 (.int .i64 n)) ⟨w2.heap.size + 1, 0, none⟩ (.int .i64 0) _ rfl (Hg.out.old O3.out) (by simp only [World.cell?, HE.out]; rfl) (by simp only [World.frozen?, HE.out]; rfl)).mono ?_
    rintro e w4 ⟨rfl, X, hX, rfl⟩
    have HW := Lib.hid (O3.out.trans hX)
    have hcell : (X.setCell ⟨w2.heap.size + 1, 0, none⟩ (.int .i64 n)).cell? ⟨w2.heap.size + 1, 0, none⟩ = some (.int .i64 n) :=
      cell_set (v := .int .i64 0) (cs := [.int .i64 0]) (hX.blk HE.out) rfl
    have hs2 := O2.out.size
    have HZ := Lib.hid (HW.out.set (p := ⟨w2.heap.size + 1, 0, none⟩) (by simp only; omega) (.int .i64 n))
    clear hX k3 hs2
    go_wp2_with fail
    refine (errno_text n hn.1 hn.2 o ho _).mono ?_
    rintro e w5 ⟨rfl, o5⟩
    have O5 := Lib.hid (HZ.out.trans o5)
    clear o5
    go_wp2
    go_ret
    exact ⟨rfl, O5.out⟩
  | cons y L ih =>
    intro x p w hx hl hc hg hp
    obtain ⟨b, u, e, hb, hu⟩ := hc
    injection e with _ e
    injection e with e
    injection e with e
    injection e with e
    subst e
    have HX := Lib.hid (hx x (by simp))
    have Hits := Lib.hid (itoaB_size HX.out.2.1 HX.out.2.2)
    have Hall := Lib.hid (show okL (y :: L) from fun z hz => hx z (by simp at hz ⊢; exact .inr hz))
    have Hll := Lib.hid (show L.length ≤ 100 by simp at hl; omega)
    have Hrs := Lib.hid (show (txt o (y :: L)).size ≤ 1000000 by have := txt_size ho9 Hall.out; simp at hl this; omega)
    have HU := Lib.hid hu
    have IH := Lib.hid ih
    obtain ⟨q, u2, e2, hb2, hu2⟩ := hu
    subst e2
    obtain ⟨op, sq⟩ := x
    simp only at Hits hb HX
    have Hb := Lib.hid hb
    have Hg := Lib.hid hg
    have Hp := Lib.hid hp
    have Ht := Lib.hid (show txt o ((op, sq) :: y :: L) = op ++ ⟨#[32]⟩ ++ itoaB sq ++ ⟨#[58, 32]⟩ ++ txt o (y :: L) from rfl)
    rw [Ht.out]
    have hbx : Hid (-9223372036854775808 ≤ sq ∧ sq ≤ 9223372036854775807) := Lib.hid HX.out.2
    have hfm := fun (W : World) (h : Old w W) => fmt_b hbx.out Hb.out h Hp.out
    have Hfm := Lib.hid hfm
    have a1 : ∀ W : World, (Op.stringOp .add op ⟨#[32]⟩).run Tryd.prog W = .ok (.string (op ++ ⟨#[32]⟩)) W := fun W => run_string_add_sum W _ _ (by have := HX.out.1; have e1 : (⟨#[32]⟩ : ByteArray).size = 1 := rfl; omega)
    have a2 : ∀ W : World, (Op.stringOp .add (op ++ ⟨#[32]⟩) (itoaB sq)).run Tryd.prog W = .ok (.string (op ++ ⟨#[32]⟩ ++ itoaB sq)) W := fun W => run_string_add_sum W _ _ (by have := HX.out.1; have := Hits.out; have e1 : (⟨#[32]⟩ : ByteArray).size = 1 := rfl; rw [ByteArray.size_append]; omega)
    have a3 : ∀ W : World, (Op.stringOp .add (op ++ ⟨#[32]⟩ ++ itoaB sq) ⟨#[58, 32]⟩).run Tryd.prog W = .ok (.string (op ++ ⟨#[32]⟩ ++ itoaB sq ++ ⟨#[58, 32]⟩)) W := fun W => run_string_add_sum W _ _ (by have := HX.out.1; have := Hits.out; have e1 : (⟨#[32]⟩ : ByteArray).size = 1 := rfl; have e2 : (⟨#[58, 32]⟩ : ByteArray).size = 2 := rfl; rw [ByteArray.size_append, ByteArray.size_append]; omega)
    have a4 : ∀ W : World, (Op.stringOp .add (op ++ ⟨#[32]⟩ ++ itoaB sq ++ ⟨#[58, 32]⟩) (txt o (y :: L))).run Tryd.prog W = .ok (.string (op ++ ⟨#[32]⟩ ++ itoaB sq ++ ⟨#[58, 32]⟩ ++ (txt o (y :: L)))) W := fun W => run_string_add_sum W _ _ (by have := HX.out.1; have := Hits.out; have := Hrs.out; have e1 : (⟨#[32]⟩ : ByteArray).size = 1 := rfl; have e2 : (⟨#[58, 32]⟩ : ByteArray).size = 2 := rfl; rw [ByteArray.size_append, ByteArray.size_append, ByteArray.size_append]; omega)
    have k0 : w.cell? ⟨p, 0, none⟩ = some (.string op) := by simp only [World.cell?, hb]; rfl
    have k1 : w.cell? ⟨p, 1, none⟩ = some (.int .i64 sq) := by simp only [World.cell?, hb]; rfl
    clear hx hl hg hp hb hfm ih hb2 hu2
    generalize itoaB sq = it at *
    go_enter Tryd.func16, Tryd.ntmps16
    go_wp2
    go_region_held3 (fun w' => w'.cell? ⟨p, 0, none⟩ = some (.string op) ∧ w'.cell? ⟨p, 1, none⟩ = some (.int .i64 sq))
      (first | exact ⟨by assumption, by assumption⟩ | go_keep)
      (first | (go_at_call 25; refine (Hfm.out _ (by first | exact (Old.refl _).drew | exact Old.refl _)).mono ?_; rintro e w2 ⟨rfl, O2, k0, k1⟩))
    clear k0 k1
    have k2 : ((w2.alloc (.cells #[.pointer none] 29)).alloc (.cells #[.int .i64 0] 37)).cell? ⟨p, 2, none⟩ = some (.iface 29 (.pointer (some ⟨q, 0, none⟩))) := by
      have := ((O2.out.alloc (.cells #[.pointer none] 29)).alloc (.cells #[.int .i64 0] 37)).blk Hb.out
      simp only [World.cell?, this]; rfl
    go_wp2_with fail
    refine (as_fault ⟨q, 0, none⟩ ⟨w2.heap.size, 0, none⟩ (.pointer none) _ (((Hg.out.old O2.out).alloc _).alloc _) (cell_alloc _ (by simp)) (frozen_alloc (v := .pointer none) _ (by simp) (by simp))).mono ?_
    rintro e w3 ⟨rfl, X, hX, rfl⟩
    have HW := Lib.hid (((O2.out.alloc _).alloc _).trans hX)
    have hcell : (X.setCell ⟨w2.heap.size, 0, none⟩ (.pointer (some ⟨q, 0, none⟩))).cell? ⟨w2.heap.size, 0, none⟩ = some (.pointer (some ⟨q, 0, none⟩)) :=
      cell_set (v := .pointer none) (cs := [.pointer none]) (hX.blk (((Old.refl _).alloc _).blk (heap_alloc_new w2 _))) rfl
    have HZ := Lib.hid (HW.out.set (p := ⟨w2.heap.size, 0, none⟩) O2.out.size (.pointer (some ⟨q, 0, none⟩)))
    clear hX k2
    go_wp2_with fail
    refine (IH.out y q _ Hall.out Hll.out (HU.out.old HZ.out) (Hg.out.old HZ.out) (Hp.out.old HZ.out)).mono ?_
    rintro e w5 ⟨rfl, o5⟩
    have O5 := Lib.hid (HZ.out.trans o5)
    clear o5
    go_wp2
    go_ret
    exact ⟨rfl, O5.out⟩
end Go.Proofs.YtpknhaemfpmpkaaDoor
