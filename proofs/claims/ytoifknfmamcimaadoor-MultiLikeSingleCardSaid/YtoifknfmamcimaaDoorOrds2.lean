/- The walk of MultiOrders. No condition but that the table of math/bits holds what the program lays there. -/
import Derived.Test.YtoifknfmamcimaaDoorOrds1
namespace Go.Proofs.YtoifknfmamcimaaDoor
open Go.RowKit

def laO (v : Int) : List Int := v :: (-1) :: List.replicate (2 ^ 8) (-1)

theorem rep_get (a b v : Int) {N i : Nat} (h : i < N) : (a :: b :: List.replicate N v).getD (2 + i) 0 = v := by
  rw [Nat.add_comm]
  simp [List.getD, h]
theorem laO_get (v : Int) {i : Nat} (h : i < 256) : (laO v).getD (2 + i) 0 = -1 := rep_get _ _ _ (show i < 2 ^ 8 from h)

def Bof (l : List Int) : Nat → Int
  | 0 => 0
  | j + 1 => Bof l j + (l.getD j 0).tmod 5 + 1

theorem Tryd.infoBoolO : (Tryd.prog.info? 4).map (fun i => (i.zero, i.size, i.bytes)) = some (some (.bool false), 1, 1) := by kernel_rfl

theorem made_bools (n : Nat) : madeCells #[.bool false] n = ((List.replicate n false).map Value.bool).toArray := by
  apply Array.toList_inj.1
  rw [toList_madeCells_one]
  simp

theorem arr_bools (n : Nat) : Array.replicate n (Value.bool false) = ((List.replicate n false).map Value.bool).toArray := by simp

theorem or_mod {l : List Int} (h : ∀ t ∈ l, 0 ≤ t ∧ t ≤ 255) {j : Nat} (hj : j < l.length) : ∃ kk : Nat, kk ≤ 4 ∧ (l.getD j 0).tmod 5 = (kk : Int) ∧ Bof l (j + 1) = Bof l j + (kk : Int) + 1 := by
  have h1 := (h (l.getD j 0) (by simp [List.getD, hj])).1
  obtain ⟨u, hu⟩ := Int.eq_ofNat_of_zero_le h1
  have e : (l.getD j 0).tmod 5 = ((u % 5 : Nat) : Int) := by
    rw [hu, show (5 : Int) = ((5 : Nat) : Int) from rfl, ← Int.ofNat_tmod]
  exact ⟨u % 5, by omega, e, by rw [Bof, e]⟩

theorem bof_ok {l : List Int} (h : ∀ t ∈ l, 0 ≤ t ∧ t ≤ 255) (hl : l.length ≤ 12) : BOK (Bof l) l.length := by
  refine ⟨rfl, fun i hi => ?_, hl⟩
  obtain ⟨kk, h1, h2, h3⟩ := or_mod h hi
  rw [h3]
  omega

theorem or_next {b : Int} {kk : Nat} (hb : 0 ≤ b ∧ b ≤ 60) (hk : kk ≤ 4) : nextErr (b - 1) ((kk : Int) + 1) = 0 := by
  unfold nextErr
  rw [if_neg (by omega), if_neg (by omega), if_neg (by omega)]
theorem or_k1 {kk : Nat} (hk : kk ≤ 4) : 1 ≤ (kk : Int) + 1 ∧ (kk : Int) + 1 ≤ 2 ^ 8 := by omega
theorem or_k2 {b : Int} {kk : Nat} (hb : 0 ≤ b ∧ b ≤ 60) (hk : kk ≤ 4) : b - 1 + ((kk : Int) + 1) - 2 ^ 8 ≤ -1 ∧ -1 ≤ b - 1 := by omega
theorem or_k3 {b : Int} {kk : Nat} (hb : 0 ≤ b ∧ b ≤ 60) (hk : kk ≤ 4) : wrap64 (b - 1 + ((kk : Int) + 1) - 2 ^ 8) = b - 1 + ((kk : Int) + 1) - 2 ^ 8 := IntWalk.wrap64_in _ (by constructor <;> omega)
theorem or_w1 {kk : Nat} (hk : kk ≤ 4) : wrap64 (kk : Int) = kk := IntWalk.wrap64_in _ (by constructor <;> omega)
theorem or_w2 {kk : Nat} (hk : kk ≤ 4) : wrap64 ((kk : Int) + 1) = (kk : Int) + 1 := IntWalk.wrap64_in _ (by constructor <;> omega)
theorem or_w3 {b X : Int} {kk : Nat} (hb : 0 ≤ b ∧ b ≤ 60) (hX : X = b - 1 + ((kk : Int) + 1)) : wrap64 (X - (kk : Int)) = b := by
  rw [hX, show b - 1 + ((kk : Int) + 1) - (kk : Int) = b by omega]
  exact IntWalk.wrap64_in _ (by constructor <;> omega)
theorem or_u8 {v : Int} (h : 0 ≤ v ∧ v ≤ 255) : wrap64 v = v := IntWalk.wrap64_in _ (by constructor <;> omega)
theorem or_pick {v : Int} {n : Nat} (h : 0 ≤ v ∧ v ≤ 255) (hn : 0 < n) : ∃ id : Nat, id < n ∧ v.tmod (n : Int) = (id : Int) := by
  obtain ⟨u, rfl⟩ := Int.eq_ofNat_of_zero_le h.1
  exact ⟨u % n, Nat.mod_lt _ hn, by rw [← Int.ofNat_tmod]⟩
theorem or_max {j : Nat} (h : j ≤ 12) : j + 1 ≤ maxLen ∧ (j + 1) * 8 ≤ 140737488355328 := by unfold maxLen; omega
theorem or_pub {B : Nat → Int} {n id : Nat} (h : BOK B n) (hid : id < n) : 0 ≤ B id ∧ B id ≤ B (id + 1) - 1 ∧ B (id + 1) - 1 ≤ B n - 1 ∧ B (id + 1) - 1 - B id < 2 ^ 8 ∧ B n - 1 ≤ 4611686018427387904 := by
  have h1 := h.st id hid
  have h2 := h.top (show id ≤ n by omega)
  have h3 := h.top (Nat.le_refl n)
  have h4 := h.mono n (id + 1) hid (Nat.le_refl _)
  have h5 : (2 : Int) ^ 8 = 256 := rfl
  omega

/-- Orders, while it is claimed. -/
structure OAt (w0 : World) (p q bp gp : Nat) (la : List Int) (B : Nat → Int) (j : Nat) (loo hio : Option Addr) (lcap hcap : Nat) (c : Nat → Nat) (w : World) : Prop where
  st : Stp (2 ≤ ·) (fun _ => 0) c w0 w
  ar : ArenaS c 2 w q la
  sq : SeqIs c 3 w p q bp gp ⟨8, 0, 1, 2, []⟩
  lo : Row c 9 w 2 1 loo j lcap ((loL B j).map (Value.int .i64))
  hi : Row c 10 w 2 1 hio j hcap ((hiL B j).map (Value.int .i64))

/-- Orders, while it is published. -/
structure O2At (w0 : World) (p q bp gp d n : Nat) (la : List Int) (B : Nat → Int) (loo hio : Option Addr) (lcap hcap : Nat) (dm di : List Bool) (c : Nat → Nat) (w : World) : Prop where
  o : OAt w0 p q bp gp la B n loo hio lcap hcap c w
  dn : Blk c 11 w d (dm.map Value.bool) 4
  iv : OInv la B n di

section
variable {w0 : World} {p q bp gp d n : Nat} {la la' : List Int} {B : Nat → Int} {j : Nat} {loo hio : Option Addr} {lcap hcap : Nat} {dm di : List Bool} {c c' : Nat → Nat} {w w' : World} {a b : Addr} {id : Nat}
theorem OAt.stpF (h : OAt w0 p q bp gp la B j loo hio lcap hcap c w) (t : Stp (fun _ => False) c c' w w') : OAt w0 p q bp gp la B j loo hio lcap hcap c' w' :=
  ⟨h.st.trans (t.mono fun _ h => h.elim), h.ar.stp t id, h.sq.stp t id id id, h.lo.stp t id, h.hi.stp t id⟩
theorem OAt.stp12 (h : OAt w0 p q bp gp la B j loo hio lcap hcap c w) (t : Stp (12 ≤ ·) c c' w w') : OAt w0 p q bp gp la B j loo hio lcap hcap c' w' :=
  ⟨h.st.trans (t.mono fun _ h => by omega), h.ar.stp t (by decide), h.sq.stp t (by decide) (by decide) (by decide), h.lo.stp t (by decide), h.hi.stp t (by decide)⟩
theorem OAt.are (h : OAt w0 p q bp gp la B j loo hio lcap hcap c w) (t : Stp (· = 2) c c' w w') (a : ArenaS c' 2 w' q la') (s : SeqIs c' 3 w' p q bp gp ⟨8, 0, 1, 2, []⟩) : OAt w0 p q bp gp la' B j loo hio lcap hcap c' w' :=
  ⟨h.st.trans (t.up (by decide)), a, s, h.lo.stp t (by decide), h.hi.stp t (by decide)⟩
theorem OAt.tab (h : OAt w0 p q bp gp la B j loo hio lcap hcap c w) (ht : Tab w0) : Tab w ∧ c 1 = 0 :=
  ⟨ht.stp h.st (by decide), by rw [h.st.col _ (World.block_lt_of_cell? _ _ (ht 0 (by decide)))]⟩
theorem O2At.stpF (h : O2At w0 p q bp gp d n la B loo hio lcap hcap dm di c w) (t : Stp (fun _ => False) c c' w w') : O2At w0 p q bp gp d n la B loo hio lcap hcap dm di c' w' := ⟨h.o.stpF t, h.dn.stp t id, h.iv⟩
theorem O2At.stp12 (h : O2At w0 p q bp gp d n la B loo hio lcap hcap dm di c w) (t : Stp (12 ≤ ·) c c' w w') : O2At w0 p q bp gp d n la B loo hio lcap hcap dm di c' w' := ⟨h.o.stp12 t, h.dn.stp t (by decide), h.iv⟩
theorem O2At.cells (h : O2At w0 p q bp gp d n la B (some a) (some b) lcap hcap dm di c w) {id : Nat} (hid : id < n) : w.cell? (a.add id) = some (.int .i64 (B id)) ∧ w.cell? (b.add id) = some (.int .i64 (B (id + 1) - 1)) := by
  obtain ⟨a', ha, h1⟩ := h.o.lo.toIn.ints hid
  obtain ⟨b', hb, h2⟩ := h.o.hi.toIn.ints hid
  cases ha
  cases hb
  rw [loL_get hid] at h1
  rw [hiL_get hid] at h2
  exact ⟨h1, h2⟩
theorem O2At.upto_c (h : O2At w0 p q bp gp d n la B (some a) (some b) lcap hcap dm dm c w) {id : Nat} (hid : id < n) :
    Calls Tryd.prog 25 #[.pointer (some ⟨p, 0, none⟩), .slice (some ⟨d, 0, none⟩) n n, .slice (some b) n hcap] w fun e w' => e = .returned (.bool true) ∧ ∃ c', Hid (O2At w0 p q bp gp d n la B (some a) (some b) lcap hcap dm dm c' w') ∧ (w'.cell? (a.add id) = some (.int .i64 (B id)) ∧ w'.cell? (b.add id) = some (.int .i64 (B (id + 1) - 1))) := by
  refine (upto_ok h.o.ar h.o.sq h.iv h.dn h.o.hi.toIn).mono ?_
  rintro e w' ⟨rfl, c', t, a', s'⟩
  have h' : O2At w0 p q bp gp d n la B (some a) (some b) lcap hcap dm dm c' w' := ⟨h.o.are t a' s', h.dn.stp t (by decide), h.iv⟩
  exact ⟨rfl, c', Lib.hid h', h'.cells hid⟩
theorem O2At.publish_c (h : O2At w0 p q bp gp d n la B (some a) (some b) lcap hcap dm dm c w) {id : Nat} (hid : id < n) :
    Calls Tryd.prog 26 #[.pointer (some ⟨p, 0, none⟩), .int .i64 (B id), .int .i64 (B (id + 1) - 1)] w fun e w' => e = .returned .nilIface ∧ ∃ c' la', Hid (O2At w0 p q bp gp d n la' B (some a) (some b) lcap hcap dm (dm.set id true) c' w') ∧ (w'.cell? (a.add id) = some (.int .i64 (B id)) ∧ w'.cell? (b.add id) = some (.int .i64 (B (id + 1) - 1))) := by
  obtain ⟨h0, h1, h2, h3, h4⟩ := or_pub h.iv.bk hid
  refine (mpublish_ok h.o.ar h.o.sq (v := B n - 1) (or_pos h.iv.len) h.iv.v (B id) (B (id + 1) - 1) (or_len h.iv.len) h0 h1 h2 h3 h4).mono ?_
  rintro e w' ⟨rfl, c', t, a', s'⟩
  have h' : O2At w0 p q bp gp d n _ B (some a) (some b) lcap hcap dm (dm.set id true) c' w' := ⟨h.o.are t a' s', h.dn.stp t (by decide), h.iv.publish hid⟩
  exact ⟨rfl, c', _, Lib.hid h', h'.cells hid⟩
theorem O2At.mark (h : O2At w0 p q bp gp d n la B loo hio lcap hcap dm (dm.set id true) c w) : O2At w0 p q bp gp d n la B loo hio lcap hcap (dm.set id true) (dm.set id true) c (w.setCell ⟨d, id, none⟩ (.bool true)) := by
  have t := (Stp.refl (· = 11) c w).setCell (p := ⟨d, id, none⟩) (.bool true) h.dn.1
  refine ⟨⟨h.o.st.trans (t.up (by decide)), h.o.ar.stp t (by decide), h.o.sq.stp t (by decide) (by decide) (by decide), h.o.lo.stp t (by decide), h.o.hi.stp t (by decide)⟩, ?_, h.iv⟩
  rw [List.map_set]
  exact h.dn.set id (.bool true)
theorem O2At.dcell (h : O2At w0 p q bp gp d n la B loo hio lcap hcap dm di c w) (hl : dm.length = n) {id : Nat} (hid : id < n) : w.cell? ⟨d, id, none⟩ = some (.bool (dm.getD id false)) ∧ w.frozen? ⟨d, id, none⟩ = false ∧ d < w.heap.size := by
  refine ⟨?_, h.dn.free id, h.dn.lt⟩
  rw [h.dn.cell id]
  simp [List.getD, hl, hid]
end

def O1Rel (w0 : World) (p q bp gp : Nat) (sizes : List Int) (v8 v9 i : Value) (wr : World) : Prop :=
  ∃ (c : Nat → Nat) (j : Nat) (loo hio : Option Addr) (lcap hcap : Nat), v8 = .slice loo j lcap ∧ v9 = .slice hio j hcap ∧ i = .int .i64 j ∧ Hid (j ≤ sizes.length) ∧ Hid (OAt w0 p q bp gp (laO (Bof sizes j - 1)) (Bof sizes) j loo hio lcap hcap c wr)

def O2Rel (w0 : World) (p q bp gp d n : Nat) (sizes : List Int) (a b : Addr) (lcap hcap m : Nat) (i : Value) (wr : World) : Prop :=
  ∃ (c : Nat → Nat) (j : Nat) (la : List Int) (dm : List Bool), i = .int .i64 j ∧ Hid (j ≤ m) ∧ Hid (dm.length = n) ∧ O2At w0 p q bp gp d n la (Bof sizes) (some a) (some b) lcap hcap dm dm c wr

set_option maxRecDepth 100000 in
set_option maxHeartbeats 4000000 in
theorem orders_walk (so : Option Addr) (scap : Nat) (sizes : List Int) (oo : Option Addr) (m ocap : Nat) (order : List Int) (w : World)
    (hs : In (fun _ => 0) 0 w 1 so sizes.length scap (sizes.map (Value.int .u8))) (hso : ∀ t ∈ sizes, 0 ≤ t ∧ t ≤ 255) (ho : In (fun _ => 0) 0 w 1 oo m ocap (order.map (Value.int .u8))) (hoo : ∀ t ∈ order, 0 ≤ t ∧ t ≤ 255) (ht : Tab w) :
    Calls Tryd.prog 4 #[.slice so sizes.length scap, .slice oo m ocap] w fun e w' => e = .returned (.bool true) ∧ Below w.heap.size w w' := by
  have Hs := Lib.hid hs
  have Hso := Lib.hid hso
  have Ho := Lib.hid ho
  have Hoo := Lib.hid hoo
  have Ht := Lib.hid ht
  have Hom := Lib.hid (show order.length = m by simpa using ho.1)
  clear hs hso ho hoo ht
  obtain ⟨n, hn⟩ : ∃ n, sizes.length = n := ⟨_, rfl⟩
  have HN := Lib.hid hn
  rw [hn]
  by_cases hp : 0 < n ∧ n ≤ 12 ∧ m ≤ 40
  · obtain ⟨h1, h2, h3⟩ := hp
    have t1 : ((n : Int) == 0) = false := by simp; omega
    have t2 : decide ((12 : Int) < (n : Int)) = false := by simp; omega
    have t3 : decide ((40 : Int) < (m : Int)) = false := by simp; omega
    have H1 := Lib.hid h1
    have H2 := Lib.hid h2
    have H3 := Lib.hid h3
    have BK := Lib.hid (show BOK (Bof sizes) n by rw [← hn]; exact bof_ok Hso.out (by rw [hn]; exact h2))
    obtain ⟨i0, hi, hz0, hz1, hz2⟩ := info_parts Tryd.infoBoolO
    have hmk : ∀ wx : World, (Instr.makeSlice 51 (.int .i64 (n : Int)) (.int .i64 (n : Int))).run Tryd.prog wx = .ok (.slice (some ⟨wx.heap.size, 0, none⟩) n n) (wx.alloc (.cells ((List.replicate n false).map Value.bool).toArray 4)) := fun wx => by
      have := run_make (P := Tryd.prog) wx 51 4 i0 (.bool false) Tryd.underlying51 hi hz0 .i64 .i64 n n (by omega) (Int.le_refl _) (by rw [hz2]; omega) (by omega)
      rw [hz1, show (Value.bool false).cells = #[.bool false] from rfl, Int.toNat_natCast, Nat.mul_one, made_bools] at this
      exact this
    clear h1 h2 h3 hn hi hz0 hz1 hz2
    obtain ⟨q, hq⟩ : ∃ q, q = w.heap.size := ⟨_, rfl⟩
    go_enter Tryd.func4, Tryd.ntmps4
    go_wp2_with fail
    refine (new_any (fun _ => 0) 2 _).mono ?_
    rintro e w1 ⟨rfl, c1, s1, h1⟩
    have S1 := Lib.hid (s1.up (by decide))
    have A1 := Lib.hid (show ArenaAt c1 2 w1 q [] 0 by rw [hq]; exact h1)
    have T1 := Lib.hid (Ht.out.stp s1 (by decide))
    rw [← hq]
    clear hq s1 h1
    go_wp2_with fail
    refine (mnew_ok A1.out 8 (by decide) (by decide) T1.out (m := 256) (by decide)).mono ?_
    rintro e w2 ⟨p, bp, gp, rfl, c2, s2, h2, q2⟩
    have R2 := Lib.hid (show OAt w p q bp gp (laO (Bof sizes 0 - 1)) (Bof sizes) 0 none none 0 0 c2 w2 from ⟨S1.out.trans (s2.up (by decide)), ⟨_, h2⟩, q2, Row.nil _ _ _ _ _, Row.nil _ _ _ _ _⟩)
    clear s2 h2 q2 S1 A1 T1
    go_wp2_with fail
    go_loopw [8, 9, 47] (fun v8 v9 i wr => O1Rel w p q bp gp sizes v8 v9 i wr) (fun _ _ i _ => n - (intOf i).toNat)
    case atStart => exact ⟨c2, 0, none, none, 0, 0, rfl, rfl, rfl, Lib.hid (Nat.zero_le _), R2.out⟩
    case round =>
      obtain ⟨c3, j, loo, hio, lcap, hcap, rfl, rfl, rfl, Hj, R⟩ := hrel
      clear R2
      by_cases hlt : j < n
      · have hls : j < sizes.length := by rw [HN.out]; exact hlt
        obtain ⟨a, ha, hc⟩ := (Hs.out.stp R.out.st (by decide)).ints (show j < sizes.length from hls)
        subst ha
        obtain ⟨kk, hkk, E, hB⟩ := or_mod Hso.out hls
        have HB := Lib.hid hB
        have Hkk := Lib.hid hkk
        have Hlt := Lib.hid hlt
        generalize sizes.getD j 0 = v at *
        have HT := Lib.hid (BK.out.top (Nat.le_of_lt hlt))
        obtain ⟨X, hX⟩ : ∃ X, X = Bof sizes j - 1 + ((kk : Int) + 1) := ⟨_, rfl⟩
        have HX := Lib.hid (show X = Bof sizes (j + 1) - 1 by rw [hX, HB.out]; omega)
        have HX2 := Lib.hid hX
        have HJ := Lib.hid (show j ≤ 12 from Nat.le_trans (Nat.le_of_lt hlt) H2.out)
        clear hkk hB hls hlt
        have W1 := or_w1 Hkk.out
        have W2 := or_w2 Hkk.out
        have W3 := or_w3 HT.out HX2.out
        have W8 := or_w (j := j) (Nat.le_trans HJ.out (by decide))
        clear hX
        go_wp2_with fail
        refine (mclaim_quick R.out.ar R.out.sq ((kk : Int) + 1) (or_k1 Hkk.out).1 (or_k1 Hkk.out).2 (v := Bof sizes j - 1) (u := -1) (by simp [laO]) (by simp [laO]) rfl rfl (or_next HT.out Hkk.out) (or_k2 HT.out Hkk.out).1 (or_k2 HT.out Hkk.out).2 (or_k3 HT.out Hkk.out)).mono ?_
        rintro e w4 ⟨rfl, c4, t4, a4, s4⟩
        rw [← HX2.out] at a4 ⊢
        have R4 := Lib.hid (R.out.are (la' := laO X) t4 a4 s4)
        clear t4 a4 s4 R hc
        have d1 := Lib.hid (or_max HJ.out).1
        have d2 := Lib.hid (or_max HJ.out).2
        go_wp2_with (at_builtin; refine wpList_append_row _ rfl (.tmp 62) (.tmp 68) 22 rfl _ 9 2 (.int .i64 0) 1 8 Tryd.underlying22 Tryd.info2 rfl loo j lcap ((loL (Bof sizes) j).map (Value.int .i64)) rfl (R4.out.lo.alloc _ 9) _ 1 [.int .i64 (Bof sizes j)] rfl (Src.one _ _ _) (by simp [Value.oneCell']) d1.out d2.out ?_)
        intro lo5 lcap5 w5 hr5 st5 ot5
        have t5 := ((Stp.refl (· = 9) c4 w4).alloc (.cells #[.int .i64 (Bof sizes j)] 2) 9).trans st5
        obtain ⟨c5, hc5, T5⟩ := t5.name
        have L5 := Lib.hid (show Row c5 9 w5 2 1 lo5 (j + 1) lcap5 ((loL (Bof sizes) (j + 1)).map (Value.int .i64)) by rw [hc5.out, loL_succ, List.map_append]; exact hr5)
        have Q5 := Lib.hid (Stp.mono T5.out (J' := (2 ≤ ·)) (fun k h => by omega))
        have A5 := Lib.hid (R4.out.ar.stp T5.out (by decide))
        have G5 := Lib.hid (R4.out.sq.stp T5.out (by decide) (by decide) (by decide))
        have I5 := Lib.hid (R4.out.hi.stp T5.out (by decide))
        have S5 := Lib.hid (R4.out.st.trans Q5.out)
        clear hr5 st5 ot5 t5 hc5 T5 Q5 R4
        go_wp2_with (at_builtin; refine wpList_append_row _ rfl (.tmp 70) (.tmp 72) 22 rfl _ 10 2 (.int .i64 0) 1 8 Tryd.underlying22 Tryd.info2 rfl hio j hcap ((hiL (Bof sizes) j).map (Value.int .i64)) rfl (I5.out.alloc _ 10) _ 1 [.int .i64 X] rfl (Src.one _ _ _) (by simp [Value.oneCell']) d1.out d2.out ?_)
        intro hi6 hcap6 w6 hr6 st6 ot6
        have t6 := ((Stp.refl (· = 10) c5 w5).alloc (.cells #[.int .i64 X] 2) 10).trans st6
        obtain ⟨c6, hc6, T6⟩ := t6.name
        have I6 := Lib.hid (show Row c6 10 w6 2 1 hi6 (j + 1) hcap6 ((hiL (Bof sizes) (j + 1)).map (Value.int .i64)) by rw [hc6.out, hiL_succ, List.map_append, ← HX.out]; exact hr6)
        have R6 := Lib.hid (show OAt w p q bp gp (laO (Bof sizes (j + 1) - 1)) (Bof sizes) (j + 1) lo5 hi6 lcap5 hcap6 c6 w6 from
          ⟨S5.out.trans (Stp.mono T6.out (fun k h => by omega)), by rw [← HX.out]; exact A5.out.stp T6.out (by decide), G5.out.stp T6.out (by decide) (by decide) (by decide), L5.out.stp T6.out (by decide), I6.out⟩)
        clear hr6 st6 ot6 t6 hc6 T6 L5 A5 G5 I5 S5 I6
        go_wp2
        go_roundw
        case rel => exact ⟨c6, j + 1, lo5, hi6, lcap5, hcap6, rfl, rfl, by go_num, Lib.hid (by rw [HN.out]; exact Hlt.out), R6.out⟩
        case measure => exact or_meas n j Hlt.out (Nat.le_trans HJ.out (by decide))
      · have hjn : j = n := by have := Hj.out; have := HN.out; omega
        subst hjn
        have H1n := H1.out
        obtain ⟨a, ha, -⟩ := R.out.lo.toIn.ints H1.out
        obtain ⟨b, hb, -⟩ := R.out.hi.toIn.ints H1.out
        subst ha hb
        obtain ⟨d, hd⟩ : ∃ d, d = wr.heap.size := ⟨_, rfl⟩
        obtain ⟨c7, hc7, T7⟩ := ((Stp.refl (fun _ => False) c3 wr).alloc (.cells ((List.replicate j false).map Value.bool).toArray 4) 11).name
        have R7 := Lib.hid (show O2At w p q bp gp d j (laO (Bof sizes j - 1)) (Bof sizes) (some a) (some b) lcap hcap (List.replicate j false) (List.replicate j false) c7 (wr.alloc (.cells (Array.replicate j (Value.bool false)) 4)) from by
          rw [arr_bools]
          exact ⟨R.out.stpF T7.out, by rw [hc7.out, hd]; exact Blk.new c3 11 wr _ _, OInv.start BK.out (by simp [laO]) rfl (fun i hi => laO_get _ hi)⟩)
        have Hd7 := Lib.hid (show (List.replicate j false).length = j by simp)
        clear hc7 T7 R
        go_wp2_with fail
        rw [← hd]
        clear hd
        go_loopw [80] (fun i wr => O2Rel w p q bp gp d j sizes a b lcap hcap m i wr) (fun i _ => m - (intOf i).toNat)
        case atStart => exact ⟨c7, 0, _, _, rfl, Lib.hid (Nat.zero_le _), Hd7, R7.out⟩
        case round =>
          obtain ⟨c8, k, la, dm, rfl, Hk, Hdl, r⟩ := hrel
          have R := Lib.hid r
          clear r R7
          by_cases hlt : k < m
          · obtain ⟨oa, hoa, hc⟩ := (Ho.out.stp R.out.o.st (by decide)).ints hlt
            subst hoa
            have hv := Hoo.out (order.getD k 0) (by simp [List.getD, Hom.out, hlt])
            generalize order.getD k 0 = v at *
            obtain ⟨id, hid, E⟩ := or_pick hv H1.out
            have Hidn := Lib.hid hid
            have Hlt := Lib.hid hlt
            have HJ := Lib.hid (show k ≤ 100 from Nat.le_trans (Nat.le_of_lt hlt) (Nat.le_trans H3.out (by decide)))
            obtain ⟨cl, ch⟩ := R.out.cells Hidn.out
            have W1 := or_u8 hv
            have W8 := or_w HJ.out
            have hidI : (id : Int) < (j : Int) := by exact_mod_cast hid
            clear hv
            go_upto_region 21 with fail
            go_region_held3 (fun w' => w'.cell? (a.add id) = some (.int .i64 (Bof sizes id)) ∧ w'.cell? (b.add id) = some (.int .i64 (Bof sizes (id + 1) - 1)))
              (first | exact ⟨by assumption, by assumption⟩ | go_keep)
              (first
                | (go_at_call 25; refine (O2At.upto_c (by first | exact R.out | exact R.out.stpF (Stp.refl (fun _ => False) _ _).drew | exact R.out.stpF ((Stp.refl (fun _ => False) _ _).drewN _)) (id := id) (by exact Hidn.out)).mono ?_; rintro e w4 ⟨rfl, c4, R4, cl, ch⟩)
                | (go_at_call 26; refine (O2At.publish_c (by first | exact R4.out | exact R4.out.stpF (Stp.refl (fun _ => False) _ _).drew | exact R4.out.stpF ((Stp.refl (fun _ => False) _ _).drewN _)) (id := id) (by exact Hidn.out)).mono ?_; rintro e w5 ⟨rfl, c5, la5, R5, cl, ch⟩))
            obtain ⟨dc, df, dl⟩ := R5.out.dcell (by rw [Hdl.out]) Hidn.out
            have R6 := Lib.hid R5.out.mark
            have Hdl6 := Lib.hid (show (dm.set id true).length = j by rw [List.length_set]; exact Hdl.out)
            clear R5 R4 R cl ch
            go_wp2
            go_roundw
            case rel => exact ⟨c5, k + 1, la5, dm.set id true, by go_num, Lib.hid Hlt.out, Hdl6, R6.out⟩
            case measure => exact or_meas _ k Hlt.out HJ.out
          · have hkm : k = m := by have := Hk.out; omega
            subst hkm
            go_wp2_with fail
            go_loopw [113] (fun i wr => O2Rel w p q bp gp d j sizes a b lcap hcap j i wr) (fun i _ => j - (intOf i).toNat)
            case atStart => exact ⟨c8, 0, la, dm, rfl, Lib.hid (Nat.zero_le _), Hdl, R.out⟩
            case round =>
              obtain ⟨c9, k2, la2, dm2, rfl, Hk2, Hdl2, r2⟩ := hrel
              clear R Hdl
              have R := Lib.hid r2
              have Hdl := Hdl2
              clear r2 Hdl2
              by_cases hlt : k2 < j
              · have Hidn := Lib.hid hlt
                have Hlt := Lib.hid hlt
                have HJ := Lib.hid (show k2 ≤ 100 from Nat.le_trans (Nat.le_of_lt hlt) (Nat.le_trans H2.out (by decide)))
                obtain ⟨cl, ch⟩ := R.out.cells Hidn.out
                have W8 := or_w HJ.out
                go_upto_region 28 with fail
                go_region_held3 (fun w' => w'.cell? (a.add k2) = some (.int .i64 (Bof sizes k2)) ∧ w'.cell? (b.add k2) = some (.int .i64 (Bof sizes (k2 + 1) - 1)))
                  (first | exact ⟨by assumption, by assumption⟩ | go_keep)
                  (first
                    | (go_at_call 25; refine (O2At.upto_c (by first | exact R.out | exact R.out.stpF (Stp.refl (fun _ => False) _ _).drew | exact R.out.stpF ((Stp.refl (fun _ => False) _ _).drewN _)) (id := k2) (by exact Hidn.out)).mono ?_; rintro e w4 ⟨rfl, c4, R4, cl, ch⟩)
                    | (go_at_call 26; refine (O2At.publish_c (by first | exact R4.out | exact R4.out.stpF (Stp.refl (fun _ => False) _ _).drew | exact R4.out.stpF ((Stp.refl (fun _ => False) _ _).drewN _)) (id := k2) (by exact Hidn.out)).mono ?_; rintro e w5 ⟨rfl, c5, la5, R5, cl, ch⟩))
                obtain ⟨dc, df, dl⟩ := R5.out.dcell (by rw [Hdl.out]) Hidn.out
                have R6 := Lib.hid R5.out.mark
                have Hdl6 := Lib.hid (show (dm2.set k2 true).length = j by rw [List.length_set]; exact Hdl.out)
                clear R5 R4 R cl ch
                go_wp2
                go_roundw
                case rel => exact ⟨c5, k2 + 1, la5, dm2.set k2 true, by go_num, Lib.hid Hlt.out, Hdl6, R6.out⟩
                case measure => exact or_meas _ k2 Hlt.out HJ.out
              · obtain ⟨tb, gc⟩ := R.out.o.tab Ht.out
                have TB := Lib.hid tb
                have GC := Lib.hid gc
                clear tb gc
                go_wp2_with fail
                refine (awake10k 12 (by decide) c9 _ TB.out GC.out).mono ?_
                rintro e w10 ⟨rfl, c10, s10⟩
                have R10 := Lib.hid (R.out.stp12 s10)
                clear s10
                go_wp2_with fail
                refine (O2At.upto_c R10.out (id := 0) H1.out).mono ?_
                rintro e w11 ⟨rfl, c11, R11, -, -⟩
                go_wp2
                go_ret
                exact ⟨by first | rfl | simp, R11.out.o.st.fin⟩
  · rcases (show ((n : Int) == 0) = true ∨ (((n : Int) == 0) = false ∧ decide ((12 : Int) < (n : Int)) = true) ∨ (((n : Int) == 0) = false ∧ decide ((12 : Int) < (n : Int)) = false ∧ decide ((40 : Int) < (m : Int)) = true) by simp only [beq_iff_eq, beq_eq_false_iff_ne, decide_eq_true_eq, decide_eq_false_iff_not]; omega) with u1 | ⟨u1, u2⟩ | ⟨u1, u2, u3⟩
    all_goals
      clear hp hn
      go_enter Tryd.func4, Tryd.ntmps4
      go_wp2_with fail
      refine (awake10k 12 (by decide) (fun _ => 0) _ Ht.out rfl).mono ?_
      rintro e w2 ⟨rfl, c2, s2⟩
      have S2 := Lib.hid (s2.mono (J' := (2 ≤ ·)) (fun _ h => by omega))
      clear s2
      go_wp2
      go_ret
      exact ⟨by first | rfl | simp, S2.out.fin⟩
end Go.Proofs.YtoifknfmamcimaaDoor
