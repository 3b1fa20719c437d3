/- The document's text of a chain; whether an error is a number, by the law's own helper. No condition beyond each lemma's own. -/
import Derived.Test.YtpknhaemfpmpkaaDoorFltE
namespace Go.Proofs.YtpknhaemfpmpkaaDoor
open Go.RowKit Go.Extern.Stop Go.Stop Go.Extern Go.Deep Go.Great

def preT (L : List (ByteArray × Int)) : ByteArray := L.foldl (fun s x => s ++ x.1 ++ ⟨#[32]⟩ ++ itoaB x.2 ++ ⟨#[58, 32]⟩) ⟨#[]⟩
theorem pre_txt (o : ByteArray) : ∀ (L : List (ByteArray × Int)) (s : ByteArray), L.foldl (fun s x => s ++ x.1 ++ ⟨#[32]⟩ ++ itoaB x.2 ++ ⟨#[58, 32]⟩) s ++ o = s ++ txt o L
  | [], s => rfl
  | x :: L, s => by
    rw [List.foldl_cons, pre_txt o L]
    simp only [txt, ByteArray.append_assoc]
theorem preT_txt (o : ByteArray) (L : List (ByteArray × Int)) : preT L ++ o = txt o L := by
  unfold preT
  rw [pre_txt]
  apply ByteArray.ext
  simp
theorem preT_snoc (L : List (ByteArray × Int)) (x : ByteArray × Int) : preT (L ++ [x]) = preT L ++ x.1 ++ ⟨#[32]⟩ ++ itoaB x.2 ++ ⟨#[58, 32]⟩ := by simp [preT]
theorem preT_size (L : List (ByteArray × Int)) (h : okL L) : (preT L).size ≤ 9 + 123 * L.length := by
  have h1 := txt_size (o := ⟨#[]⟩) (by decide) h
  rw [← preT_txt] at h1
  simp only [ByteArray.size_append] at h1
  omega

set_option maxRecDepth 100000 in
set_option maxHeartbeats 4000000 in
theorem text_c {w : World} {ao : Option Addr} {n cap : Nat} {l : List (ByteArray × Int)} (h : In (fun _ => 0) 0 w 2 ao n cap (l.flatMap lk)) (hln : l.length = n) (hn : n ≤ 50) (hok : okL l)
    (k : Int) (hk : 0 ≤ k ∧ k < 19) (o : ByteArray) (ho : nameCells[k.toNat]? = some (.string o)) (ho9 : o.size ≤ 9) :
    Calls Tryd.prog 17 #[.slice ao n cap, .int .i64 k] w fun e w' => e = .returned (.string (txt o l)) ∧ Old w w' := by
  have H := Lib.hid h
  have Hn := Lib.hid hln
  have Hok := Lib.hid hok
  have Hn50 := Lib.hid hn
  clear h hln hok
  go_enter Tryd.func17, Tryd.ntmps17
  go_wp2
  go_loopg [5, 6] n (fun gh s i wr => ∃ (j : Nat) (sb : ByteArray), s = .string sb ∧ i = .int .i64 j ∧ j + gh = n ∧ Hid (sb = preT (l.take j)) ∧ Hid (Old w wr))
  case atStart => exact ⟨0, _, rfl, rfl, by omega, Lib.hid rfl, Lib.hid (Old.refl _)⟩
  case round =>
    obtain ⟨j, sb, rfl, rfl, hj, Hs, Ho⟩ := hrel
    by_cases hlt : j < n
    · have hjl : j < l.length := by rw [Hn.out]; exact hlt
      obtain ⟨y, hy⟩ : ∃ y, l[j]? = some y := ⟨_, List.getElem?_eq_getElem hjl⟩
      have hyo := Hok.out y (List.mem_of_getElem? hy)
      obtain ⟨a, ha, y0⟩ := (H.out.old Ho.out).field lk_len hy (f := 0) (v := .string y.1) rfl
      obtain ⟨a1, ha1, y1⟩ := (H.out.old Ho.out).field lk_len hy (f := 1) (v := .int .i64 y.2) rfl
      subst ha
      cases ha1
      have y1' : wr.cell? ⟨(a.add (j * 2)).block, (a.add (j * 2)).off + 1, none⟩ = some (.int .i64 y.2) := by rw [← add_add'] at y1; exact y1
      rw [Nat.add_zero] at y0
      have Hy := Lib.hid (show preT (l.take (j + 1)) = sb ++ y.1 ++ ⟨#[32]⟩ ++ itoaB y.2 ++ ⟨#[58, 32]⟩ by rw [List.take_add_one, hy, Hs.out]; exact preT_snoc _ _)
      have hsz : sb.size ≤ 9 + 123 * 50 := by
        rw [Hs.out]
        refine Nat.le_trans (preT_size _ (fun z hz => Hok.out z (List.mem_of_mem_take hz))) ?_
        have : (l.take j).length ≤ 50 := by rw [List.length_take]; have := Hn50.out; omega
        omega
      have his := itoaB_size hyo.2.1 hyo.2.2
      obtain ⟨op, sq⟩ := y
      simp only at y0 y1' Hy hyo his
      have hop := hyo.1
      have e1 : (⟨#[32]⟩ : ByteArray).size = 1 := rfl
      have e2 : (⟨#[58, 32]⟩ : ByteArray).size = 2 := rfl
      have a1 : ∀ W : World, (Op.stringOp .add sb op).run Tryd.prog W = .ok (.string (sb ++ op)) W := fun W => run_string_add_sum W _ _ (by omega)
      have a2 : ∀ W : World, (Op.stringOp .add (sb ++ op) ⟨#[32]⟩).run Tryd.prog W = .ok (.string (sb ++ op ++ ⟨#[32]⟩)) W := fun W => run_string_add_sum W _ _ (by rw [ByteArray.size_append]; omega)
      have a3 : ∀ W : World, (Op.stringOp .add (sb ++ op ++ ⟨#[32]⟩) (itoaB sq)).run Tryd.prog W = .ok (.string (sb ++ op ++ ⟨#[32]⟩ ++ itoaB sq)) W := fun W => run_string_add_sum W _ _ (by rw [ByteArray.size_append, ByteArray.size_append]; omega)
      have a4 : ∀ W : World, (Op.stringOp .add (sb ++ op ++ ⟨#[32]⟩ ++ itoaB sq) ⟨#[58, 32]⟩).run Tryd.prog W = .ok (.string (sb ++ op ++ ⟨#[32]⟩ ++ itoaB sq ++ ⟨#[58, 32]⟩)) W := fun W => run_string_add_sum W _ _ (by rw [ByteArray.size_append, ByteArray.size_append, ByteArray.size_append]; omega)
      have hd : ∀ W : World, Old wr W → Calls Tryd.prog 27 #[.int .i64 sq] W fun e w' => e = .returned (.string (itoaB sq)) ∧ Hid (Old wr w') ∧ w'.cell? (a.add (j * 2)) = some (.string op) ∧ w'.cell? ⟨(a.add (j * 2)).block, (a.add (j * 2)).off + 1, none⟩ = some (.int .i64 sq) := fun W hW =>
        (digits_c sq hyo.2.1 hyo.2.2 W).mono fun _ w' ⟨he, hq⟩ => ⟨he, Lib.hid (hW.trans hq), (World.cell?_of_block (w := wr) ((hW.trans hq).block _ (cell_block y0))).trans y0, (World.cell?_of_block (w := wr) ((hW.trans hq).block _ (cell_block y1'))).trans y1'⟩
      have Hd := Lib.hid hd
      have i1 : (0 : Int) ≤ (j : Int) := by omega
      have i2 : (j : Int) < (n : Int) := by omega
      have W1 := Lib.hid (show wrap64 ((j : Int) + 1) = ((j + 1 : Nat) : Int) by rw [IntWalk.wrap64_in _ ⟨by omega, by omega⟩]; omega)
      have Hj := Lib.hid hj
      have Hlt := Lib.hid hlt
      clear hd hyo his hop e1 e2 hsz y1 hy hjl hn
      generalize itoaB sq = it at *
      go_wp2
      go_region_held3 (fun w' => w'.cell? (a.add (j * 2)) = some (.string op) ∧ w'.cell? ⟨(a.add (j * 2)).block, (a.add (j * 2)).off + 1, none⟩ = some (.int .i64 sq))
        (first | exact ⟨by assumption, by assumption⟩ | go_keep)
        (first | (go_at_call 27; refine (Hd.out _ (by first | exact (Old.refl _).drew | exact Old.refl _)).mono ?_; rintro e w2 ⟨rfl, O2, y0, y1'⟩))
      go_wp2
      go_roundg (gk - 1)
      case rel => exact ⟨j + 1, _, rfl, by rw [W1.out], by have := Hj.out; have := Hlt.out; omega, Lib.hid Hy.out.symm, Lib.hid (Ho.out.trans O2.out)⟩
      case measure => have := Hj.out; have := Hlt.out; omega
    · obtain rfl : j = n := by omega
      have hs2 := Hs.out
      rw [List.take_of_length_le (by rw [Hn.out]; exact Nat.le_refl _)] at hs2
      have hsz : sb.size ≤ 9 + 123 * 50 := by
        rw [hs2]
        exact Nat.le_trans (preT_size _ Hok.out) (by rw [Hn.out]; have := Hn50.out; omega)
      have a1 : ∀ W : World, (Op.stringOp .add sb o).run Tryd.prog W = .ok (.string (sb ++ o)) W := fun W => run_string_add_sum W _ _ (by omega)
      have HF := Lib.hid (show sb ++ o = txt o l by rw [hs2]; exact preT_txt o l)
      have g3 : ¬ (j : Int) < j := by omega
      clear hs2 hsz hlt hj hn
      go_wp2_with fail
      refine (name_c k hk.1 hk.2 o ho _).mono ?_
      rintro e w2 ⟨rfl, o2⟩
      have O2 := Lib.hid (Ho.out.trans o2)
      clear o2
      go_wp2
      go_ret
      exact ⟨by rw [← HF.out]; rfl, O2.out⟩

theorem lis_c (L : List (ByteArray × Int)) (n m : Int) (v : Value) (w : World) (hc : Ch w L n v) (hm : m ≠ 0) :
    Calls Tryd.prog 15 #[v, .int .i64 m] w fun e w' => e = .returned (.bool (n == m)) ∧ w' = w := by
  have Hc := Lib.hid hc
  obtain ⟨ut, uv, e⟩ := hc.iface
  subst e
  have g : (m == 0) = false := by simpa using hm
  clear hc
  go_enter Tryd.func15, Tryd.ntmps15
  go_wp2_with fail
  refine (is_chain L n m _ w Hc.out).mono ?_
  rintro e w2 ⟨rfl, rfl⟩
  go_wp2
  go_ret
  exact ⟨rfl, rfl⟩

theorem lis_0 (t : TypeId) (u : Value) (w : World) :
    Calls Tryd.prog 15 #[.iface t u, .int .i64 0] w fun e w' => e = .returned (.bool false) ∧ w' = w := by
  go_enter Tryd.func15, Tryd.ntmps15
  go_wp2
  go_ret
  exact ⟨rfl, rfl⟩
end Go.Proofs.YtpknhaemfpmpkaaDoor
