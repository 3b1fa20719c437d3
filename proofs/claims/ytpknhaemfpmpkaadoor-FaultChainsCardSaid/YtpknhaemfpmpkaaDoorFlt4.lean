/- Wrap, Code, At, Deep, by their contracts, of a chain of faults around a number. No condition beyond each lemma's own, and that errors.errorType holds what the program lays there. -/
import Derived.Test.YtpknhaemfpmpkaaDoorFlt3
import Derived.Test.YtpknhaemfpmpkaaDoorMem4
import Derived.OwnWalk
namespace Go.Proofs.YtpknhaemfpmpkaaDoor
open Go.RowKit Go.Extern.Stop Go.Stop Go.Extern

theorem cell_set {w : World} {b i : Nat} {v u : Value} {t : TypeId} {cs : List Value} (h : w.heap[b]? = some (.cells cs.toArray t (0, 0))) (hi : cs[i]? = some v) : (w.setCell ⟨b, i, none⟩ u).cell? ⟨b, i, none⟩ = some u := by
  have hl : i < cs.length := (List.getElem?_eq_some_iff.1 hi).1
  simp only [World.cell?, heap_setCell_same u h]
  simp [hl]

/-- Wrap of an error. -/
theorem wrap_c (o : ByteArray) (s : Int) (t : TypeId) (u : Value) (w : World) :
    Calls Tryd.prog 9 #[.string o, .int .i64 s, .iface t u] w fun e w' => e = .returned (.iface 29 (.pointer (some ⟨w.heap.size, 0, none⟩))) ∧ w' = w.alloc (.cells #[.string o, .int .i64 s, .iface t u] 33) := by
  go_enter Tryd.func9, Tryd.ntmps9
  go_wp2
  go_ret
  exact ⟨rfl, rfl⟩

theorem Ch.wrap {w : World} {L : List (ByteArray × Int)} {n : Int} {v : Value} (h : Ch w L n v) (o : ByteArray) (s : Int) : Ch (w.alloc (.cells #[.string o, .int .i64 s, v] 33)) ((o, s) :: L) n (.iface 29 (.pointer (some ⟨w.heap.size, 0, none⟩))) :=
  ⟨w.heap.size, v, rfl, heap_alloc_new w _, h.old ((Old.refl w).alloc _)⟩

/-- Code. -/
theorem code_c (L : List (ByteArray × Int)) (n : Int) (v : Value) (w : World) (hc : Ch w L n v) (hg : ET w) :
    Calls Tryd.prog 13 #[v] w fun e w' => e = .returned (.int .i64 n) ∧ Old w w' := by
  have Hc := Lib.hid hc
  have Hg := Lib.hid hg
  obtain ⟨ut, uv, e⟩ := hc.iface
  subst e
  clear hc hg
  go_enter Tryd.func13, Tryd.ntmps13
  go_wp2_with fail
  refine (as_num L n (.iface ut uv) ⟨w.heap.size, 0, none⟩ (.int .i64 0) _ (Hc.out.old ((Old.refl w).alloc _)) (Hg.out.alloc _) (by simp) (by simp)).mono ?_
  rintro e w2 ⟨rfl, W, hW, rfl⟩
  have HW := Lib.hid (((Old.refl w).alloc (.cells #[.int .i64 0] 37)).trans hW)
  have hcell : (W.setCell ⟨w.heap.size, 0, none⟩ (.int .i64 n)).cell? ⟨w.heap.size, 0, none⟩ = some (.int .i64 n) :=
    cell_set (v := .int .i64 0) (cs := [.int .i64 0]) (hW.blk (heap_alloc_new w _)) rfl
  clear hW
  go_wp2
  go_ret
  exact ⟨rfl, HW.out.set (Nat.le_refl _) _⟩

/-- What At tells of a chain. -/
def atV (L : List (ByteArray × Int)) : ByteArray × Int × Bool := L.foldl (fun _ x => (x.1, x.2, true)) (⟨#[]⟩, 0, false)
theorem atV_last (L : List (ByteArray × Int)) (x : ByteArray × Int) : atV (L ++ [x]) = (x.1, x.2, true) := by simp [atV]

theorem at_c (L : List (ByteArray × Int)) (n : Int) (v : Value) (w : World) (hc : Ch w L n v) (hg : ET w) :
    Calls Tryd.prog 11 #[v] w fun e w' => e = .returned (.tuple #[.string (atV L).1, .int .i64 (atV L).2.1, .bool (atV L).2.2]) ∧ Old w w' := by
  have Hc := Lib.hid hc
  have Hg := Lib.hid hg
  clear hc hg
  go_enter Tryd.func11, Tryd.ntmps11
  go_wp2
  go_loopg [0, 5, 6, 7] L.length (fun gh v op sq ok wr => ∃ L1 L' o s k, op = .string o ∧ sq = .int .i64 s ∧ ok = .bool k ∧ Hid (atV L1 = (o, s, k)) ∧ Hid (L = L1 ++ L') ∧ Hid (L'.length = gh) ∧ Hid (Ch wr L' n v) ∧ Hid (Old w wr))
  case atStart => exact ⟨[], L, _, _, _, rfl, rfl, rfl, Lib.hid rfl, Lib.hid rfl, Lib.hid rfl, Hc, Lib.hid (Old.refl _)⟩
  case round =>
    obtain ⟨L1, L', o, s, k, rfl, rfl, rfl, Ha, HL, Hl, Hch, Ho⟩ := hrel
    match L', HL, Hl, Hch with
    | [], HL, Hl, Hch =>
      have hv : _ = Value.iface 37 (.int .i64 n) := Hch.out
      subst hv
      go_wp2_with fail
      refine (as_no n ⟨wr.heap.size, 0, none⟩ _ ((Hg.out.old Ho.out).alloc _)).mono ?_
      rintro e w2 ⟨rfl, ho2⟩
      have Ho2 := Lib.hid ho2
      clear ho2
      go_wp2
      go_ret3
      have hL : L = L1 := by simpa using HL.out
      rw [hL, Ha.out]
      exact ⟨rfl, (Ho.out.alloc _).trans Ho2.out⟩
    | x :: L2, HL, Hl, Hch =>
      obtain ⟨p, u, e, hp, hu⟩ := Hch.out
      subst e
      obtain ⟨ut, uv, e⟩ := hu.iface
      subst e
      have Hu := Lib.hid hu
      have Hp := Lib.hid hp
      clear hu hp
      go_wp2_with fail
      refine (as_fault ⟨p, 0, none⟩ ⟨wr.heap.size, 0, none⟩ (.pointer none) _ ((Hg.out.old Ho.out).alloc _) (by simp) (by simp)).mono ?_
      rintro e w2 ⟨rfl, W, hW, rfl⟩
      have HW := Lib.hid (((Old.refl wr).alloc (.cells #[.pointer none] 29)).trans hW)
      have hcell : (W.setCell ⟨wr.heap.size, 0, none⟩ (.pointer (some ⟨p, 0, none⟩))).cell? ⟨wr.heap.size, 0, none⟩ = some (.pointer (some ⟨p, 0, none⟩)) :=
        cell_set (v := .pointer none) (cs := [.pointer none]) (hW.blk (heap_alloc_new wr _)) rfl
      have HS := Lib.hid (HW.out.set (p := ⟨wr.heap.size, 0, none⟩) (Nat.le_refl _) (.pointer (some ⟨p, 0, none⟩)))
      have hb2 := HS.out.blk Hp.out
      have c0 : (W.setCell ⟨wr.heap.size, 0, none⟩ (.pointer (some ⟨p, 0, none⟩))).cell? ⟨p, 0, none⟩ = some (.string x.1) := by simp only [World.cell?, hb2]; rfl
      have c1 : (W.setCell ⟨wr.heap.size, 0, none⟩ (.pointer (some ⟨p, 0, none⟩))).cell? ⟨p, 1, none⟩ = some (.int .i64 x.2) := by simp only [World.cell?, hb2]; rfl
      have c2 : (W.setCell ⟨wr.heap.size, 0, none⟩ (.pointer (some ⟨p, 0, none⟩))).cell? ⟨p, 2, none⟩ = some (.iface ut uv) := by simp only [World.cell?, hb2]; rfl
      clear hW hb2
      go_wp2
      go_region
      go_wp2
      go_roundg (gk - 1)
      case rel => exact ⟨L1 ++ [x], L2, _, _, _, rfl, rfl, rfl, Lib.hid (atV_last L1 x), Lib.hid (by rw [HL.out]; simp), Lib.hid (by have := Hl.out; simp at this; omega), Lib.hid (Hu.out.old HS.out.drew), Lib.hid (Ho.out.trans HS.out.drew)⟩
      case measure => have := Hl.out; simp at this; omega

theorem deep_c (L : List (ByteArray × Int)) (n : Int) (v : Value) (w : World) (hc : Ch w L n v) (hg : ET w) (hlen : L.length < 1000) :
    Calls Tryd.prog 14 #[v] w fun e w' => e = .returned (.int .i64 (L.length : Int)) ∧ Old w w' := by
  have Hc := Lib.hid hc
  have Hg := Lib.hid hg
  have Hlen := Lib.hid hlen
  clear hc hg hlen
  go_enter Tryd.func14, Tryd.ntmps14
  go_wp2
  go_loopg [0, 3] L.length (fun gh v d wr => ∃ (L1 : Nat) (L' : List (ByteArray × Int)), d = .int .i64 (L1 : Int) ∧ L1 < 1000 ∧ Hid (L.length = L1 + L'.length) ∧ Hid (L'.length = gh) ∧ Hid (Ch wr L' n v) ∧ Hid (Old w wr))
  case atStart => exact ⟨0, L, rfl, by decide, Lib.hid (by simp), Lib.hid rfl, Hc, Lib.hid (Old.refl _)⟩
  case round =>
    obtain ⟨L1, L', rfl, h1, HL, Hl, Hch, Ho⟩ := hrel
    match L', HL, Hl, Hch with
    | [], HL, Hl, Hch =>
      have hv : _ = Value.iface 37 (.int .i64 n) := Hch.out
      subst hv
      go_wp2_with fail
      refine (as_no n ⟨wr.heap.size, 0, none⟩ _ ((Hg.out.old Ho.out).alloc _)).mono ?_
      rintro e w2 ⟨rfl, ho2⟩
      have Ho2 := Lib.hid ho2
      clear ho2
      go_wp2
      go_ret
      have hL : L.length = L1 := by simpa using HL.out
      rw [hL]
      exact ⟨rfl, (Ho.out.alloc _).trans Ho2.out⟩
    | x :: L2, HL, Hl, Hch =>
      obtain ⟨p, u, e, hp, hu⟩ := Hch.out
      subst e
      obtain ⟨ut, uv, e⟩ := hu.iface
      subst e
      have Hu := Lib.hid hu
      have Hp := Lib.hid hp
      clear hu hp
      go_wp2_with fail
      refine (as_fault ⟨p, 0, none⟩ ⟨wr.heap.size, 0, none⟩ (.pointer none) _ ((Hg.out.old Ho.out).alloc _) (by simp) (by simp)).mono ?_
      rintro e w2 ⟨rfl, W, hW, rfl⟩
      have HW := Lib.hid (((Old.refl wr).alloc (.cells #[.pointer none] 29)).trans hW)
      have hcell : (W.setCell ⟨wr.heap.size, 0, none⟩ (.pointer (some ⟨p, 0, none⟩))).cell? ⟨wr.heap.size, 0, none⟩ = some (.pointer (some ⟨p, 0, none⟩)) :=
        cell_set (v := .pointer none) (cs := [.pointer none]) (hW.blk (heap_alloc_new wr _)) rfl
      have HS := Lib.hid (HW.out.set (p := ⟨wr.heap.size, 0, none⟩) (Nat.le_refl _) (.pointer (some ⟨p, 0, none⟩)))
      have hb2 := HS.out.blk Hp.out
      have c2 : (W.setCell ⟨wr.heap.size, 0, none⟩ (.pointer (some ⟨p, 0, none⟩))).cell? ⟨p, 2, none⟩ = some (.iface ut uv) := by simp only [World.cell?, hb2]; rfl
      clear hW hb2
      have hwr : wrap64 ((L1 : Int) + 1) = ((L1 + 1 : Nat) : Int) := by rw [IntWalk.wrap64_in _ ⟨by omega, by omega⟩]; omega
      go_wp2
      go_region
      go_wp2
      go_roundg (gk - 1)
      case rel => exact ⟨L1 + 1, L2, by simp, by have := Hlen.out; have := HL.out; simp at this; omega, Lib.hid (by have := HL.out; simp at this; omega), Lib.hid (by have := Hl.out; simp at this; omega), Lib.hid (Hu.out.old HS.out.drew), Lib.hid (Ho.out.trans HS.out.drew)⟩
      case measure => have := Hl.out; simp at this; omega
end Go.Proofs.YtpknhaemfpmpkaaDoor
