/- The example of the layer: a fault around a number, its text, its number. No condition but that errors.errorType holds what the program lays there. -/
import Derived.Test.YtpknhaemfpmpkaaDoorFltText
import Derived.Deep.QuietTactic
namespace Go.Proofs.YtpknhaemfpmpkaaDoor
open Go.RowKit Go.Extern.Stop Go.Stop Go.Extern

/-- strconv.FormatInt of 3. -/
theorem fmt3 (w : World) : Calls Tryd.prog 25 #[.int .i64 3, .int .i64 10] w fun e w' => e = .returned (.string ⟨#[51]⟩) ∧ w = w' :=
  (fmt_small 3 (by decide) w).mono fun _ _ ⟨h, k⟩ => ⟨h.trans (by rw [show Lib.decDigits 3 = [51] by rw [Lib.decDigits]; rfl]), k.symm⟩

/-- What the number 10 is called. -/
theorem full_text (w : World) : Calls Tryd.prog 26 #[.int .i64 10] w fun e w' => e = .returned (.string ⟨#[102, 117, 108, 108]⟩) ∧ Old w w' :=
  errno_text 10 (by decide) (by decide) _ (by kernel_rfl) w

theorem ferr3 (p : Nat) (w : World) (hb : w.heap[p]? = some (.cells #[.string ⟨#[99, 108, 97, 105, 109]⟩, .int .i64 3, .iface 37 (.int .i64 10)] 33 (0, 0))) (hg : ET w) :
    Calls Tryd.prog 16 #[.pointer (some ⟨p, 0, none⟩)] w fun e w' => e = .returned (.string ⟨#[99, 108, 97, 105, 109, 32, 51, 58, 32, 102, 117, 108, 108]⟩) ∧ Old w w' := by
  have Hb := Lib.hid hb
  have Hg := Lib.hid hg
  have k0 : w.cell? ⟨p, 0, none⟩ = some (.string ⟨#[99, 108, 97, 105, 109]⟩) := by simp only [World.cell?, hb]; rfl
  have k1 : w.cell? ⟨p, 1, none⟩ = some (.int .i64 3) := by simp only [World.cell?, hb]; rfl
  clear hb hg
  go_enter Tryd.func16, Tryd.ntmps16
  go_wp2
  go_quiet ((go_at_call 25; exact (fmt3 _).mono fun _ _ ⟨he, hw⟩ => ⟨he, _, hw.symm⟩))
  clear k0 k1
  have Hn := Lib.hid ((Old.refl w).drewN nq)
  have k2 : (((w.drewN nq).alloc (.cells #[.pointer none] 29)).alloc (.cells #[.int .i64 0] 37)).cell? ⟨p, 2, none⟩ = some (.iface 37 (.int .i64 10)) := by
    have := ((Hn.out.alloc (.cells #[.pointer none] 29)).alloc (.cells #[.int .i64 0] 37)).blk Hb.out
    simp only [World.cell?, this]; rfl
  go_wp2_with fail
  refine (as_no 10 ⟨(w.drewN nq).heap.size, 0, none⟩ _ (((Hg.out.old Hn.out).alloc _).alloc _)).mono ?_
  rintro e w2 ⟨rfl, ho2⟩
  have Ho2 := Lib.hid (((Hn.out.alloc _).alloc _).trans ho2)
  have hcb : w2.heap[w.heap.size + 1]? = some (.cells #[.int .i64 0] 37) := ho2.blk (by have := heap_alloc_new ((w.drewN nq).alloc (.cells #[.pointer none] 29)) (.cells #[.int .i64 0] 37); simpa using this)
  have HE := Lib.hid hcb
  have k3 : w2.cell? ⟨p, 2, none⟩ = some (.iface 37 (.int .i64 10)) := by
    have := Ho2.out.blk Hb.out
    simp only [World.cell?, this]; rfl
  clear ho2 k2 hcb
  go_wp2_with fail
  refine (as_num [] 10 (.iface 37 (.int .i64 10)) ⟨w.heap.size + 1, 0, none⟩ (.int .i64 0) _ rfl (Hg.out.old Ho2.out) (by simp only [World.cell?, HE.out]; rfl) (by simp only [World.frozen?, HE.out]; rfl)).mono ?_
  rintro e w3 ⟨rfl, W, hW, rfl⟩
  have HW := Lib.hid (Ho2.out.trans hW)
  have hcell : (W.setCell ⟨w.heap.size + 1, 0, none⟩ (.int .i64 10)).cell? ⟨w.heap.size + 1, 0, none⟩ = some (.int .i64 10) :=
    cell_set (v := .int .i64 0) (cs := [.int .i64 0]) (hW.blk HE.out) rfl
  clear hW k3
  go_wp2_with fail
  refine (full_text _).mono ?_
  rintro e w4 ⟨rfl, ho4⟩
  have Ho4 := Lib.hid ho4
  clear ho4
  go_wp2
  go_ret
  exact ⟨rfl, (HW.out.set (by simp) _).trans Ho4.out⟩

theorem awake01 (w : World) (hg : ET w) : Calls Tryd.prog 7 #[] w fun e w' => e = .returned (.bool true) ∧ Old w w' := by
  have Hg := Lib.hid hg
  clear hg
  go_enter Tryd.func7, Tryd.ntmps7
  go_wp2_with fail
  refine (wrap_c ⟨#[99, 108, 97, 105, 109]⟩ 3 37 (.int .i64 10) w).mono ?_
  rintro e w1 ⟨rfl, rfl⟩
  go_wp2_with fail
  refine (as_fault ⟨w.heap.size, 0, none⟩ ⟨w.heap.size + 1, 0, none⟩ (.pointer none) _ ((Hg.out.alloc _).alloc _) (by simp) (by simp)).mono ?_
  rintro e w2 ⟨rfl, W, hW, rfl⟩
  have HO := Lib.hid ((((Old.refl w).alloc (.cells #[.string ⟨#[99, 108, 97, 105, 109]⟩, .int .i64 3, .iface 37 (.int .i64 10)] 33)).alloc (.cells #[.pointer none] 29)).trans hW |>.set (p := ⟨w.heap.size + 1, 0, none⟩) (by simp) (.pointer (some ⟨w.heap.size, 0, none⟩)))
  have hb1 : W.heap[w.heap.size]? = some (.cells #[.string ⟨#[99, 108, 97, 105, 109]⟩, .int .i64 3, .iface 37 (.int .i64 10)] 33) := hW.blk (((Old.refl _).alloc _).blk (heap_alloc_new w _))
  have hb2 : W.heap[w.heap.size + 1]? = some (.cells #[.pointer none] 29) := hW.blk (by have := heap_alloc_new (w.alloc (.cells #[.string ⟨#[99, 108, 97, 105, 109]⟩, .int .i64 3, .iface 37 (.int .i64 10)] 33)) (.cells #[.pointer none] 29); simpa using this)
  have hcell : (W.setCell ⟨w.heap.size + 1, 0, none⟩ (.pointer (some ⟨w.heap.size, 0, none⟩))).cell? ⟨w.heap.size + 1, 0, none⟩ = some (.pointer (some ⟨w.heap.size, 0, none⟩)) :=
    cell_set (v := .pointer none) (cs := [.pointer none]) hb2 rfl
  have HB := Lib.hid (show (W.setCell ⟨w.heap.size + 1, 0, none⟩ (.pointer (some ⟨w.heap.size, 0, none⟩))).heap[w.heap.size]? = some (.cells #[.string ⟨#[99, 108, 97, 105, 109]⟩, .int .i64 3, .iface 37 (.int .i64 10)] 33) by rw [Below.heap_setCell _ _ _ _ (by simp)]; exact hb1)
  clear hW hb1 hb2
  go_wp2_with fail
  refine (ferr3 w.heap.size _ HB.out (Hg.out.old HO.out)).mono ?_
  rintro e w3 ⟨rfl, ho3⟩
  have Ho3 := Lib.hid ho3
  clear ho3
  go_wp2_with fail
  refine (code_c [(⟨#[99, 108, 97, 105, 109]⟩, 3)] 10 (.iface 29 (.pointer (some ⟨w.heap.size, 0, none⟩))) _ (Ch.old Ho3.out ⟨w.heap.size, _, rfl, HB.out, rfl⟩) ((Hg.out.old HO.out).old Ho3.out)).mono ?_
  rintro e w4 ⟨rfl, ho4⟩
  have Ho4 := Lib.hid ho4
  clear ho4
  go_wp2
  go_ret
  exact ⟨rfl, (HO.out.trans Ho3.out).trans Ho4.out⟩
end Go.Proofs.YtpknhaemfpmpkaaDoor
