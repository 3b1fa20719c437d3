/- The contract of the law helper norialaw01.Is: whether an error, or none, is of a number. No condition but that the error is a number or a fault around one. -/
import Derived.Test.YtiphdedfbafhkaaGreatDoorErrs
namespace Go.Proofs.YtiphdedfbafhkaaGreatDoor
open Go.RowKit

/-- An error or none, by its number: 0 is none. -/
def Err (c : Nat → Nat) (w : World) (v : Value) (n : Int) : Prop := (n = 0 ∧ v = .nilIface) ∨ (n ≠ 0 ∧ ErrAt c w v n)

theorem Err.nil (c : Nat → Nat) (w : World) : Err c w .nilIface 0 := .inl ⟨rfl, rfl⟩
theorem Err.num (c : Nat → Nat) (w : World) (n : Int) (h : n ≠ 0) : Err c w (.iface 98 (.int .i64 n)) n := .inr ⟨h, .inl rfl⟩
theorem ErrAt.err {c : Nat → Nat} {w : World} {v : Value} {n : Int} (h : ErrAt c w v n) (hn : n ≠ 0) : Err c w v n := .inr ⟨hn, h⟩
theorem Err.stp {J : Nat → Prop} {c c' : Nat → Nat} {w w' : World} {v : Value} {n : Int} (h : Err c w v n) (st : Stp J c c' w w') (hk : ¬ J 1) : Err c' w' v n := by
  rcases h with h | ⟨h, he⟩
  · exact .inl h
  · exact .inr ⟨h, he.stp st hk⟩

theorem ErrAt.newAt {c : Nat → Nat} {w : World} {op : ByteArray} {seq n : Int} {b j : Nat} (hb : b = w.heap.size) (hj : j = w.heap.size) :
    ErrAt (paint c j 1) (w.alloc (.cells #[.string op, .int .i64 seq, .iface 98 (.int .i64 n)] 181)) (.iface 179 (.pointer (some ⟨b, 0, none⟩))) n := by
  subst hb; subst hj; exact ErrAt.new c w op seq n

theorem is_nil (n : Int) (w : World) :
    Calls Tryz.prog 14 #[.nilIface, .int .i64 n] w fun e w' => e = .returned (.bool (0 == n)) ∧ w = w' := by
  by_cases hn : n = 0
  · subst hn
    go_enter Tryz.func14, Tryz.ntmps14
    go_wp2
    go_ret
    exact ⟨rfl, rfl⟩
  · have h0 : (n == 0) = false := by simpa using hn
    have h1 : ((0 : Int) == n) = false := by simp; omega
    rw [h1]
    clear h1 hn
    go_enter Tryz.func14, Tryz.ntmps14
    go_wp2
    go_ret
    exact ⟨rfl, rfl⟩

theorem is_errat {c : Nat → Nat} {w : World} {v : Value} {m : Int} (h : ErrAt c w v m) (hm : m ≠ 0) (n : Int) :
    Calls Tryz.prog 14 #[v, .int .i64 n] w fun e w' => e = .returned (.bool (m == n)) ∧ w = w' := by
  by_cases hn : n = 0
  · subst hn
    have h1 : (m == 0) = false := by simpa using hm
    rw [h1]
    clear h1 hm
    rcases h with rfl | ⟨b, op, seq, rfl, hb⟩
    · go_enter Tryz.func14, Tryz.ntmps14
      go_wp2
      go_ret
      exact ⟨rfl, rfl⟩
    · clear hb
      go_enter Tryz.func14, Tryz.ntmps14
      go_wp2
      go_ret
      exact ⟨rfl, rfl⟩
  · have h0 : (n == 0) = false := by simpa using hn
    clear hn hm
    rcases h with rfl | ⟨b, op, seq, rfl, hb⟩
    · go_enter Tryz.func14, Tryz.ntmps14
      go_wp2_with (go_at_call 66; refine (is_num _ _ _).mono ?_; rintro e w' ⟨rfl, rfl⟩)
      go_ret
      exact ⟨rfl, rfl⟩
    · have h2 := hb.cell 2
      simp at h2
      have H2 := Lib.hid h2
      clear h2 hb
      go_enter Tryz.func14, Tryz.ntmps14
      go_wp2_with (go_at_call 66; refine (is_fault _ _ _ _ H2.out).mono ?_; rintro e w' ⟨rfl, rfl⟩)
      go_ret
      exact ⟨rfl, rfl⟩

/-- norialaw01.Is. -/
theorem lawis {c : Nat → Nat} {w : World} {v : Value} {m : Int} (h : Err c w v m) (n : Int) :
    Calls Tryz.prog 14 #[v, .int .i64 n] w fun e w' => e = .returned (.bool (m == n)) ∧ w = w' := by
  rcases h with ⟨rfl, rfl⟩ | ⟨hm, h⟩
  · exact is_nil n w
  · exact is_errat h hm n
end Go.Proofs.YtiphdedfbafhkaaGreatDoor
