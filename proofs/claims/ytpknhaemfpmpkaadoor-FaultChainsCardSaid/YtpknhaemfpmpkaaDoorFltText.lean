/- What a number is called, by its contract: the literal of nineteen names is walked by the library's own laws on literals. No condition beyond the contract's own. -/
import Derived.Test.YtpknhaemfpmpkaaDoorFltShelf
import Derived.Great.Walk
namespace Go.Proofs.YtpknhaemfpmpkaaDoor
open Go.RowKit Go.Extern.Stop Go.Stop Go.Extern Go.Great
def nameCells : Array Value := #[.string ⟨#[110, 111, 110, 101]⟩, .string ⟨#[97, 114, 103]⟩, .string ⟨#[110, 105, 108]⟩, .string ⟨#[110, 111, 110, 101]⟩, .string ⟨#[116, 104, 101, 114, 101]⟩, .string ⟨#[114, 97, 110, 103, 101]⟩, .string ⟨#[102, 111, 114, 109]⟩, .string ⟨#[115, 105, 122, 101]⟩, .string ⟨#[109, 97, 110, 121]⟩, .string ⟨#[111, 116, 104, 101, 114]⟩, .string ⟨#[102, 117, 108, 108]⟩, .string ⟨#[105, 100, 108, 101]⟩, .string ⟨#[103, 97, 116, 105, 110, 103]⟩, .string ⟨#[97, 108, 101, 114, 116, 101, 100]⟩, .string ⟨#[116, 105, 109, 101, 111, 117, 116]⟩, .string ⟨#[101, 120, 104, 97, 117, 115, 116, 101, 100]⟩, .string ⟨#[99, 121, 99, 108, 101]⟩, .string ⟨#[104, 97, 108, 116, 101, 100]⟩, .string ⟨#[98, 117, 115, 121]⟩]
def zeroNames : Array Value := #[.string ⟨#[]⟩, .string ⟨#[]⟩, .string ⟨#[]⟩, .string ⟨#[]⟩, .string ⟨#[]⟩, .string ⟨#[]⟩, .string ⟨#[]⟩, .string ⟨#[]⟩, .string ⟨#[]⟩, .string ⟨#[]⟩, .string ⟨#[]⟩, .string ⟨#[]⟩, .string ⟨#[]⟩, .string ⟨#[]⟩, .string ⟨#[]⟩, .string ⟨#[]⟩, .string ⟨#[]⟩, .string ⟨#[]⟩, .string ⟨#[]⟩]
attribute [local irreducible] nameCells zeroNames
/-- What a number is called. -/
theorem errno_text (n : Int) (h0 : 0 ≤ n) (h1 : n < 19) (o : ByteArray) (ho : nameCells[n.toNat]? = some (.string o)) (w : World) : Calls Tryd.prog 26 #[.int .i64 n] w fun e w' => e = .returned (.string o) ∧ Old w w' := by
  go_enter Tryd.func26, Tryd.ntmps26
  apply wp_seq_k; intro K0 hK0
  apply wp_region_lit
  refine wpList_readTo rfl (some 2) rfl (.string ⟨#[]⟩) (by kernel_rfl) ?_
  apply wpList_nil
  refine hK0 _ _ ?_
  clear hK0 K0
  apply wp_seq_k; intro K1 hK1
  apply wp_region_lit
  refine wpList_buildTo rfl 83 _ rfl (some 4) rfl nameCells (by as_aux_lemma => kernel_rfl) ?_
  refine wpList_allocTo rfl (some 3) rfl (.pointer (some ⟨w.heap.size, 0, none⟩)) (.cells zeroNames 83) (by as_aux_lemma => kernel_rfl) ?_
  refine wpList_store_row rfl 83 (.tmp 3) (.tmp 4) rfl w.heap.size nameCells rfl rfl 83 zeroNames (heap_alloc_new w _) (by kernel_rfl) (by kernel_rfl) (by kernel_rfl) ?_
  apply wpList_nil
  refine hK1 _ _ ?_
  clear hK1 K1
  have hcell : ((w.alloc (.cells zeroNames 83)).setRow w.heap.size nameCells).cell? ⟨w.heap.size, n.toNat, none⟩ = some (.string o) := by
    rw [cell_setRow_same _ _ _ _ _ _ _ (heap_alloc_new w _)]; exact ho
  have hold : Old w ((w.alloc (.cells zeroNames 83)).setRow w.heap.size nameCells) :=
    ⟨rfl, rfl, rfl, by simp, fun k hk => (setRow_other _ _ _ _ (Nat.ne_of_lt hk)).trans (Below.heap_alloc w _ k hk)⟩
  generalize ((w.alloc (.cells zeroNames 83)).setRow w.heap.size nameCells) = W at hcell hold ⊢
  have Hold := Lib.hid hold
  have g1 : decide (n < 0) = false := by simpa using h0
  have g2 : decide ((19 : Int) ≤ n) = false := by simpa using h1
  have g3 : ((n.toNat : Nat) : Int) = n := by omega
  have g4 : n.toNat < 19 := by omega
  clear ho hold
  obtain ⟨m, rfl⟩ : ∃ m : Nat, n = m := ⟨n.toNat, g3.symm⟩
  simp only [Int.toNat_natCast] at hcell g4
  show Code.wp _ _ _ ⟨#[.int .i64 m, undef, .string ⟨#[]⟩, .pointer (some ⟨w.heap.size, 0, none⟩), .agg nameCells, undef, undef, undef, undef, undef, undef, undef, undef, undef], []⟩ W
  generalize (Value.agg nameCells) = z
  generalize w.heap.size = b at hcell ⊢
  go_wp2
  go_ret
  exact ⟨rfl, Hold.out⟩
end Go.Proofs.YtpknhaemfpmpkaaDoor
