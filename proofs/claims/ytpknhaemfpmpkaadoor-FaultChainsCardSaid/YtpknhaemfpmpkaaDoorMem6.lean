/- A law of a general kind: of a region that draws its order, what is left only reads: one walk of what is left serves every order. No condition beyond the law's own. -/
import Derived.Deep.QuietTactic
import Derived.BigQuiet
import Derived.WalkKit
namespace Go.Proofs.YtpknhaemfpmpkaaDoor

theorem wpAny_quiet_rest {P : Program} {md : Region.Mode} {ops : Array Oper} {Q : Exit → Act → World → Prop} {fuel : Nat} {listed : Array Bool} {a : Act} {w : World} (l : List Oper) (k : Nat) (hf : fuel = l.length)
    (hl : ∀ j, l[j]? = ops[k + j]?) (hs : Region.noSelect ops = true) (hB : Region.lexFrom md ops l.length k listed = true)
    (h : wpQuiet P ops (fun w' => ∃ n, w' = w.drewN n) (fun a' => ∀ w', (∃ n, w' = w.drewN n) → Q .normal a' w') l a) : wpAny P md ops Q fuel listed a w := by
  subst hf
  exact wpAny_of_quiet (C := fun w' => ∃ n, w' = w.drewN n) (Q := fun a' => ∀ w', (∃ n, w' = w.drewN n) → Q .normal a' w') (fun _ w' hw' h => h w' hw') _ _ _ _ ⟨0, rfl⟩ (wpAnyQ_lex hs l k listed a hl hB h)

/-- The same, the operations written out: four have been carried out. -/
theorem wpAny_quiet_rest4 {P : Program} {md : Region.Mode} {o0 o1 o2 o3 : Oper} {l : List Oper} {Q : Exit → Act → World → Prop} {fuel : Nat} {listed : Array Bool} {a : Act} {w : World} (hf : fuel = l.length)
    (hs : Region.noSelect (o0 :: o1 :: o2 :: o3 :: l).toArray = true) (hB : Region.lexFrom md (o0 :: o1 :: o2 :: o3 :: l).toArray l.length 4 listed = true)
    (h : wpQuiet P (o0 :: o1 :: o2 :: o3 :: l).toArray (fun w' => ∃ n, w' = w.drewN n) (fun a' => ∀ w', (∃ n, w' = w.drewN n) → Q .normal a' w') l a) : wpAny P md (o0 :: o1 :: o2 :: o3 :: l).toArray Q fuel listed a w :=
  wpAny_quiet_rest l 4 hf (fun j => by simp [Nat.add_comm 4 j]) hs hB h
end Go.Proofs.YtpknhaemfpmpkaaDoor
