/- least.Look. -/
import Derived.Test.YtkjbkalakafnlaaDoorXK23
namespace Go.Proofs.YtkjbkalakafnlaaDoor
open Go.RowKit
set_option linter.unusedVariables false
set_option linter.unusedSimpArgs false
set_option maxRecDepth 100000
def lensF (ps : List (List Int)) : List Nat := ps.map fun p => nearF p.length
def mostOf (ps : List (List Int)) : Nat := ps.foldl (fun m p => max m p.length) 0
theorem most_take (ps : List (List Int)) {m : Nat} (h : ∀ p ∈ ps, p.length ≤ m) : ∀ k, (ps.take k).foldl (fun m p => max m p.length) 0 ≤ m := by
  intro k
  have : ∀ (l : List (List Int)) (z : Nat), z ≤ m → (∀ p ∈ l, p.length ≤ m) → l.foldl (fun m p => max m p.length) z ≤ m := by
    intro l
    induction l with
    | nil => intro z hz _; exact hz
    | cons p l ih => intro z hz hl; exact ih _ (by show max z p.length ≤ m; have := hl p (by simp); omega) (fun q hq => hl q (by simp [hq]))
  exact this _ 0 (Nat.zero_le _) (fun p hp => h p (List.mem_of_mem_take hp))
end Go.Proofs.YtkjbkalakafnlaaDoor
