/- What several laws on solve.Least use. -/
import Derived.Test.YtkjbkalakafnlaaDoorZ18
namespace Go.Proofs.YtkjbkalakafnlaaDoor
open Go.RowKit
set_option linter.unusedVariables false
set_option linter.unusedSimpArgs false
set_option maxRecDepth 100000
theorem retBt {b : Bool} (h : b = true) : Ending.returned (.bool b) = .returned (.bool true) := by rw [h]
/-- The rules are those of the constraints, wherever they stand. -/
theorem closed_mem {v : Int} {xs : List Cell} {ys : List Con} {N : Mat} : ClosedM ⟨v, xs, ys⟩ N ↔ ∀ c ∈ ys, ruleP xs c N := by
  constructor
  · intro h c hc
    obtain ⟨i, hi, e⟩ := List.getElem_of_mem hc
    have := h i hi
    have e2 : (⟨v, xs, ys⟩ : Sys).cons[i]! = c := by show ys[i]! = c; rw [getElem!_pos ys i hi]; exact e
    rwa [e2] at this
  · intro h i hi
    have hi : i < ys.length := hi
    exact h _ (by show ys[i]! ∈ ys; rw [getElem!_pos ys i hi]; exact List.getElem_mem hi)
theorem pts_len {n c : Nat} {M : Mat} (h : Shape n c M) : (ptsOf M).length = n := by simp [ptsOf, h.rows]
theorem pts_at {n c : Nat} {M : Mat} (h : Shape n c M) {v : Nat} (hv : v < n) : (ptsOf M)[v]! = rowPts M[v]! := by
  rw [getElem!_pos _ v (by rw [pts_len h]; exact hv), getElem!_pos M v (by rw [h.rows]; exact hv)]
  simp [ptsOf]
end Go.Proofs.YtkjbkalakafnlaaDoor
