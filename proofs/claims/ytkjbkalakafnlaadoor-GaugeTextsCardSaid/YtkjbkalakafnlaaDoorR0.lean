/- The last steps of a law's row, once for all laws: arguments opened, what is read again. -/
import Derived.Test.YtkjbkalakafnlaaDoorA1
namespace Go.Proofs.YtkjbkalakafnlaaDoor
open Go.ChangeShapes Go.WideShapes Go.ChangeAt Go.RowKit
set_option linter.unusedVariables false
set_option linter.unusedSimpArgs false
set_option maxRecDepth 100000
section
variable {H : Type} {enc : TypeId × Value → H} {W : World} {base : Nat}
theorem open_D {α : Type} {D : Dec α} {t : TypeId} {v : Value} {d : DataW H} {p : List MemPlace} (h : DataW.Trod enc Tryd.prog W 0 (fun _ => true) true t v d p) (ho : Opens enc Tryd.prog W 0 (fun _ => true) true t D) : ∃ a, D W v.cells.toList a := trod_of_Trod h ho
theorem open_Sys {v : Value} {d : DataW H} {p : List MemPlace} (hv : Value.okWide Tryd.prog W .any base 54 v) (h : DataW.Trod enc Tryd.prog W 0 (fun _ => true) true 54 v d p) :
    ∃ (s : Sys) (A B : Option Addr) (c e : Nat), v = .agg #[.int .i64 s.vars, .slice A s.cells.length c, .slice B s.cons.length e] ∧ RCells W A s.cells ∧ RCons W B s.cons ∧ -9223372036854775808 ≤ s.vars ∧ s.vars ≤ 9223372036854775807 := by
  obtain ⟨cs, rfl, _⟩ := okWide_struct Tryd.underlying54 hv
  obtain ⟨s, A, c, B, e, hc, h1, h2, _, _, h3⟩ := open_D h opens_Sys
  refine ⟨s, A, B, c, e, ?_, h1, h2, h3⟩
  simp only [Value.cells] at hc
  rw [← hc]
theorem open_Draft {v : Value} {d : DataW H} {p : List MemPlace} (hv : Value.okWide Tryd.prog W .any base 50 v) (h : DataW.Trod enc Tryd.prog W 0 (fun _ => true) true 50 v d p) :
    ∃ (s : Draft) (A : Option Addr) (c : Nat), v = .agg #[.int .u8 s.vars, .int .u8 s.cells, .slice A s.acts.length c] ∧ RActs W A s.acts ∧ (0 ≤ s.vars ∧ s.vars ≤ 255) ∧ 0 ≤ s.cells ∧ s.cells ≤ 255 := by
  obtain ⟨cs, rfl, _⟩ := okWide_struct Tryd.underlying50 hv
  obtain ⟨s, A, c, hc, h1, h2⟩ := open_D h opens_Draft
  refine ⟨s, A, c, ?_, h1, h2⟩
  simp only [Value.cells] at hc
  rw [← hc]
theorem open_row {α : Type} [Inhabited α] {sz : Nat} {D : Dec α} {t e : TypeId} {v : Value} {d : DataW H} {p : List MemPlace} (ht : Tryd.prog.underlying t = some (.slice e)) (hv : Value.okWide Tryd.prog W .any base t v) (h : DataW.Trod enc Tryd.prog W 0 (fun _ => true) true t v d p) (ho : Opens enc Tryd.prog W 0 (fun _ => true) true t (dS sz D)) :
    ∃ (xs : List α) (A : Option Addr) (c : Nat), v = .slice A xs.length c ∧ xs.length ≤ c ∧ RowR sz D W A xs := by
  obtain ⟨a, n, c, rfl⟩ := okWide_slice ht hv
  obtain ⟨xs, A, c', hc, hl, hr⟩ := open_D h ho
  simp only [Value.cells, List.cons.injEq, and_true] at hc
  exact ⟨xs, A, c', hc, hl, hr⟩
end
end Go.Proofs.YtkjbkalakafnlaaDoor
