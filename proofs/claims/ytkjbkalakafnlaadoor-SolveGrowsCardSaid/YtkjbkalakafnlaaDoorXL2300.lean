/- weathervanelaw23: awake, alike. -/
import Derived.Test.YtkjbkalakafnlaaDoorXL23L
import Derived.Test.YtkjbkalakafnlaaDoorZ15
namespace Go.Proofs.YtkjbkalakafnlaaDoor
open Go.RowKit
set_option linter.unusedVariables false
set_option linter.unusedSimpArgs false
set_option maxRecDepth 100000
theorem ext_bits : ExtOk Tryd.prog 21 Extern.MathFloatBits.float64bits := ⟨⟨_, Tryd.func21, by kernel_rfl, by kernel_rfl, by rfl, by rfl⟩⟩
theorem alike_rel {o : Option Nat} {x y : Nat} (hx : FRel o x) (hy : FRel o y) : ((fne x x && fne y y) || decide (x = y)) = true := by
  cases o with
  | none => rw [fne_nan hx, fne_nan hy]; rfl
  | some r => cases hx; cases hy; simp
theorem share00 : shareO 0 0 = none := by decide +kernel
theorem mean0 : meanO [] = none := by decide +kernel
end Go.Proofs.YtkjbkalakafnlaaDoor
