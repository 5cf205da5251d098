/- The listed tables of gauge's laws. -/
import Derived.Test.YtkjbkalakafnlaaDoorRows
import Derived.ProofKit
import Derived.LaidMore
namespace Go.Proofs.YtkjbkalakafnlaaDoor
abbrev laid3 {H : Type} : List (String × DataW H) := [("math/bits.deBruijn32tab", Rows.laid_math_bits_deBruijn32tab), ("math/bits.deBruijn64tab", Rows.laid_math_bits_deBruijn64tab), ("internal/strconv.uint64pow10", Rows.laid_internal_strconv_uint64pow10)]
end Go.Proofs.YtkjbkalakafnlaaDoor
