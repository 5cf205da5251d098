/-
  NARROWER THAN 'FOR EVERY INPUT', by the rows' own cells (each row's printed sentence says how): GaugeShares: laid · GaugeTexts: laid · GaugeMeans: laid · GaugeBest: laid · GaugeOrders: laid · GaugeSame: laid · GaugeSigns: laid · SolveLeast: laid · SolveOrders: laid · SolveGrows: laid · SolveRaw: laid · SolveChain: laid · SolveApplies: laid · SolveGuards: laid · SolveExpands: laid.
  DERIVED. THE GIVEN ROWS OF THIS SEAT. 15 by the template 'for every input the law returns true; each argument reads behind the call as it read before'; 0 by the template 'total and deterministic' (their statements: YtkjbkalakafnlaaDoorTotals.lean).
  GIVEN WITH THE SEED: the statements are not yours to turn. If you find one false, say at which input.
  Laid BY PROGRAM, IN A SANDBOX (cutbox-rows.mjs): the forced cells as the released guide's own fill.sh prints them over the translation 5ee6ce03815107f5… (all of the seat's roots in one cut). By AI agents, Wed Nov 11 2026. No macro, syntax, notation, axiom, sorry.
-/
import Derived.Test.YtkjbkalakafnlaaDoorChecked
import GoSem.Claim
import GoSem.ClaimJoined
import GoSem.ClaimMapViews
import Derived.JoinedTies
import Derived.KernelRfl
namespace Go.Proofs.YtkjbkalakafnlaaDoor
/- THE CELL 'sum', in the pinned program and in every row, IS THE sha256 OF THE DUMP (.gsa) THAT YtkjbkalakafnlaaDoorProg.lean LOADS. Nothing in Lean hashes anything: it is a label: what it is worth is what the hold of that sum in a sandbox is worth. -/
noncomputable def Tryd.pinned : Pinned := { name := "ytkjbkalakafnlaadoor", sum := "5ee6ce03815107f540041476447ad69903e66ebdedc05ad115d5cd1d946160e9", checked := Tryd.checked }
namespace Rows
def none {H : Type} : Left H := { results := [], args := [] }

/- WHAT THE LISTED PACKAGE-LEVEL VARIABLES READ AS WHEN THE CALL BEGINS. Each datum BY PROGRAM (the guide's laid-datum.mjs) off the statement by which the dump's own 'gosem.cut.vars' lays the variable. In a bare row this is a premise. The card (YtkjbkalakafnlaaDoorCards.lean) ties it to the program's text. -/
def laid_math_bits_deBruijn32tab {H : Type} : DataW H := .agg [.lit (.int .u8 0), .lit (.int .u8 1), .lit (.int .u8 28), .lit (.int .u8 2), .lit (.int .u8 29), .lit (.int .u8 14), .lit (.int .u8 24), .lit (.int .u8 3), .lit (.int .u8 30), .lit (.int .u8 22), .lit (.int .u8 20), .lit (.int .u8 15), .lit (.int .u8 25), .lit (.int .u8 17), .lit (.int .u8 4), .lit (.int .u8 8), .lit (.int .u8 31), .lit (.int .u8 27), .lit (.int .u8 13), .lit (.int .u8 23), .lit (.int .u8 21), .lit (.int .u8 19), .lit (.int .u8 16), .lit (.int .u8 7), .lit (.int .u8 26), .lit (.int .u8 12), .lit (.int .u8 18), .lit (.int .u8 6), .lit (.int .u8 11), .lit (.int .u8 5), .lit (.int .u8 10), .lit (.int .u8 9)]
def laid_math_bits_deBruijn64tab {H : Type} : DataW H := .agg [.lit (.int .u8 0), .lit (.int .u8 1), .lit (.int .u8 56), .lit (.int .u8 2), .lit (.int .u8 57), .lit (.int .u8 49), .lit (.int .u8 28), .lit (.int .u8 3), .lit (.int .u8 61), .lit (.int .u8 58), .lit (.int .u8 42), .lit (.int .u8 50), .lit (.int .u8 38), .lit (.int .u8 29), .lit (.int .u8 17), .lit (.int .u8 4), .lit (.int .u8 62), .lit (.int .u8 47), .lit (.int .u8 59), .lit (.int .u8 36), .lit (.int .u8 45), .lit (.int .u8 43), .lit (.int .u8 51), .lit (.int .u8 22), .lit (.int .u8 53), .lit (.int .u8 39), .lit (.int .u8 33), .lit (.int .u8 30), .lit (.int .u8 24), .lit (.int .u8 18), .lit (.int .u8 12), .lit (.int .u8 5), .lit (.int .u8 63), .lit (.int .u8 55), .lit (.int .u8 48), .lit (.int .u8 27), .lit (.int .u8 60), .lit (.int .u8 41), .lit (.int .u8 37), .lit (.int .u8 16), .lit (.int .u8 46), .lit (.int .u8 35), .lit (.int .u8 44), .lit (.int .u8 21), .lit (.int .u8 52), .lit (.int .u8 32), .lit (.int .u8 23), .lit (.int .u8 11), .lit (.int .u8 54), .lit (.int .u8 26), .lit (.int .u8 40), .lit (.int .u8 15), .lit (.int .u8 34), .lit (.int .u8 20), .lit (.int .u8 31), .lit (.int .u8 10), .lit (.int .u8 25), .lit (.int .u8 14), .lit (.int .u8 19), .lit (.int .u8 9), .lit (.int .u8 13), .lit (.int .u8 8), .lit (.int .u8 7), .lit (.int .u8 6)]
def laid_internal_strconv_uint64pow10 {H : Type} : DataW H := .agg [.lit (.int .u64 1), .lit (.int .u64 10), .lit (.int .u64 100), .lit (.int .u64 1000), .lit (.int .u64 10000), .lit (.int .u64 100000), .lit (.int .u64 1000000), .lit (.int .u64 10000000), .lit (.int .u64 100000000), .lit (.int .u64 1000000000), .lit (.int .u64 10000000000), .lit (.int .u64 100000000000), .lit (.int .u64 1000000000000), .lit (.int .u64 10000000000000), .lit (.int .u64 100000000000000), .lit (.int .u64 1000000000000000), .lit (.int .u64 10000000000000000), .lit (.int .u64 100000000000000000), .lit (.int .u64 1000000000000000000), .lit (.int .u64 10000000000000000000)]

/-- 'weathervanelaw04.GaugeShares': WHATEVER THE INPUT: true; the input reads as it did. -/
def gaugeSharesSpec : ChangeSpec := { name := "gaugeShares", fn := fun _ => fun
  | [d1, d2] => { results := [.lit (.bool true)], args := [d1, d2] }
  | _ => none }
def gaugeSharesRow : OpenClaim := { program := "ytkjbkalakafnlaadoor", sum := "5ee6ce03815107f540041476447ad69903e66ebdedc05ad115d5cd1d946160e9", func := "weathervane/weathervanelaw04.GaugeShares", spec := "gaugeShares", inPlace := ["math.Float64bits", "math.Float64frombits", "math.archTrunc"], named := ["internal/strconv.uint64pow10", "math/bits.deBruijn32tab", "math/bits.deBruijn64tab"], apart := false, laid := [("math/bits.deBruijn32tab", laid_math_bits_deBruijn32tab), ("math/bits.deBruijn64tab", laid_math_bits_deBruijn64tab), ("internal/strconv.uint64pow10", laid_internal_strconv_uint64pow10)] }
def GaugeSharesSaid : Prop := gaugeSharesRow.holds Tryd.pinned (OpenSpec.ofChange gaugeSharesSpec)

/-- ITS FALSE NEIGHBOUR: 'it returns false'. Refute it at one input. -/
def gaugeSharesWrong : ChangeSpec := { name := "gaugeShares", fn := fun _ => fun
  | [d1, d2] => { results := [.lit (.bool false)], args := [d1, d2] }
  | _ => none }
def GaugeSharesWrongFalsely : Prop := gaugeSharesRow.holds Tryd.pinned (OpenSpec.ofChange gaugeSharesWrong)

/-- 'weathervanelaw04.GaugeTexts': WHATEVER THE INPUT: true; the input reads as it did. -/
def gaugeTextsSpec : ChangeSpec := { name := "gaugeTexts", fn := fun _ => fun
  | [d1, d2] => { results := [.lit (.bool true)], args := [d1, d2] }
  | _ => none }
def gaugeTextsRow : OpenClaim := { program := "ytkjbkalakafnlaadoor", sum := "5ee6ce03815107f540041476447ad69903e66ebdedc05ad115d5cd1d946160e9", func := "weathervane/weathervanelaw04.GaugeTexts", spec := "gaugeTexts", inPlace := ["math.Float64frombits", "math.Float64bits", "math.archTrunc"], recurses := true, named := ["internal/strconv.uint64pow10", "math/bits.deBruijn32tab", "math/bits.deBruijn64tab"], apart := false, laid := [("math/bits.deBruijn32tab", laid_math_bits_deBruijn32tab), ("math/bits.deBruijn64tab", laid_math_bits_deBruijn64tab), ("internal/strconv.uint64pow10", laid_internal_strconv_uint64pow10)] }
def GaugeTextsSaid : Prop := gaugeTextsRow.holds Tryd.pinned (OpenSpec.ofChange gaugeTextsSpec)

/-- ITS FALSE NEIGHBOUR: 'it returns false'. Refute it at one input. -/
def gaugeTextsWrong : ChangeSpec := { name := "gaugeTexts", fn := fun _ => fun
  | [d1, d2] => { results := [.lit (.bool false)], args := [d1, d2] }
  | _ => none }
def GaugeTextsWrongFalsely : Prop := gaugeTextsRow.holds Tryd.pinned (OpenSpec.ofChange gaugeTextsWrong)

/-- 'weathervanelaw04.GaugeMeans': WHATEVER THE INPUT: true; the input reads as it did. -/
def gaugeMeansSpec : ChangeSpec := { name := "gaugeMeans", fn := fun _ => fun
  | [d] => { results := [.lit (.bool true)], args := [d] }
  | _ => none }
def gaugeMeansRow : OpenClaim := { program := "ytkjbkalakafnlaadoor", sum := "5ee6ce03815107f540041476447ad69903e66ebdedc05ad115d5cd1d946160e9", func := "weathervane/weathervanelaw04.GaugeMeans", spec := "gaugeMeans", inPlace := ["math.Float64bits", "math.Float64frombits", "math.archTrunc"], named := ["internal/strconv.uint64pow10", "math/bits.deBruijn32tab", "math/bits.deBruijn64tab"], apart := false, laid := [("math/bits.deBruijn32tab", laid_math_bits_deBruijn32tab), ("math/bits.deBruijn64tab", laid_math_bits_deBruijn64tab), ("internal/strconv.uint64pow10", laid_internal_strconv_uint64pow10)] }
def GaugeMeansSaid : Prop := gaugeMeansRow.holds Tryd.pinned (OpenSpec.ofChange gaugeMeansSpec)

/-- ITS FALSE NEIGHBOUR: 'it returns false'. Refute it at one input. -/
def gaugeMeansWrong : ChangeSpec := { name := "gaugeMeans", fn := fun _ => fun
  | [d] => { results := [.lit (.bool false)], args := [d] }
  | _ => none }
def GaugeMeansWrongFalsely : Prop := gaugeMeansRow.holds Tryd.pinned (OpenSpec.ofChange gaugeMeansWrong)

/-- 'weathervanelaw04.GaugeBest': WHATEVER THE INPUT: true; the input reads as it did. -/
def gaugeBestSpec : ChangeSpec := { name := "gaugeBest", fn := fun _ => fun
  | [d] => { results := [.lit (.bool true)], args := [d] }
  | _ => none }
def gaugeBestRow : OpenClaim := { program := "ytkjbkalakafnlaadoor", sum := "5ee6ce03815107f540041476447ad69903e66ebdedc05ad115d5cd1d946160e9", func := "weathervane/weathervanelaw04.GaugeBest", spec := "gaugeBest", inPlace := ["math.Float64bits", "math.Float64frombits", "math.archTrunc"], named := ["internal/strconv.uint64pow10", "math/bits.deBruijn32tab", "math/bits.deBruijn64tab"], apart := false, laid := [("math/bits.deBruijn32tab", laid_math_bits_deBruijn32tab), ("math/bits.deBruijn64tab", laid_math_bits_deBruijn64tab), ("internal/strconv.uint64pow10", laid_internal_strconv_uint64pow10)] }
def GaugeBestSaid : Prop := gaugeBestRow.holds Tryd.pinned (OpenSpec.ofChange gaugeBestSpec)

/-- ITS FALSE NEIGHBOUR: 'it returns false'. Refute it at one input. -/
def gaugeBestWrong : ChangeSpec := { name := "gaugeBest", fn := fun _ => fun
  | [d] => { results := [.lit (.bool false)], args := [d] }
  | _ => none }
def GaugeBestWrongFalsely : Prop := gaugeBestRow.holds Tryd.pinned (OpenSpec.ofChange gaugeBestWrong)

/-- 'weathervanelaw04.GaugeOrders': WHATEVER THE INPUT: true; the input reads as it did. -/
def gaugeOrdersSpec : ChangeSpec := { name := "gaugeOrders", fn := fun _ => fun
  | [d1, d2, d3, d4] => { results := [.lit (.bool true)], args := [d1, d2, d3, d4] }
  | _ => none }
def gaugeOrdersRow : OpenClaim := { program := "ytkjbkalakafnlaadoor", sum := "5ee6ce03815107f540041476447ad69903e66ebdedc05ad115d5cd1d946160e9", func := "weathervane/weathervanelaw04.GaugeOrders", spec := "gaugeOrders", inPlace := ["math.Float64frombits", "math.Float64bits", "math.archTrunc"], named := ["internal/strconv.uint64pow10", "math/bits.deBruijn32tab", "math/bits.deBruijn64tab"], apart := false, laid := [("math/bits.deBruijn32tab", laid_math_bits_deBruijn32tab), ("math/bits.deBruijn64tab", laid_math_bits_deBruijn64tab), ("internal/strconv.uint64pow10", laid_internal_strconv_uint64pow10)] }
def GaugeOrdersSaid : Prop := gaugeOrdersRow.holds Tryd.pinned (OpenSpec.ofChange gaugeOrdersSpec)

/-- ITS FALSE NEIGHBOUR: 'it returns false'. Refute it at one input. -/
def gaugeOrdersWrong : ChangeSpec := { name := "gaugeOrders", fn := fun _ => fun
  | [d1, d2, d3, d4] => { results := [.lit (.bool false)], args := [d1, d2, d3, d4] }
  | _ => none }
def GaugeOrdersWrongFalsely : Prop := gaugeOrdersRow.holds Tryd.pinned (OpenSpec.ofChange gaugeOrdersWrong)

/-- 'weathervanelaw04.GaugeSame': WHATEVER THE INPUT: true; the input reads as it did. -/
def gaugeSameSpec : ChangeSpec := { name := "gaugeSame", fn := fun _ => fun
  | [d1, d2] => { results := [.lit (.bool true)], args := [d1, d2] }
  | _ => none }
def gaugeSameRow : OpenClaim := { program := "ytkjbkalakafnlaadoor", sum := "5ee6ce03815107f540041476447ad69903e66ebdedc05ad115d5cd1d946160e9", func := "weathervane/weathervanelaw04.GaugeSame", spec := "gaugeSame", inPlace := ["math.Float64bits", "math.Float64frombits", "math.archTrunc"], named := ["internal/strconv.uint64pow10", "math/bits.deBruijn32tab", "math/bits.deBruijn64tab"], apart := false, laid := [("math/bits.deBruijn32tab", laid_math_bits_deBruijn32tab), ("math/bits.deBruijn64tab", laid_math_bits_deBruijn64tab), ("internal/strconv.uint64pow10", laid_internal_strconv_uint64pow10)] }
def GaugeSameSaid : Prop := gaugeSameRow.holds Tryd.pinned (OpenSpec.ofChange gaugeSameSpec)

/-- ITS FALSE NEIGHBOUR: 'it returns false'. Refute it at one input. -/
def gaugeSameWrong : ChangeSpec := { name := "gaugeSame", fn := fun _ => fun
  | [d1, d2] => { results := [.lit (.bool false)], args := [d1, d2] }
  | _ => none }
def GaugeSameWrongFalsely : Prop := gaugeSameRow.holds Tryd.pinned (OpenSpec.ofChange gaugeSameWrong)

/-- 'weathervanelaw04.GaugeSigns': WHATEVER THE INPUT: true; the input reads as it did. -/
def gaugeSignsSpec : ChangeSpec := { name := "gaugeSigns", fn := fun _ => fun
  | [d] => { results := [.lit (.bool true)], args := [d] }
  | _ => none }
def gaugeSignsRow : OpenClaim := { program := "ytkjbkalakafnlaadoor", sum := "5ee6ce03815107f540041476447ad69903e66ebdedc05ad115d5cd1d946160e9", func := "weathervane/weathervanelaw04.GaugeSigns", spec := "gaugeSigns", inPlace := ["math.Float64bits", "math.Float64frombits", "math.archTrunc"], named := ["internal/strconv.uint64pow10", "math/bits.deBruijn32tab", "math/bits.deBruijn64tab"], apart := false, laid := [("math/bits.deBruijn32tab", laid_math_bits_deBruijn32tab), ("math/bits.deBruijn64tab", laid_math_bits_deBruijn64tab), ("internal/strconv.uint64pow10", laid_internal_strconv_uint64pow10)] }
def GaugeSignsSaid : Prop := gaugeSignsRow.holds Tryd.pinned (OpenSpec.ofChange gaugeSignsSpec)

/-- ITS FALSE NEIGHBOUR: 'it returns false'. Refute it at one input. -/
def gaugeSignsWrong : ChangeSpec := { name := "gaugeSigns", fn := fun _ => fun
  | [d] => { results := [.lit (.bool false)], args := [d] }
  | _ => none }
def GaugeSignsWrongFalsely : Prop := gaugeSignsRow.holds Tryd.pinned (OpenSpec.ofChange gaugeSignsWrong)

/-- 'weathervanelaw20.SolveLeast': WHATEVER THE INPUT: true; the input reads as it did. -/
def solveLeastSpec : ChangeSpec := { name := "solveLeast", fn := fun _ => fun
  | [d] => { results := [.lit (.bool true)], args := [d] }
  | _ => none }
def solveLeastRow : OpenClaim := { program := "ytkjbkalakafnlaadoor", sum := "5ee6ce03815107f540041476447ad69903e66ebdedc05ad115d5cd1d946160e9", func := "weathervane/weathervanelaw20.SolveLeast", spec := "solveLeast", inPlace := ["slices.overlaps[weathervane/pile.block]"], unfollowed := true, recurses := true, named := ["math/bits.deBruijn64tab"], apart := false, laid := [("math/bits.deBruijn64tab", laid_math_bits_deBruijn64tab)] }
def SolveLeastSaid : Prop := solveLeastRow.holds Tryd.pinned (OpenSpec.ofChange solveLeastSpec)

/-- ITS FALSE NEIGHBOUR: 'it returns false'. Refute it at one input. -/
def solveLeastWrong : ChangeSpec := { name := "solveLeast", fn := fun _ => fun
  | [d] => { results := [.lit (.bool false)], args := [d] }
  | _ => none }
def SolveLeastWrongFalsely : Prop := solveLeastRow.holds Tryd.pinned (OpenSpec.ofChange solveLeastWrong)

/-- 'weathervanelaw20.SolveOrders': WHATEVER THE INPUT: true; the input reads as it did. -/
def solveOrdersSpec : ChangeSpec := { name := "solveOrders", fn := fun _ => fun
  | [d1, d2] => { results := [.lit (.bool true)], args := [d1, d2] }
  | _ => none }
def solveOrdersRow : OpenClaim := { program := "ytkjbkalakafnlaadoor", sum := "5ee6ce03815107f540041476447ad69903e66ebdedc05ad115d5cd1d946160e9", func := "weathervane/weathervanelaw20.SolveOrders", spec := "solveOrders", inPlace := ["slices.overlaps[weathervane/pile.block]"], unfollowed := true, recurses := true, named := ["math/bits.deBruijn64tab"], apart := false, laid := [("math/bits.deBruijn64tab", laid_math_bits_deBruijn64tab)] }
def SolveOrdersSaid : Prop := solveOrdersRow.holds Tryd.pinned (OpenSpec.ofChange solveOrdersSpec)

/-- ITS FALSE NEIGHBOUR: 'it returns false'. Refute it at one input. -/
def solveOrdersWrong : ChangeSpec := { name := "solveOrders", fn := fun _ => fun
  | [d1, d2] => { results := [.lit (.bool false)], args := [d1, d2] }
  | _ => none }
def SolveOrdersWrongFalsely : Prop := solveOrdersRow.holds Tryd.pinned (OpenSpec.ofChange solveOrdersWrong)

/-- 'weathervanelaw20.SolveGrows': WHATEVER THE INPUT: true; the input reads as it did. -/
def solveGrowsSpec : ChangeSpec := { name := "solveGrows", fn := fun _ => fun
  | [d1, d2] => { results := [.lit (.bool true)], args := [d1, d2] }
  | _ => none }
def solveGrowsRow : OpenClaim := { program := "ytkjbkalakafnlaadoor", sum := "5ee6ce03815107f540041476447ad69903e66ebdedc05ad115d5cd1d946160e9", func := "weathervane/weathervanelaw20.SolveGrows", spec := "solveGrows", inPlace := ["slices.overlaps[weathervane/pile.block]"], unfollowed := true, recurses := true, named := ["math/bits.deBruijn64tab"], apart := false, laid := [("math/bits.deBruijn64tab", laid_math_bits_deBruijn64tab)] }
def SolveGrowsSaid : Prop := solveGrowsRow.holds Tryd.pinned (OpenSpec.ofChange solveGrowsSpec)

/-- ITS FALSE NEIGHBOUR: 'it returns false'. Refute it at one input. -/
def solveGrowsWrong : ChangeSpec := { name := "solveGrows", fn := fun _ => fun
  | [d1, d2] => { results := [.lit (.bool false)], args := [d1, d2] }
  | _ => none }
def SolveGrowsWrongFalsely : Prop := solveGrowsRow.holds Tryd.pinned (OpenSpec.ofChange solveGrowsWrong)

/-- 'weathervanelaw20.SolveRaw': WHATEVER THE INPUT: true; the input reads as it did. -/
def solveRawSpec : ChangeSpec := { name := "solveRaw", fn := fun _ => fun
  | [d] => { results := [.lit (.bool true)], args := [d] }
  | _ => none }
def solveRawRow : OpenClaim := { program := "ytkjbkalakafnlaadoor", sum := "5ee6ce03815107f540041476447ad69903e66ebdedc05ad115d5cd1d946160e9", func := "weathervane/weathervanelaw20.SolveRaw", spec := "solveRaw", inPlace := ["slices.overlaps[weathervane/pile.block]"], unfollowed := true, recurses := true, named := ["math/bits.deBruijn64tab"], apart := false, laid := [("math/bits.deBruijn64tab", laid_math_bits_deBruijn64tab)] }
def SolveRawSaid : Prop := solveRawRow.holds Tryd.pinned (OpenSpec.ofChange solveRawSpec)

/-- ITS FALSE NEIGHBOUR: 'it returns false'. Refute it at one input. -/
def solveRawWrong : ChangeSpec := { name := "solveRaw", fn := fun _ => fun
  | [d] => { results := [.lit (.bool false)], args := [d] }
  | _ => none }
def SolveRawWrongFalsely : Prop := solveRawRow.holds Tryd.pinned (OpenSpec.ofChange solveRawWrong)

/-- 'weathervanelaw20.SolveChain': WHATEVER THE INPUT: true; the input reads as it did. -/
def solveChainSpec : ChangeSpec := { name := "solveChain", fn := fun _ => fun
  | [d1, d2] => { results := [.lit (.bool true)], args := [d1, d2] }
  | _ => none }
def solveChainRow : OpenClaim := { program := "ytkjbkalakafnlaadoor", sum := "5ee6ce03815107f540041476447ad69903e66ebdedc05ad115d5cd1d946160e9", func := "weathervane/weathervanelaw20.SolveChain", spec := "solveChain", inPlace := ["slices.overlaps[weathervane/pile.block]"], unfollowed := true, recurses := true, named := ["math/bits.deBruijn64tab"], apart := false, laid := [("math/bits.deBruijn64tab", laid_math_bits_deBruijn64tab)] }
def SolveChainSaid : Prop := solveChainRow.holds Tryd.pinned (OpenSpec.ofChange solveChainSpec)

/-- ITS FALSE NEIGHBOUR: 'it returns false'. Refute it at one input. -/
def solveChainWrong : ChangeSpec := { name := "solveChain", fn := fun _ => fun
  | [d1, d2] => { results := [.lit (.bool false)], args := [d1, d2] }
  | _ => none }
def SolveChainWrongFalsely : Prop := solveChainRow.holds Tryd.pinned (OpenSpec.ofChange solveChainWrong)

/-- 'weathervanelaw20.SolveApplies': WHATEVER THE INPUT: true; the input reads as it did. -/
def solveAppliesSpec : ChangeSpec := { name := "solveApplies", fn := fun _ => fun
  | [d1, d2, d3] => { results := [.lit (.bool true)], args := [d1, d2, d3] }
  | _ => none }
def solveAppliesRow : OpenClaim := { program := "ytkjbkalakafnlaadoor", sum := "5ee6ce03815107f540041476447ad69903e66ebdedc05ad115d5cd1d946160e9", func := "weathervane/weathervanelaw20.SolveApplies", spec := "solveApplies", inPlace := ["slices.overlaps[weathervane/pile.block]"], unfollowed := true, recurses := true, named := ["math/bits.deBruijn64tab"], apart := false, laid := [("math/bits.deBruijn64tab", laid_math_bits_deBruijn64tab)] }
def SolveAppliesSaid : Prop := solveAppliesRow.holds Tryd.pinned (OpenSpec.ofChange solveAppliesSpec)

/-- ITS FALSE NEIGHBOUR: 'it returns false'. Refute it at one input. -/
def solveAppliesWrong : ChangeSpec := { name := "solveApplies", fn := fun _ => fun
  | [d1, d2, d3] => { results := [.lit (.bool false)], args := [d1, d2, d3] }
  | _ => none }
def SolveAppliesWrongFalsely : Prop := solveAppliesRow.holds Tryd.pinned (OpenSpec.ofChange solveAppliesWrong)

/-- 'weathervanelaw20.SolveGuards': WHATEVER THE INPUT: true; the input reads as it did. -/
def solveGuardsSpec : ChangeSpec := { name := "solveGuards", fn := fun _ => fun
  | [d1, d2] => { results := [.lit (.bool true)], args := [d1, d2] }
  | _ => none }
def solveGuardsRow : OpenClaim := { program := "ytkjbkalakafnlaadoor", sum := "5ee6ce03815107f540041476447ad69903e66ebdedc05ad115d5cd1d946160e9", func := "weathervane/weathervanelaw20.SolveGuards", spec := "solveGuards", inPlace := ["slices.overlaps[weathervane/pile.block]"], unfollowed := true, recurses := true, named := ["math/bits.deBruijn64tab"], apart := false, laid := [("math/bits.deBruijn64tab", laid_math_bits_deBruijn64tab)] }
def SolveGuardsSaid : Prop := solveGuardsRow.holds Tryd.pinned (OpenSpec.ofChange solveGuardsSpec)

/-- ITS FALSE NEIGHBOUR: 'it returns false'. Refute it at one input. -/
def solveGuardsWrong : ChangeSpec := { name := "solveGuards", fn := fun _ => fun
  | [d1, d2] => { results := [.lit (.bool false)], args := [d1, d2] }
  | _ => none }
def SolveGuardsWrongFalsely : Prop := solveGuardsRow.holds Tryd.pinned (OpenSpec.ofChange solveGuardsWrong)

/-- 'weathervanelaw20.SolveExpands': WHATEVER THE INPUT: true; the input reads as it did. -/
def solveExpandsSpec : ChangeSpec := { name := "solveExpands", fn := fun _ => fun
  | [d1, d2] => { results := [.lit (.bool true)], args := [d1, d2] }
  | _ => none }
def solveExpandsRow : OpenClaim := { program := "ytkjbkalakafnlaadoor", sum := "5ee6ce03815107f540041476447ad69903e66ebdedc05ad115d5cd1d946160e9", func := "weathervane/weathervanelaw20.SolveExpands", spec := "solveExpands", inPlace := ["slices.overlaps[weathervane/pile.block]"], unfollowed := true, recurses := true, named := ["math/bits.deBruijn64tab"], apart := false, laid := [("math/bits.deBruijn64tab", laid_math_bits_deBruijn64tab)] }
def SolveExpandsSaid : Prop := solveExpandsRow.holds Tryd.pinned (OpenSpec.ofChange solveExpandsSpec)

/-- ITS FALSE NEIGHBOUR: 'it returns false'. Refute it at one input. -/
def solveExpandsWrong : ChangeSpec := { name := "solveExpands", fn := fun _ => fun
  | [d1, d2] => { results := [.lit (.bool false)], args := [d1, d2] }
  | _ => none }
def SolveExpandsWrongFalsely : Prop := solveExpandsRow.holds Tryd.pinned (OpenSpec.ofChange solveExpandsWrong)

/- THE SECOND FORM. 'bulk': how many values and letters a reading holds, each counted each time it is reached (what is shared counts as often as it is met; a slice's spare places count too). A statement '..UptoSaid' is the law's where the arguments, and the package variables that the reading takes, are together of bulk at most 1048576: NARROWER than '..Said'. Prove '..Said' where nothing that the law and all that it calls make is longer than what came in: it says more and counts as full. Else prove '..UptoSaid'. A law counts once. -/
mutual
def uptoBulk {H : Type} : DataW H → Nat
  | .lit (.string bytes) => bytes.length + 1
  | .lit _ => 1
  | .nil => 1
  | .ptr d => uptoBulk d + 1
  | .slice elems spare => uptoBulkAll elems + uptoBulkAll spare + 1
  | .agg parts => uptoBulkAll parts + 1
  | .iface _ d => uptoBulk d + 1
  | .map entries => uptoBulkEntries entries + 1
  | .held _ => 1
def uptoBulkAll {H : Type} : List (DataW H) → Nat
  | [] => 0
  | d :: r => uptoBulk d + uptoBulkAll r
def uptoBulkEntries {H : Type} : List (Lit × DataW H) → Nat
  | [] => 0
  | x :: r => uptoBulkEntry x + uptoBulkEntries r
def uptoBulkEntry {H : Type} : Lit × DataW H → Nat
  | (.string bytes, d) => bytes.length + uptoBulk d + 1
  | (_, d) => uptoBulk d + 1
 end
def uptoSmall : (H : Type) → List (DataW H) → Bool := fun _ ds => decide (uptoBulkAll ds ≤ 1048576)
def OpenSpec.upto (s : _root_.Go.ChangeSpec) : _root_.Go.OpenSpec := { _root_.Go.OpenSpec.ofChange s with cond := some uptoSmall }

/-- 'weathervanelaw04.GaugeShares', WHERE WHAT IT READS IS OF BULK AT MOST 1048576: true; the input reads as it did. -/
def gaugeSharesUptoRow : OpenClaim := { program := "ytkjbkalakafnlaadoor", sum := "5ee6ce03815107f540041476447ad69903e66ebdedc05ad115d5cd1d946160e9", func := "weathervane/weathervanelaw04.GaugeShares", spec := "gaugeShares", inPlace := ["math.Float64bits", "math.Float64frombits", "math.archTrunc"], named := ["internal/strconv.uint64pow10", "math/bits.deBruijn32tab", "math/bits.deBruijn64tab"], apart := false, laid := [("math/bits.deBruijn32tab", laid_math_bits_deBruijn32tab), ("math/bits.deBruijn64tab", laid_math_bits_deBruijn64tab), ("internal/strconv.uint64pow10", laid_internal_strconv_uint64pow10)], narrowed := true }
def GaugeSharesUptoSaid : Prop := gaugeSharesUptoRow.holds Tryd.pinned (OpenSpec.upto gaugeSharesSpec)

/-- 'weathervanelaw04.GaugeTexts', WHERE WHAT IT READS IS OF BULK AT MOST 1048576: true; the input reads as it did. -/
def gaugeTextsUptoRow : OpenClaim := { program := "ytkjbkalakafnlaadoor", sum := "5ee6ce03815107f540041476447ad69903e66ebdedc05ad115d5cd1d946160e9", func := "weathervane/weathervanelaw04.GaugeTexts", spec := "gaugeTexts", inPlace := ["math.Float64frombits", "math.Float64bits", "math.archTrunc"], recurses := true, named := ["internal/strconv.uint64pow10", "math/bits.deBruijn32tab", "math/bits.deBruijn64tab"], apart := false, laid := [("math/bits.deBruijn32tab", laid_math_bits_deBruijn32tab), ("math/bits.deBruijn64tab", laid_math_bits_deBruijn64tab), ("internal/strconv.uint64pow10", laid_internal_strconv_uint64pow10)], narrowed := true }
def GaugeTextsUptoSaid : Prop := gaugeTextsUptoRow.holds Tryd.pinned (OpenSpec.upto gaugeTextsSpec)

/-- 'weathervanelaw04.GaugeMeans', WHERE WHAT IT READS IS OF BULK AT MOST 1048576: true; the input reads as it did. -/
def gaugeMeansUptoRow : OpenClaim := { program := "ytkjbkalakafnlaadoor", sum := "5ee6ce03815107f540041476447ad69903e66ebdedc05ad115d5cd1d946160e9", func := "weathervane/weathervanelaw04.GaugeMeans", spec := "gaugeMeans", inPlace := ["math.Float64bits", "math.Float64frombits", "math.archTrunc"], named := ["internal/strconv.uint64pow10", "math/bits.deBruijn32tab", "math/bits.deBruijn64tab"], apart := false, laid := [("math/bits.deBruijn32tab", laid_math_bits_deBruijn32tab), ("math/bits.deBruijn64tab", laid_math_bits_deBruijn64tab), ("internal/strconv.uint64pow10", laid_internal_strconv_uint64pow10)], narrowed := true }
def GaugeMeansUptoSaid : Prop := gaugeMeansUptoRow.holds Tryd.pinned (OpenSpec.upto gaugeMeansSpec)

/-- 'weathervanelaw04.GaugeBest', WHERE WHAT IT READS IS OF BULK AT MOST 1048576: true; the input reads as it did. -/
def gaugeBestUptoRow : OpenClaim := { program := "ytkjbkalakafnlaadoor", sum := "5ee6ce03815107f540041476447ad69903e66ebdedc05ad115d5cd1d946160e9", func := "weathervane/weathervanelaw04.GaugeBest", spec := "gaugeBest", inPlace := ["math.Float64bits", "math.Float64frombits", "math.archTrunc"], named := ["internal/strconv.uint64pow10", "math/bits.deBruijn32tab", "math/bits.deBruijn64tab"], apart := false, laid := [("math/bits.deBruijn32tab", laid_math_bits_deBruijn32tab), ("math/bits.deBruijn64tab", laid_math_bits_deBruijn64tab), ("internal/strconv.uint64pow10", laid_internal_strconv_uint64pow10)], narrowed := true }
def GaugeBestUptoSaid : Prop := gaugeBestUptoRow.holds Tryd.pinned (OpenSpec.upto gaugeBestSpec)

/-- 'weathervanelaw04.GaugeOrders', WHERE WHAT IT READS IS OF BULK AT MOST 1048576: true; the input reads as it did. -/
def gaugeOrdersUptoRow : OpenClaim := { program := "ytkjbkalakafnlaadoor", sum := "5ee6ce03815107f540041476447ad69903e66ebdedc05ad115d5cd1d946160e9", func := "weathervane/weathervanelaw04.GaugeOrders", spec := "gaugeOrders", inPlace := ["math.Float64frombits", "math.Float64bits", "math.archTrunc"], named := ["internal/strconv.uint64pow10", "math/bits.deBruijn32tab", "math/bits.deBruijn64tab"], apart := false, laid := [("math/bits.deBruijn32tab", laid_math_bits_deBruijn32tab), ("math/bits.deBruijn64tab", laid_math_bits_deBruijn64tab), ("internal/strconv.uint64pow10", laid_internal_strconv_uint64pow10)], narrowed := true }
def GaugeOrdersUptoSaid : Prop := gaugeOrdersUptoRow.holds Tryd.pinned (OpenSpec.upto gaugeOrdersSpec)

/-- 'weathervanelaw04.GaugeSame', WHERE WHAT IT READS IS OF BULK AT MOST 1048576: true; the input reads as it did. -/
def gaugeSameUptoRow : OpenClaim := { program := "ytkjbkalakafnlaadoor", sum := "5ee6ce03815107f540041476447ad69903e66ebdedc05ad115d5cd1d946160e9", func := "weathervane/weathervanelaw04.GaugeSame", spec := "gaugeSame", inPlace := ["math.Float64bits", "math.Float64frombits", "math.archTrunc"], named := ["internal/strconv.uint64pow10", "math/bits.deBruijn32tab", "math/bits.deBruijn64tab"], apart := false, laid := [("math/bits.deBruijn32tab", laid_math_bits_deBruijn32tab), ("math/bits.deBruijn64tab", laid_math_bits_deBruijn64tab), ("internal/strconv.uint64pow10", laid_internal_strconv_uint64pow10)], narrowed := true }
def GaugeSameUptoSaid : Prop := gaugeSameUptoRow.holds Tryd.pinned (OpenSpec.upto gaugeSameSpec)

/-- 'weathervanelaw04.GaugeSigns', WHERE WHAT IT READS IS OF BULK AT MOST 1048576: true; the input reads as it did. -/
def gaugeSignsUptoRow : OpenClaim := { program := "ytkjbkalakafnlaadoor", sum := "5ee6ce03815107f540041476447ad69903e66ebdedc05ad115d5cd1d946160e9", func := "weathervane/weathervanelaw04.GaugeSigns", spec := "gaugeSigns", inPlace := ["math.Float64bits", "math.Float64frombits", "math.archTrunc"], named := ["internal/strconv.uint64pow10", "math/bits.deBruijn32tab", "math/bits.deBruijn64tab"], apart := false, laid := [("math/bits.deBruijn32tab", laid_math_bits_deBruijn32tab), ("math/bits.deBruijn64tab", laid_math_bits_deBruijn64tab), ("internal/strconv.uint64pow10", laid_internal_strconv_uint64pow10)], narrowed := true }
def GaugeSignsUptoSaid : Prop := gaugeSignsUptoRow.holds Tryd.pinned (OpenSpec.upto gaugeSignsSpec)

/-- 'weathervanelaw20.SolveLeast', WHERE WHAT IT READS IS OF BULK AT MOST 1048576: true; the input reads as it did. -/
def solveLeastUptoRow : OpenClaim := { program := "ytkjbkalakafnlaadoor", sum := "5ee6ce03815107f540041476447ad69903e66ebdedc05ad115d5cd1d946160e9", func := "weathervane/weathervanelaw20.SolveLeast", spec := "solveLeast", inPlace := ["slices.overlaps[weathervane/pile.block]"], unfollowed := true, recurses := true, named := ["math/bits.deBruijn64tab"], apart := false, laid := [("math/bits.deBruijn64tab", laid_math_bits_deBruijn64tab)], narrowed := true }
def SolveLeastUptoSaid : Prop := solveLeastUptoRow.holds Tryd.pinned (OpenSpec.upto solveLeastSpec)

/-- 'weathervanelaw20.SolveOrders', WHERE WHAT IT READS IS OF BULK AT MOST 1048576: true; the input reads as it did. -/
def solveOrdersUptoRow : OpenClaim := { program := "ytkjbkalakafnlaadoor", sum := "5ee6ce03815107f540041476447ad69903e66ebdedc05ad115d5cd1d946160e9", func := "weathervane/weathervanelaw20.SolveOrders", spec := "solveOrders", inPlace := ["slices.overlaps[weathervane/pile.block]"], unfollowed := true, recurses := true, named := ["math/bits.deBruijn64tab"], apart := false, laid := [("math/bits.deBruijn64tab", laid_math_bits_deBruijn64tab)], narrowed := true }
def SolveOrdersUptoSaid : Prop := solveOrdersUptoRow.holds Tryd.pinned (OpenSpec.upto solveOrdersSpec)

/-- 'weathervanelaw20.SolveGrows', WHERE WHAT IT READS IS OF BULK AT MOST 1048576: true; the input reads as it did. -/
def solveGrowsUptoRow : OpenClaim := { program := "ytkjbkalakafnlaadoor", sum := "5ee6ce03815107f540041476447ad69903e66ebdedc05ad115d5cd1d946160e9", func := "weathervane/weathervanelaw20.SolveGrows", spec := "solveGrows", inPlace := ["slices.overlaps[weathervane/pile.block]"], unfollowed := true, recurses := true, named := ["math/bits.deBruijn64tab"], apart := false, laid := [("math/bits.deBruijn64tab", laid_math_bits_deBruijn64tab)], narrowed := true }
def SolveGrowsUptoSaid : Prop := solveGrowsUptoRow.holds Tryd.pinned (OpenSpec.upto solveGrowsSpec)

/-- 'weathervanelaw20.SolveRaw', WHERE WHAT IT READS IS OF BULK AT MOST 1048576: true; the input reads as it did. -/
def solveRawUptoRow : OpenClaim := { program := "ytkjbkalakafnlaadoor", sum := "5ee6ce03815107f540041476447ad69903e66ebdedc05ad115d5cd1d946160e9", func := "weathervane/weathervanelaw20.SolveRaw", spec := "solveRaw", inPlace := ["slices.overlaps[weathervane/pile.block]"], unfollowed := true, recurses := true, named := ["math/bits.deBruijn64tab"], apart := false, laid := [("math/bits.deBruijn64tab", laid_math_bits_deBruijn64tab)], narrowed := true }
def SolveRawUptoSaid : Prop := solveRawUptoRow.holds Tryd.pinned (OpenSpec.upto solveRawSpec)

/-- 'weathervanelaw20.SolveChain', WHERE WHAT IT READS IS OF BULK AT MOST 1048576: true; the input reads as it did. -/
def solveChainUptoRow : OpenClaim := { program := "ytkjbkalakafnlaadoor", sum := "5ee6ce03815107f540041476447ad69903e66ebdedc05ad115d5cd1d946160e9", func := "weathervane/weathervanelaw20.SolveChain", spec := "solveChain", inPlace := ["slices.overlaps[weathervane/pile.block]"], unfollowed := true, recurses := true, named := ["math/bits.deBruijn64tab"], apart := false, laid := [("math/bits.deBruijn64tab", laid_math_bits_deBruijn64tab)], narrowed := true }
def SolveChainUptoSaid : Prop := solveChainUptoRow.holds Tryd.pinned (OpenSpec.upto solveChainSpec)

/-- 'weathervanelaw20.SolveApplies', WHERE WHAT IT READS IS OF BULK AT MOST 1048576: true; the input reads as it did. -/
def solveAppliesUptoRow : OpenClaim := { program := "ytkjbkalakafnlaadoor", sum := "5ee6ce03815107f540041476447ad69903e66ebdedc05ad115d5cd1d946160e9", func := "weathervane/weathervanelaw20.SolveApplies", spec := "solveApplies", inPlace := ["slices.overlaps[weathervane/pile.block]"], unfollowed := true, recurses := true, named := ["math/bits.deBruijn64tab"], apart := false, laid := [("math/bits.deBruijn64tab", laid_math_bits_deBruijn64tab)], narrowed := true }
def SolveAppliesUptoSaid : Prop := solveAppliesUptoRow.holds Tryd.pinned (OpenSpec.upto solveAppliesSpec)

/-- 'weathervanelaw20.SolveGuards', WHERE WHAT IT READS IS OF BULK AT MOST 1048576: true; the input reads as it did. -/
def solveGuardsUptoRow : OpenClaim := { program := "ytkjbkalakafnlaadoor", sum := "5ee6ce03815107f540041476447ad69903e66ebdedc05ad115d5cd1d946160e9", func := "weathervane/weathervanelaw20.SolveGuards", spec := "solveGuards", inPlace := ["slices.overlaps[weathervane/pile.block]"], unfollowed := true, recurses := true, named := ["math/bits.deBruijn64tab"], apart := false, laid := [("math/bits.deBruijn64tab", laid_math_bits_deBruijn64tab)], narrowed := true }
def SolveGuardsUptoSaid : Prop := solveGuardsUptoRow.holds Tryd.pinned (OpenSpec.upto solveGuardsSpec)

/-- 'weathervanelaw20.SolveExpands', WHERE WHAT IT READS IS OF BULK AT MOST 1048576: true; the input reads as it did. -/
def solveExpandsUptoRow : OpenClaim := { program := "ytkjbkalakafnlaadoor", sum := "5ee6ce03815107f540041476447ad69903e66ebdedc05ad115d5cd1d946160e9", func := "weathervane/weathervanelaw20.SolveExpands", spec := "solveExpands", inPlace := ["slices.overlaps[weathervane/pile.block]"], unfollowed := true, recurses := true, named := ["math/bits.deBruijn64tab"], apart := false, laid := [("math/bits.deBruijn64tab", laid_math_bits_deBruijn64tab)], narrowed := true }
def SolveExpandsUptoSaid : Prop := solveExpandsUptoRow.holds Tryd.pinned (OpenSpec.upto solveExpandsSpec)

end Rows
end Go.Proofs.YtkjbkalakafnlaaDoor
