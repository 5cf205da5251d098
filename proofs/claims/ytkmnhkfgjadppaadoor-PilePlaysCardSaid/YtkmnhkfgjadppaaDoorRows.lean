/-
  NARROWER THAN 'FOR EVERY INPUT', by the rows' own cells (each row's printed sentence says how): PileKeys: laid · PileNumbers: laid · PileRows: laid · PileJoins: laid · PileLess: laid · PilePlays: laid · PileNil: laid · SolveLeast: laid.
  DERIVED. THE GIVEN ROWS OF THIS SEAT. 8 by the template 'for every input the law returns true; each argument reads behind the call as it read before'; 0 by the template 'total and deterministic' (their statements: YtkmnhkfgjadppaaDoorTotals.lean).
  GIVEN WITH THE SEED: the statements are not yours to turn. If you find one false, say at which input.
  Laid BY PROGRAM, IN A SANDBOX (cutbox-rows.mjs): the forced cells as the released guide's own fill.sh prints them over the translation 2b0f21d02415d129… (all of the seat's roots in one cut). By AI agents, Wed Nov 11 2026. No macro, syntax, notation, axiom, sorry.
-/
import Derived.Test.YtkmnhkfgjadppaaDoorChecked
import GoSem.Claim
import GoSem.ClaimJoined
import GoSem.ClaimMapViews
import Derived.JoinedTies
import Derived.KernelRfl
namespace Go.Proofs.YtkmnhkfgjadppaaDoor
/- THE CELL 'sum', in the pinned program and in every row, IS THE sha256 OF THE DUMP (.gsa) THAT YtkmnhkfgjadppaaDoorProg.lean LOADS. Nothing in Lean hashes anything: it is a label: what it is worth is what the hold of that sum in a sandbox is worth. -/
noncomputable def Tryd.pinned : Pinned := { name := "ytkmnhkfgjadppaadoor", sum := "2b0f21d02415d12949fe96a426f581f1d9a48d80b75a775c607f675ea0c67129", checked := Tryd.checked }
namespace Rows
def none {H : Type} : Left H := { results := [], args := [] }

/- WHAT THE LISTED PACKAGE-LEVEL VARIABLES READ AS WHEN THE CALL BEGINS. Each datum BY PROGRAM (the guide's laid-datum.mjs) off the statement by which the dump's own 'gosem.cut.vars' lays the variable. In a bare row this is a premise. The card (YtkmnhkfgjadppaaDoorCards.lean) ties it to the program's text. -/
def laid_math_bits_deBruijn64tab {H : Type} : DataW H := .agg [.lit (.int .u8 0), .lit (.int .u8 1), .lit (.int .u8 56), .lit (.int .u8 2), .lit (.int .u8 57), .lit (.int .u8 49), .lit (.int .u8 28), .lit (.int .u8 3), .lit (.int .u8 61), .lit (.int .u8 58), .lit (.int .u8 42), .lit (.int .u8 50), .lit (.int .u8 38), .lit (.int .u8 29), .lit (.int .u8 17), .lit (.int .u8 4), .lit (.int .u8 62), .lit (.int .u8 47), .lit (.int .u8 59), .lit (.int .u8 36), .lit (.int .u8 45), .lit (.int .u8 43), .lit (.int .u8 51), .lit (.int .u8 22), .lit (.int .u8 53), .lit (.int .u8 39), .lit (.int .u8 33), .lit (.int .u8 30), .lit (.int .u8 24), .lit (.int .u8 18), .lit (.int .u8 12), .lit (.int .u8 5), .lit (.int .u8 63), .lit (.int .u8 55), .lit (.int .u8 48), .lit (.int .u8 27), .lit (.int .u8 60), .lit (.int .u8 41), .lit (.int .u8 37), .lit (.int .u8 16), .lit (.int .u8 46), .lit (.int .u8 35), .lit (.int .u8 44), .lit (.int .u8 21), .lit (.int .u8 52), .lit (.int .u8 32), .lit (.int .u8 23), .lit (.int .u8 11), .lit (.int .u8 54), .lit (.int .u8 26), .lit (.int .u8 40), .lit (.int .u8 15), .lit (.int .u8 34), .lit (.int .u8 20), .lit (.int .u8 31), .lit (.int .u8 10), .lit (.int .u8 25), .lit (.int .u8 14), .lit (.int .u8 19), .lit (.int .u8 9), .lit (.int .u8 13), .lit (.int .u8 8), .lit (.int .u8 7), .lit (.int .u8 6)]

/-- 'weathervanelaw03.PileKeys': WHATEVER THE INPUT: true; the input reads as it did. -/
def pileKeysSpec : ChangeSpec := { name := "pileKeys", fn := fun _ => fun
  | [d1, d2, d3] => { results := [.lit (.bool true)], args := [d1, d2, d3] }
  | _ => none }
def pileKeysRow : OpenClaim := { program := "ytkmnhkfgjadppaadoor", sum := "2b0f21d02415d12949fe96a426f581f1d9a48d80b75a775c607f675ea0c67129", func := "weathervane/weathervanelaw03.PileKeys", spec := "pileKeys", inPlace := ["slices.overlaps[weathervane/pile.block]"], unfollowed := true, recurses := true, named := ["math/bits.deBruijn64tab"], apart := false, laid := [("math/bits.deBruijn64tab", laid_math_bits_deBruijn64tab)] }
def PileKeysSaid : Prop := pileKeysRow.holds Tryd.pinned (OpenSpec.ofChange pileKeysSpec)

/-- ITS FALSE NEIGHBOUR: 'it returns false'. Refute it at one input. -/
def pileKeysWrong : ChangeSpec := { name := "pileKeys", fn := fun _ => fun
  | [d1, d2, d3] => { results := [.lit (.bool false)], args := [d1, d2, d3] }
  | _ => none }
def PileKeysWrongFalsely : Prop := pileKeysRow.holds Tryd.pinned (OpenSpec.ofChange pileKeysWrong)

/-- 'weathervanelaw03.PileNumbers': WHATEVER THE INPUT: true; the input reads as it did. -/
def pileNumbersSpec : ChangeSpec := { name := "pileNumbers", fn := fun _ => fun
  | [d] => { results := [.lit (.bool true)], args := [d] }
  | _ => none }
def pileNumbersRow : OpenClaim := { program := "ytkmnhkfgjadppaadoor", sum := "2b0f21d02415d12949fe96a426f581f1d9a48d80b75a775c607f675ea0c67129", func := "weathervane/weathervanelaw03.PileNumbers", spec := "pileNumbers", inPlace := ["slices.overlaps[weathervane/pile.block]"], unfollowed := true, recurses := true, named := ["math/bits.deBruijn64tab"], apart := false, laid := [("math/bits.deBruijn64tab", laid_math_bits_deBruijn64tab)] }
def PileNumbersSaid : Prop := pileNumbersRow.holds Tryd.pinned (OpenSpec.ofChange pileNumbersSpec)

/-- ITS FALSE NEIGHBOUR: 'it returns false'. Refute it at one input. -/
def pileNumbersWrong : ChangeSpec := { name := "pileNumbers", fn := fun _ => fun
  | [d] => { results := [.lit (.bool false)], args := [d] }
  | _ => none }
def PileNumbersWrongFalsely : Prop := pileNumbersRow.holds Tryd.pinned (OpenSpec.ofChange pileNumbersWrong)

/-- 'weathervanelaw03.PileRows': WHATEVER THE INPUT: true; the input reads as it did. -/
def pileRowsSpec : ChangeSpec := { name := "pileRows", fn := fun _ => fun
  | [d1, d2] => { results := [.lit (.bool true)], args := [d1, d2] }
  | _ => none }
def pileRowsRow : OpenClaim := { program := "ytkmnhkfgjadppaadoor", sum := "2b0f21d02415d12949fe96a426f581f1d9a48d80b75a775c607f675ea0c67129", func := "weathervane/weathervanelaw03.PileRows", spec := "pileRows", inPlace := ["slices.overlaps[weathervane/pile.block]"], unfollowed := true, recurses := true, named := ["math/bits.deBruijn64tab"], apart := false, laid := [("math/bits.deBruijn64tab", laid_math_bits_deBruijn64tab)] }
def PileRowsSaid : Prop := pileRowsRow.holds Tryd.pinned (OpenSpec.ofChange pileRowsSpec)

/-- ITS FALSE NEIGHBOUR: 'it returns false'. Refute it at one input. -/
def pileRowsWrong : ChangeSpec := { name := "pileRows", fn := fun _ => fun
  | [d1, d2] => { results := [.lit (.bool false)], args := [d1, d2] }
  | _ => none }
def PileRowsWrongFalsely : Prop := pileRowsRow.holds Tryd.pinned (OpenSpec.ofChange pileRowsWrong)

/-- 'weathervanelaw03.PileJoins': WHATEVER THE INPUT: true; the input reads as it did. -/
def pileJoinsSpec : ChangeSpec := { name := "pileJoins", fn := fun _ => fun
  | [d1, d2] => { results := [.lit (.bool true)], args := [d1, d2] }
  | _ => none }
def pileJoinsRow : OpenClaim := { program := "ytkmnhkfgjadppaadoor", sum := "2b0f21d02415d12949fe96a426f581f1d9a48d80b75a775c607f675ea0c67129", func := "weathervane/weathervanelaw03.PileJoins", spec := "pileJoins", inPlace := ["slices.overlaps[weathervane/pile.block]"], unfollowed := true, recurses := true, named := ["math/bits.deBruijn64tab"], apart := false, laid := [("math/bits.deBruijn64tab", laid_math_bits_deBruijn64tab)] }
def PileJoinsSaid : Prop := pileJoinsRow.holds Tryd.pinned (OpenSpec.ofChange pileJoinsSpec)

/-- ITS FALSE NEIGHBOUR: 'it returns false'. Refute it at one input. -/
def pileJoinsWrong : ChangeSpec := { name := "pileJoins", fn := fun _ => fun
  | [d1, d2] => { results := [.lit (.bool false)], args := [d1, d2] }
  | _ => none }
def PileJoinsWrongFalsely : Prop := pileJoinsRow.holds Tryd.pinned (OpenSpec.ofChange pileJoinsWrong)

/-- 'weathervanelaw03.PileLess': WHATEVER THE INPUT: true; the input reads as it did. -/
def pileLessSpec : ChangeSpec := { name := "pileLess", fn := fun _ => fun
  | [d1, d2] => { results := [.lit (.bool true)], args := [d1, d2] }
  | _ => none }
def pileLessRow : OpenClaim := { program := "ytkmnhkfgjadppaadoor", sum := "2b0f21d02415d12949fe96a426f581f1d9a48d80b75a775c607f675ea0c67129", func := "weathervane/weathervanelaw03.PileLess", spec := "pileLess", inPlace := ["slices.overlaps[weathervane/pile.block]"], unfollowed := true, recurses := true, named := ["math/bits.deBruijn64tab"], apart := false, laid := [("math/bits.deBruijn64tab", laid_math_bits_deBruijn64tab)] }
def PileLessSaid : Prop := pileLessRow.holds Tryd.pinned (OpenSpec.ofChange pileLessSpec)

/-- ITS FALSE NEIGHBOUR: 'it returns false'. Refute it at one input. -/
def pileLessWrong : ChangeSpec := { name := "pileLess", fn := fun _ => fun
  | [d1, d2] => { results := [.lit (.bool false)], args := [d1, d2] }
  | _ => none }
def PileLessWrongFalsely : Prop := pileLessRow.holds Tryd.pinned (OpenSpec.ofChange pileLessWrong)

/-- 'weathervanelaw03.PilePlays': WHATEVER THE INPUT: true; the input reads as it did. -/
def pilePlaysSpec : ChangeSpec := { name := "pilePlays", fn := fun _ => fun
  | [d] => { results := [.lit (.bool true)], args := [d] }
  | _ => none }
def pilePlaysRow : OpenClaim := { program := "ytkmnhkfgjadppaadoor", sum := "2b0f21d02415d12949fe96a426f581f1d9a48d80b75a775c607f675ea0c67129", func := "weathervane/weathervanelaw03.PilePlays", spec := "pilePlays", inPlace := ["slices.overlaps[weathervane/pile.block]"], unfollowed := true, recurses := true, named := ["math/bits.deBruijn64tab"], apart := false, laid := [("math/bits.deBruijn64tab", laid_math_bits_deBruijn64tab)] }
def PilePlaysSaid : Prop := pilePlaysRow.holds Tryd.pinned (OpenSpec.ofChange pilePlaysSpec)

/-- ITS FALSE NEIGHBOUR: 'it returns false'. Refute it at one input. -/
def pilePlaysWrong : ChangeSpec := { name := "pilePlays", fn := fun _ => fun
  | [d] => { results := [.lit (.bool false)], args := [d] }
  | _ => none }
def PilePlaysWrongFalsely : Prop := pilePlaysRow.holds Tryd.pinned (OpenSpec.ofChange pilePlaysWrong)

/-- 'weathervanelaw03.PileNil': WHATEVER THE INPUT: true; the input reads as it did. -/
def pileNilSpec : ChangeSpec := { name := "pileNil", fn := fun _ => fun
  | [d1, d2] => { results := [.lit (.bool true)], args := [d1, d2] }
  | _ => none }
def pileNilRow : OpenClaim := { program := "ytkmnhkfgjadppaadoor", sum := "2b0f21d02415d12949fe96a426f581f1d9a48d80b75a775c607f675ea0c67129", func := "weathervane/weathervanelaw03.PileNil", spec := "pileNil", inPlace := ["slices.overlaps[weathervane/pile.block]"], unfollowed := true, recurses := true, named := ["math/bits.deBruijn64tab"], apart := false, laid := [("math/bits.deBruijn64tab", laid_math_bits_deBruijn64tab)] }
def PileNilSaid : Prop := pileNilRow.holds Tryd.pinned (OpenSpec.ofChange pileNilSpec)

/-- ITS FALSE NEIGHBOUR: 'it returns false'. Refute it at one input. -/
def pileNilWrong : ChangeSpec := { name := "pileNil", fn := fun _ => fun
  | [d1, d2] => { results := [.lit (.bool false)], args := [d1, d2] }
  | _ => none }
def PileNilWrongFalsely : Prop := pileNilRow.holds Tryd.pinned (OpenSpec.ofChange pileNilWrong)

/-- 'weathervanelaw20.SolveLeast': WHATEVER THE INPUT: true; the input reads as it did. -/
def solveLeastSpec : ChangeSpec := { name := "solveLeast", fn := fun _ => fun
  | [d] => { results := [.lit (.bool true)], args := [d] }
  | _ => none }
def solveLeastRow : OpenClaim := { program := "ytkmnhkfgjadppaadoor", sum := "2b0f21d02415d12949fe96a426f581f1d9a48d80b75a775c607f675ea0c67129", func := "weathervane/weathervanelaw20.SolveLeast", spec := "solveLeast", inPlace := ["slices.overlaps[weathervane/pile.block]"], unfollowed := true, recurses := true, named := ["math/bits.deBruijn64tab"], apart := false, laid := [("math/bits.deBruijn64tab", laid_math_bits_deBruijn64tab)] }
def SolveLeastSaid : Prop := solveLeastRow.holds Tryd.pinned (OpenSpec.ofChange solveLeastSpec)

/-- ITS FALSE NEIGHBOUR: 'it returns false'. Refute it at one input. -/
def solveLeastWrong : ChangeSpec := { name := "solveLeast", fn := fun _ => fun
  | [d] => { results := [.lit (.bool false)], args := [d] }
  | _ => none }
def SolveLeastWrongFalsely : Prop := solveLeastRow.holds Tryd.pinned (OpenSpec.ofChange solveLeastWrong)

/- THE SECOND FORM. 'bulk': how many values and letters a reading holds, each counted each time it is reached (what is shared counts as often as it is met; a slice's spare places count too). A statement '..UptoSaid' is the law's where the arguments, and the package variables that the reading takes, are together of bulk at most 1048576: NARROWER than '..Said'. Prove '..Said' where nothing that the law and all that it calls make is longer than what came in: it says more and counts as full. Else prove '..UptoSaid'. A law counts once. -/
mutual
def uptoBulk {H : Type} : DataW H → Nat
  | .lit (.string bytes) => bytes.length + 1
  | .lit _ => 1
  | .nil => 1
  | .ptr d => uptoBulk d + 1
  | .slice elems spare => uptoBulkAll elems + uptoBulkAll spare + 1
  | .agg parts => uptoBulkAll parts + 1
  | .iface _ d => uptoBulk d + 1
  | .map entries => uptoBulkEntries entries + 1
  | .held _ => 1
def uptoBulkAll {H : Type} : List (DataW H) → Nat
  | [] => 0
  | d :: r => uptoBulk d + uptoBulkAll r
def uptoBulkEntries {H : Type} : List (Lit × DataW H) → Nat
  | [] => 0
  | x :: r => uptoBulkEntry x + uptoBulkEntries r
def uptoBulkEntry {H : Type} : Lit × DataW H → Nat
  | (.string bytes, d) => bytes.length + uptoBulk d + 1
  | (_, d) => uptoBulk d + 1
 end
def uptoSmall : (H : Type) → List (DataW H) → Bool := fun _ ds => decide (uptoBulkAll ds ≤ 1048576)
def OpenSpec.upto (s : _root_.Go.ChangeSpec) : _root_.Go.OpenSpec := { _root_.Go.OpenSpec.ofChange s with cond := some uptoSmall }

/-- 'weathervanelaw03.PileKeys', WHERE WHAT IT READS IS OF BULK AT MOST 1048576: true; the input reads as it did. -/
def pileKeysUptoRow : OpenClaim := { program := "ytkmnhkfgjadppaadoor", sum := "2b0f21d02415d12949fe96a426f581f1d9a48d80b75a775c607f675ea0c67129", func := "weathervane/weathervanelaw03.PileKeys", spec := "pileKeys", inPlace := ["slices.overlaps[weathervane/pile.block]"], unfollowed := true, recurses := true, named := ["math/bits.deBruijn64tab"], apart := false, laid := [("math/bits.deBruijn64tab", laid_math_bits_deBruijn64tab)], narrowed := true }
def PileKeysUptoSaid : Prop := pileKeysUptoRow.holds Tryd.pinned (OpenSpec.upto pileKeysSpec)

/-- 'weathervanelaw03.PileNumbers', WHERE WHAT IT READS IS OF BULK AT MOST 1048576: true; the input reads as it did. -/
def pileNumbersUptoRow : OpenClaim := { program := "ytkmnhkfgjadppaadoor", sum := "2b0f21d02415d12949fe96a426f581f1d9a48d80b75a775c607f675ea0c67129", func := "weathervane/weathervanelaw03.PileNumbers", spec := "pileNumbers", inPlace := ["slices.overlaps[weathervane/pile.block]"], unfollowed := true, recurses := true, named := ["math/bits.deBruijn64tab"], apart := false, laid := [("math/bits.deBruijn64tab", laid_math_bits_deBruijn64tab)], narrowed := true }
def PileNumbersUptoSaid : Prop := pileNumbersUptoRow.holds Tryd.pinned (OpenSpec.upto pileNumbersSpec)

/-- 'weathervanelaw03.PileRows', WHERE WHAT IT READS IS OF BULK AT MOST 1048576: true; the input reads as it did. -/
def pileRowsUptoRow : OpenClaim := { program := "ytkmnhkfgjadppaadoor", sum := "2b0f21d02415d12949fe96a426f581f1d9a48d80b75a775c607f675ea0c67129", func := "weathervane/weathervanelaw03.PileRows", spec := "pileRows", inPlace := ["slices.overlaps[weathervane/pile.block]"], unfollowed := true, recurses := true, named := ["math/bits.deBruijn64tab"], apart := false, laid := [("math/bits.deBruijn64tab", laid_math_bits_deBruijn64tab)], narrowed := true }
def PileRowsUptoSaid : Prop := pileRowsUptoRow.holds Tryd.pinned (OpenSpec.upto pileRowsSpec)

/-- 'weathervanelaw03.PileJoins', WHERE WHAT IT READS IS OF BULK AT MOST 1048576: true; the input reads as it did. -/
def pileJoinsUptoRow : OpenClaim := { program := "ytkmnhkfgjadppaadoor", sum := "2b0f21d02415d12949fe96a426f581f1d9a48d80b75a775c607f675ea0c67129", func := "weathervane/weathervanelaw03.PileJoins", spec := "pileJoins", inPlace := ["slices.overlaps[weathervane/pile.block]"], unfollowed := true, recurses := true, named := ["math/bits.deBruijn64tab"], apart := false, laid := [("math/bits.deBruijn64tab", laid_math_bits_deBruijn64tab)], narrowed := true }
def PileJoinsUptoSaid : Prop := pileJoinsUptoRow.holds Tryd.pinned (OpenSpec.upto pileJoinsSpec)

/-- 'weathervanelaw03.PileLess', WHERE WHAT IT READS IS OF BULK AT MOST 1048576: true; the input reads as it did. -/
def pileLessUptoRow : OpenClaim := { program := "ytkmnhkfgjadppaadoor", sum := "2b0f21d02415d12949fe96a426f581f1d9a48d80b75a775c607f675ea0c67129", func := "weathervane/weathervanelaw03.PileLess", spec := "pileLess", inPlace := ["slices.overlaps[weathervane/pile.block]"], unfollowed := true, recurses := true, named := ["math/bits.deBruijn64tab"], apart := false, laid := [("math/bits.deBruijn64tab", laid_math_bits_deBruijn64tab)], narrowed := true }
def PileLessUptoSaid : Prop := pileLessUptoRow.holds Tryd.pinned (OpenSpec.upto pileLessSpec)

/-- 'weathervanelaw03.PilePlays', WHERE WHAT IT READS IS OF BULK AT MOST 1048576: true; the input reads as it did. -/
def pilePlaysUptoRow : OpenClaim := { program := "ytkmnhkfgjadppaadoor", sum := "2b0f21d02415d12949fe96a426f581f1d9a48d80b75a775c607f675ea0c67129", func := "weathervane/weathervanelaw03.PilePlays", spec := "pilePlays", inPlace := ["slices.overlaps[weathervane/pile.block]"], unfollowed := true, recurses := true, named := ["math/bits.deBruijn64tab"], apart := false, laid := [("math/bits.deBruijn64tab", laid_math_bits_deBruijn64tab)], narrowed := true }
def PilePlaysUptoSaid : Prop := pilePlaysUptoRow.holds Tryd.pinned (OpenSpec.upto pilePlaysSpec)

/-- 'weathervanelaw03.PileNil', WHERE WHAT IT READS IS OF BULK AT MOST 1048576: true; the input reads as it did. -/
def pileNilUptoRow : OpenClaim := { program := "ytkmnhkfgjadppaadoor", sum := "2b0f21d02415d12949fe96a426f581f1d9a48d80b75a775c607f675ea0c67129", func := "weathervane/weathervanelaw03.PileNil", spec := "pileNil", inPlace := ["slices.overlaps[weathervane/pile.block]"], unfollowed := true, recurses := true, named := ["math/bits.deBruijn64tab"], apart := false, laid := [("math/bits.deBruijn64tab", laid_math_bits_deBruijn64tab)], narrowed := true }
def PileNilUptoSaid : Prop := pileNilUptoRow.holds Tryd.pinned (OpenSpec.upto pileNilSpec)

/-- 'weathervanelaw20.SolveLeast', WHERE WHAT IT READS IS OF BULK AT MOST 1048576: true; the input reads as it did. -/
def solveLeastUptoRow : OpenClaim := { program := "ytkmnhkfgjadppaadoor", sum := "2b0f21d02415d12949fe96a426f581f1d9a48d80b75a775c607f675ea0c67129", func := "weathervane/weathervanelaw20.SolveLeast", spec := "solveLeast", inPlace := ["slices.overlaps[weathervane/pile.block]"], unfollowed := true, recurses := true, named := ["math/bits.deBruijn64tab"], apart := false, laid := [("math/bits.deBruijn64tab", laid_math_bits_deBruijn64tab)], narrowed := true }
def SolveLeastUptoSaid : Prop := solveLeastUptoRow.holds Tryd.pinned (OpenSpec.upto solveLeastSpec)

end Rows
end Go.Proofs.YtkmnhkfgjadppaaDoor
