/-
  NARROWER THAN 'FOR EVERY INPUT', by the rows' own cells (each row's printed sentence says how): TopGone: laid · TopBound: laid · TopOne: laid · TopLeast: laid.
  DERIVED. THE GIVEN ROWS OF THIS SEAT. 4 by the template 'for every input the law returns true; each argument reads behind the call as it read before'; 0 by the template 'total and deterministic' (their statements: YtghmdfegfehhkaaGreatDoorTotals.lean).
  GIVEN WITH THE SEED: the statements are not yours to turn. If you find one false, say at which input.
  Laid BY PROGRAM, IN A SANDBOX (cutbox-rows.mjs): the forced cells as the released guide's own fill.sh prints them over the translation 972c8e0d458af844… (all of the seat's roots in one cut). By AI agents, Wed Nov 11 2026. No macro, syntax, notation, axiom, sorry.
-/
import Derived.Test.YtghmdfegfehhkaaGreatDoorChecked
import GoSem.Claim
import GoSem.ClaimJoined
import GoSem.ClaimMapViews
import Derived.JoinedTies
import Derived.KernelRfl
namespace Go.Proofs.YtghmdfegfehhkaaGreatDoor
/- THE CELL 'sum', in the pinned program and in every row, IS THE sha256 OF THE DUMP (.gsa) THAT YtghmdfegfehhkaaGreatDoorProg.lean LOADS. Nothing in Lean hashes anything: it is a label: what it is worth is what the hold of that sum in a sandbox is worth. -/
noncomputable def Tryz.pinned : Pinned := { name := "ytghmdfegfehhkaagreatdoor", sum := "972c8e0d458af84476604925e1775bb873d97c1933cc485fbb7eebf087e49107", checked := Tryz.checked }
namespace Rows
def none {H : Type} : Left H := { results := [], args := [] }

/- WHAT THE LISTED PACKAGE-LEVEL VARIABLES READ AS WHEN THE CALL BEGINS. Each datum BY PROGRAM (the guide's laid-datum.mjs) off the statement by which the dump's own 'gosem.cut.vars' lays the variable. In a bare row this is a premise. The card (YtghmdfegfehhkaaGreatDoorCards.lean) ties it to the program's text. -/
def laid_math_bits_deBruijn64tab {H : Type} : DataW H := .agg [.lit (.int .u8 0), .lit (.int .u8 1), .lit (.int .u8 56), .lit (.int .u8 2), .lit (.int .u8 57), .lit (.int .u8 49), .lit (.int .u8 28), .lit (.int .u8 3), .lit (.int .u8 61), .lit (.int .u8 58), .lit (.int .u8 42), .lit (.int .u8 50), .lit (.int .u8 38), .lit (.int .u8 29), .lit (.int .u8 17), .lit (.int .u8 4), .lit (.int .u8 62), .lit (.int .u8 47), .lit (.int .u8 59), .lit (.int .u8 36), .lit (.int .u8 45), .lit (.int .u8 43), .lit (.int .u8 51), .lit (.int .u8 22), .lit (.int .u8 53), .lit (.int .u8 39), .lit (.int .u8 33), .lit (.int .u8 30), .lit (.int .u8 24), .lit (.int .u8 18), .lit (.int .u8 12), .lit (.int .u8 5), .lit (.int .u8 63), .lit (.int .u8 55), .lit (.int .u8 48), .lit (.int .u8 27), .lit (.int .u8 60), .lit (.int .u8 41), .lit (.int .u8 37), .lit (.int .u8 16), .lit (.int .u8 46), .lit (.int .u8 35), .lit (.int .u8 44), .lit (.int .u8 21), .lit (.int .u8 52), .lit (.int .u8 32), .lit (.int .u8 23), .lit (.int .u8 11), .lit (.int .u8 54), .lit (.int .u8 26), .lit (.int .u8 40), .lit (.int .u8 15), .lit (.int .u8 34), .lit (.int .u8 20), .lit (.int .u8 31), .lit (.int .u8 10), .lit (.int .u8 25), .lit (.int .u8 14), .lit (.int .u8 19), .lit (.int .u8 9), .lit (.int .u8 13), .lit (.int .u8 8), .lit (.int .u8 7), .lit (.int .u8 6)]
def laid_weathervane_sum_lines {H : Type} : DataW H := .agg [.lit (.int .u32 0), .lit (.int .u32 79764919), .lit (.int .u32 159529838), .lit (.int .u32 222504665), .lit (.int .u32 319059676), .lit (.int .u32 398814059), .lit (.int .u32 445009330), .lit (.int .u32 507990021), .lit (.int .u32 638119352), .lit (.int .u32 583659535), .lit (.int .u32 797628118), .lit (.int .u32 726387553), .lit (.int .u32 890018660), .lit (.int .u32 835552979), .lit (.int .u32 1015980042), .lit (.int .u32 944750013)]

/-- 'weathervanetop.TopGone': WHATEVER THE INPUT: true; the input reads as it did. -/
def topGoneSpec : ChangeSpec := { name := "topGone", fn := fun _ => fun
  | [d1, d2] => { results := [.lit (.bool true)], args := [d1, d2] }
  | _ => none }
def topGoneRow : OpenClaim := { program := "ytghmdfegfehhkaagreatdoor", sum := "972c8e0d458af84476604925e1775bb873d97c1933cc485fbb7eebf087e49107", func := "weathervane/weathervanetop.TopGone", spec := "topGone", inPlace := ["internal/bytealg.IndexByteString", "internal/bytealg.IndexString", "slices.overlaps[weathervane/pile.block]"], unfollowed := true, recurses := true, named := ["internal/bytealg.MaxLen", "weathervane/sum.lines", "math/bits.deBruijn64tab"], apart := false, laid := [("math/bits.deBruijn64tab", laid_math_bits_deBruijn64tab), ("weathervane/sum.lines", laid_weathervane_sum_lines)] }
def TopGoneSaid : Prop := topGoneRow.holds Tryz.pinned (OpenSpec.ofChange topGoneSpec)

/-- ITS FALSE NEIGHBOUR: 'it returns false'. Refute it at one input. -/
def topGoneWrong : ChangeSpec := { name := "topGone", fn := fun _ => fun
  | [d1, d2] => { results := [.lit (.bool false)], args := [d1, d2] }
  | _ => none }
def TopGoneWrongFalsely : Prop := topGoneRow.holds Tryz.pinned (OpenSpec.ofChange topGoneWrong)

/-- 'weathervanetop.TopBound': WHATEVER THE INPUT: true; the input reads as it did. -/
def topBoundSpec : ChangeSpec := { name := "topBound", fn := fun _ => fun
  | [d1, d2] => { results := [.lit (.bool true)], args := [d1, d2] }
  | _ => none }
def topBoundRow : OpenClaim := { program := "ytghmdfegfehhkaagreatdoor", sum := "972c8e0d458af84476604925e1775bb873d97c1933cc485fbb7eebf087e49107", func := "weathervane/weathervanetop.TopBound", spec := "topBound", inPlace := ["internal/bytealg.IndexByteString", "internal/bytealg.IndexString", "slices.overlaps[weathervane/pile.block]"], unfollowed := true, recurses := true, named := ["internal/bytealg.MaxLen", "weathervane/sum.lines", "math/bits.deBruijn64tab"], apart := false, laid := [("math/bits.deBruijn64tab", laid_math_bits_deBruijn64tab), ("weathervane/sum.lines", laid_weathervane_sum_lines)] }
def TopBoundSaid : Prop := topBoundRow.holds Tryz.pinned (OpenSpec.ofChange topBoundSpec)

/-- ITS FALSE NEIGHBOUR: 'it returns false'. Refute it at one input. -/
def topBoundWrong : ChangeSpec := { name := "topBound", fn := fun _ => fun
  | [d1, d2] => { results := [.lit (.bool false)], args := [d1, d2] }
  | _ => none }
def TopBoundWrongFalsely : Prop := topBoundRow.holds Tryz.pinned (OpenSpec.ofChange topBoundWrong)

/-- 'weathervanetop.TopOne': WHATEVER THE INPUT: true; the input reads as it did. -/
def topOneSpec : ChangeSpec := { name := "topOne", fn := fun _ => fun
  | [d1, d2, d3] => { results := [.lit (.bool true)], args := [d1, d2, d3] }
  | _ => none }
def topOneRow : OpenClaim := { program := "ytghmdfegfehhkaagreatdoor", sum := "972c8e0d458af84476604925e1775bb873d97c1933cc485fbb7eebf087e49107", func := "weathervane/weathervanetop.TopOne", spec := "topOne", inPlace := ["internal/bytealg.IndexByteString", "internal/bytealg.IndexString", "slices.overlaps[weathervane/pile.block]"], unfollowed := true, recurses := true, named := ["internal/bytealg.MaxLen", "weathervane/sum.lines", "math/bits.deBruijn64tab"], apart := false, laid := [("math/bits.deBruijn64tab", laid_math_bits_deBruijn64tab), ("weathervane/sum.lines", laid_weathervane_sum_lines)] }
def TopOneSaid : Prop := topOneRow.holds Tryz.pinned (OpenSpec.ofChange topOneSpec)

/-- ITS FALSE NEIGHBOUR: 'it returns false'. Refute it at one input. -/
def topOneWrong : ChangeSpec := { name := "topOne", fn := fun _ => fun
  | [d1, d2, d3] => { results := [.lit (.bool false)], args := [d1, d2, d3] }
  | _ => none }
def TopOneWrongFalsely : Prop := topOneRow.holds Tryz.pinned (OpenSpec.ofChange topOneWrong)

/-- 'weathervanetop.TopLeast': WHATEVER THE INPUT: true; the input reads as it did. -/
def topLeastSpec : ChangeSpec := { name := "topLeast", fn := fun _ => fun
  | [d1, d2, d3] => { results := [.lit (.bool true)], args := [d1, d2, d3] }
  | _ => none }
def topLeastRow : OpenClaim := { program := "ytghmdfegfehhkaagreatdoor", sum := "972c8e0d458af84476604925e1775bb873d97c1933cc485fbb7eebf087e49107", func := "weathervane/weathervanetop.TopLeast", spec := "topLeast", inPlace := ["internal/bytealg.IndexByteString", "internal/bytealg.IndexString", "slices.overlaps[weathervane/pile.block]"], unfollowed := true, recurses := true, named := ["internal/bytealg.MaxLen", "weathervane/sum.lines", "math/bits.deBruijn64tab"], apart := false, laid := [("math/bits.deBruijn64tab", laid_math_bits_deBruijn64tab), ("weathervane/sum.lines", laid_weathervane_sum_lines)] }
def TopLeastSaid : Prop := topLeastRow.holds Tryz.pinned (OpenSpec.ofChange topLeastSpec)

/-- ITS FALSE NEIGHBOUR: 'it returns false'. Refute it at one input. -/
def topLeastWrong : ChangeSpec := { name := "topLeast", fn := fun _ => fun
  | [d1, d2, d3] => { results := [.lit (.bool false)], args := [d1, d2, d3] }
  | _ => none }
def TopLeastWrongFalsely : Prop := topLeastRow.holds Tryz.pinned (OpenSpec.ofChange topLeastWrong)

/- THE SECOND FORM. 'bulk': how many values and letters a reading holds, each counted each time it is reached (what is shared counts as often as it is met; a slice's spare places count too). A statement '..UptoSaid' is the law's where the arguments, and the package variables that the reading takes, are together of bulk at most 1048576: NARROWER than '..Said'. Prove '..Said' where nothing that the law and all that it calls make is longer than what came in: it says more and counts as full. Else prove '..UptoSaid'. A law counts once. -/
mutual
def uptoBulk {H : Type} : DataW H → Nat
  | .lit (.string bytes) => bytes.length + 1
  | .lit _ => 1
  | .nil => 1
  | .ptr d => uptoBulk d + 1
  | .slice elems spare => uptoBulkAll elems + uptoBulkAll spare + 1
  | .agg parts => uptoBulkAll parts + 1
  | .iface _ d => uptoBulk d + 1
  | .map entries => uptoBulkEntries entries + 1
  | .held _ => 1
def uptoBulkAll {H : Type} : List (DataW H) → Nat
  | [] => 0
  | d :: r => uptoBulk d + uptoBulkAll r
def uptoBulkEntries {H : Type} : List (Lit × DataW H) → Nat
  | [] => 0
  | x :: r => uptoBulkEntry x + uptoBulkEntries r
def uptoBulkEntry {H : Type} : Lit × DataW H → Nat
  | (.string bytes, d) => bytes.length + uptoBulk d + 1
  | (_, d) => uptoBulk d + 1
 end
def uptoSmall : (H : Type) → List (DataW H) → Bool := fun _ ds => decide (uptoBulkAll ds ≤ 1048576)
def OpenSpec.upto (s : _root_.Go.ChangeSpec) : _root_.Go.OpenSpec := { _root_.Go.OpenSpec.ofChange s with cond := some uptoSmall }

/-- 'weathervanetop.TopGone', WHERE WHAT IT READS IS OF BULK AT MOST 1048576: true; the input reads as it did. -/
def topGoneUptoRow : OpenClaim := { program := "ytghmdfegfehhkaagreatdoor", sum := "972c8e0d458af84476604925e1775bb873d97c1933cc485fbb7eebf087e49107", func := "weathervane/weathervanetop.TopGone", spec := "topGone", inPlace := ["internal/bytealg.IndexByteString", "internal/bytealg.IndexString", "slices.overlaps[weathervane/pile.block]"], unfollowed := true, recurses := true, named := ["internal/bytealg.MaxLen", "weathervane/sum.lines", "math/bits.deBruijn64tab"], apart := false, laid := [("math/bits.deBruijn64tab", laid_math_bits_deBruijn64tab), ("weathervane/sum.lines", laid_weathervane_sum_lines)], narrowed := true }
def TopGoneUptoSaid : Prop := topGoneUptoRow.holds Tryz.pinned (OpenSpec.upto topGoneSpec)

/-- 'weathervanetop.TopBound', WHERE WHAT IT READS IS OF BULK AT MOST 1048576: true; the input reads as it did. -/
def topBoundUptoRow : OpenClaim := { program := "ytghmdfegfehhkaagreatdoor", sum := "972c8e0d458af84476604925e1775bb873d97c1933cc485fbb7eebf087e49107", func := "weathervane/weathervanetop.TopBound", spec := "topBound", inPlace := ["internal/bytealg.IndexByteString", "internal/bytealg.IndexString", "slices.overlaps[weathervane/pile.block]"], unfollowed := true, recurses := true, named := ["internal/bytealg.MaxLen", "weathervane/sum.lines", "math/bits.deBruijn64tab"], apart := false, laid := [("math/bits.deBruijn64tab", laid_math_bits_deBruijn64tab), ("weathervane/sum.lines", laid_weathervane_sum_lines)], narrowed := true }
def TopBoundUptoSaid : Prop := topBoundUptoRow.holds Tryz.pinned (OpenSpec.upto topBoundSpec)

/-- 'weathervanetop.TopOne', WHERE WHAT IT READS IS OF BULK AT MOST 1048576: true; the input reads as it did. -/
def topOneUptoRow : OpenClaim := { program := "ytghmdfegfehhkaagreatdoor", sum := "972c8e0d458af84476604925e1775bb873d97c1933cc485fbb7eebf087e49107", func := "weathervane/weathervanetop.TopOne", spec := "topOne", inPlace := ["internal/bytealg.IndexByteString", "internal/bytealg.IndexString", "slices.overlaps[weathervane/pile.block]"], unfollowed := true, recurses := true, named := ["internal/bytealg.MaxLen", "weathervane/sum.lines", "math/bits.deBruijn64tab"], apart := false, laid := [("math/bits.deBruijn64tab", laid_math_bits_deBruijn64tab), ("weathervane/sum.lines", laid_weathervane_sum_lines)], narrowed := true }
def TopOneUptoSaid : Prop := topOneUptoRow.holds Tryz.pinned (OpenSpec.upto topOneSpec)

/-- 'weathervanetop.TopLeast', WHERE WHAT IT READS IS OF BULK AT MOST 1048576: true; the input reads as it did. -/
def topLeastUptoRow : OpenClaim := { program := "ytghmdfegfehhkaagreatdoor", sum := "972c8e0d458af84476604925e1775bb873d97c1933cc485fbb7eebf087e49107", func := "weathervane/weathervanetop.TopLeast", spec := "topLeast", inPlace := ["internal/bytealg.IndexByteString", "internal/bytealg.IndexString", "slices.overlaps[weathervane/pile.block]"], unfollowed := true, recurses := true, named := ["internal/bytealg.MaxLen", "weathervane/sum.lines", "math/bits.deBruijn64tab"], apart := false, laid := [("math/bits.deBruijn64tab", laid_math_bits_deBruijn64tab), ("weathervane/sum.lines", laid_weathervane_sum_lines)], narrowed := true }
def TopLeastUptoSaid : Prop := topLeastUptoRow.holds Tryz.pinned (OpenSpec.upto topLeastSpec)

end Rows
end Go.Proofs.YtghmdfegfehhkaaGreatDoor
