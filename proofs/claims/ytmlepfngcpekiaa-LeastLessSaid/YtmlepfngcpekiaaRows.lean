/-
  No cell of these rows narrows 'for every input' (looked for: loops, veiled, ifaces, maps, wideKeys, modest, calm, conditions, laid).
  DERIVED. THE GIVEN ROWS OF THIS SEAT. 16 by the template 'for every input the law returns true; each argument reads behind the call as it read before'; 0 by the template 'total and deterministic' (their statements: YtmlepfngcpekiaaTotals.lean).
  GIVEN WITH THE SEED: the statements are not yours to turn. If you find one false, say at which input.
  Laid BY PROGRAM, IN A SANDBOX (cutbox-rows.mjs): the forced cells as the released guide's own fill.sh prints them over the translation 1e70b804e19a7332… (all of the seat's roots in one cut). By AI agents, Wed Nov 11 2026. No macro, syntax, notation, axiom, sorry.
-/
import Derived.Test.YtmlepfngcpekiaaChecked
import GoSem.Claim
import GoSem.ClaimJoined
import GoSem.ClaimMapViews
import Derived.JoinedTies
import Derived.KernelRfl
namespace Go.Proofs.Ytmlepfngcpekiaa
/- THE CELL 'sum', in the pinned program and in every row, IS THE sha256 OF THE DUMP (.gsa) THAT YtmlepfngcpekiaaProg.lean LOADS. Nothing in Lean hashes anything: it is a label: what it is worth is what the hold of that sum in a sandbox is worth. -/
noncomputable def Try.pinned : Pinned := { name := "ytmlepfngcpekiaa", sum := "1e70b804e19a7332d5bebaef9efd533bb10e51b979ef78f38132ff70a9b48d35", checked := Try.checked }
namespace Rows
def none {H : Type} : Left H := { results := [], args := [] }

/-- 'weathervanelaw12.SystemRights': WHATEVER THE INPUT: true; the input reads as it did. -/
def systemRightsSpec : ChangeSpec := { name := "systemRights", fn := fun _ => fun
  | [d] => { results := [.lit (.bool true)], args := [d] }
  | _ => none }
def systemRightsRow : OpenClaim := { program := "ytmlepfngcpekiaa", sum := "1e70b804e19a7332d5bebaef9efd533bb10e51b979ef78f38132ff70a9b48d35", func := "weathervane/weathervanelaw12.SystemRights", spec := "systemRights", apart := false }
def SystemRightsSaid : Prop := systemRightsRow.holds Try.pinned (OpenSpec.ofChange systemRightsSpec)

/-- ITS FALSE NEIGHBOUR: 'it returns false'. Refute it at one input. -/
def systemRightsWrong : ChangeSpec := { name := "systemRights", fn := fun _ => fun
  | [d] => { results := [.lit (.bool false)], args := [d] }
  | _ => none }
def SystemRightsWrongFalsely : Prop := systemRightsRow.holds Try.pinned (OpenSpec.ofChange systemRightsWrong)

/-- 'weathervanelaw12.SystemNear': WHATEVER THE INPUT: true; the input reads as it did. -/
def systemNearSpec : ChangeSpec := { name := "systemNear", fn := fun _ => fun
  | [d1, d2, d3, d4] => { results := [.lit (.bool true)], args := [d1, d2, d3, d4] }
  | _ => none }
def systemNearRow : OpenClaim := { program := "ytmlepfngcpekiaa", sum := "1e70b804e19a7332d5bebaef9efd533bb10e51b979ef78f38132ff70a9b48d35", func := "weathervane/weathervanelaw12.SystemNear", spec := "systemNear", apart := false }
def SystemNearSaid : Prop := systemNearRow.holds Try.pinned (OpenSpec.ofChange systemNearSpec)

/-- ITS FALSE NEIGHBOUR: 'it returns false'. Refute it at one input. -/
def systemNearWrong : ChangeSpec := { name := "systemNear", fn := fun _ => fun
  | [d1, d2, d3, d4] => { results := [.lit (.bool false)], args := [d1, d2, d3, d4] }
  | _ => none }
def SystemNearWrongFalsely : Prop := systemNearRow.holds Try.pinned (OpenSpec.ofChange systemNearWrong)

/-- 'weathervanelaw12.SystemBounds': WHATEVER THE INPUT: true; the input reads as it did. -/
def systemBoundsSpec : ChangeSpec := { name := "systemBounds", fn := fun _ => fun
  | [d1, d2] => { results := [.lit (.bool true)], args := [d1, d2] }
  | _ => none }
def systemBoundsRow : OpenClaim := { program := "ytmlepfngcpekiaa", sum := "1e70b804e19a7332d5bebaef9efd533bb10e51b979ef78f38132ff70a9b48d35", func := "weathervane/weathervanelaw12.SystemBounds", spec := "systemBounds", apart := false }
def SystemBoundsSaid : Prop := systemBoundsRow.holds Try.pinned (OpenSpec.ofChange systemBoundsSpec)

/-- ITS FALSE NEIGHBOUR: 'it returns false'. Refute it at one input. -/
def systemBoundsWrong : ChangeSpec := { name := "systemBounds", fn := fun _ => fun
  | [d1, d2] => { results := [.lit (.bool false)], args := [d1, d2] }
  | _ => none }
def SystemBoundsWrongFalsely : Prop := systemBoundsRow.holds Try.pinned (OpenSpec.ofChange systemBoundsWrong)

/-- 'weathervanelaw12.SystemKinds': WHATEVER THE INPUT: true; the input reads as it did. -/
def systemKindsSpec : ChangeSpec := { name := "systemKinds", fn := fun _ => fun
  | [d1, d2, d3, d4] => { results := [.lit (.bool true)], args := [d1, d2, d3, d4] }
  | _ => none }
def systemKindsRow : OpenClaim := { program := "ytmlepfngcpekiaa", sum := "1e70b804e19a7332d5bebaef9efd533bb10e51b979ef78f38132ff70a9b48d35", func := "weathervane/weathervanelaw12.SystemKinds", spec := "systemKinds", apart := false }
def SystemKindsSaid : Prop := systemKindsRow.holds Try.pinned (OpenSpec.ofChange systemKindsSpec)

/-- ITS FALSE NEIGHBOUR: 'it returns false'. Refute it at one input. -/
def systemKindsWrong : ChangeSpec := { name := "systemKinds", fn := fun _ => fun
  | [d1, d2, d3, d4] => { results := [.lit (.bool false)], args := [d1, d2, d3, d4] }
  | _ => none }
def SystemKindsWrongFalsely : Prop := systemKindsRow.holds Try.pinned (OpenSpec.ofChange systemKindsWrong)

/-- 'weathervanelaw12.SystemLoose': WHATEVER THE INPUT: true; the input reads as it did. -/
def systemLooseSpec : ChangeSpec := { name := "systemLoose", fn := fun _ => fun
  | [d1, d2] => { results := [.lit (.bool true)], args := [d1, d2] }
  | _ => none }
def systemLooseRow : OpenClaim := { program := "ytmlepfngcpekiaa", sum := "1e70b804e19a7332d5bebaef9efd533bb10e51b979ef78f38132ff70a9b48d35", func := "weathervane/weathervanelaw12.SystemLoose", spec := "systemLoose", unfollowed := true, recurses := true, apart := false }
def SystemLooseSaid : Prop := systemLooseRow.holds Try.pinned (OpenSpec.ofChange systemLooseSpec)

/-- ITS FALSE NEIGHBOUR: 'it returns false'. Refute it at one input. -/
def systemLooseWrong : ChangeSpec := { name := "systemLoose", fn := fun _ => fun
  | [d1, d2] => { results := [.lit (.bool false)], args := [d1, d2] }
  | _ => none }
def SystemLooseWrongFalsely : Prop := systemLooseRow.holds Try.pinned (OpenSpec.ofChange systemLooseWrong)

/-- 'weathervanelaw12.SystemCounts': WHATEVER THE INPUT: true; the input reads as it did. -/
def systemCountsSpec : ChangeSpec := { name := "systemCounts", fn := fun _ => fun
  | [d] => { results := [.lit (.bool true)], args := [d] }
  | _ => none }
def systemCountsRow : OpenClaim := { program := "ytmlepfngcpekiaa", sum := "1e70b804e19a7332d5bebaef9efd533bb10e51b979ef78f38132ff70a9b48d35", func := "weathervane/weathervanelaw12.SystemCounts", spec := "systemCounts", unfollowed := true, recurses := true, apart := false }
def SystemCountsSaid : Prop := systemCountsRow.holds Try.pinned (OpenSpec.ofChange systemCountsSpec)

/-- ITS FALSE NEIGHBOUR: 'it returns false'. Refute it at one input. -/
def systemCountsWrong : ChangeSpec := { name := "systemCounts", fn := fun _ => fun
  | [d] => { results := [.lit (.bool false)], args := [d] }
  | _ => none }
def SystemCountsWrongFalsely : Prop := systemCountsRow.holds Try.pinned (OpenSpec.ofChange systemCountsWrong)

/-- 'weathervanelaw12.SystemEqual': WHATEVER THE INPUT: true; the input reads as it did. -/
def systemEqualSpec : ChangeSpec := { name := "systemEqual", fn := fun _ => fun
  | [d1, d2, d3] => { results := [.lit (.bool true)], args := [d1, d2, d3] }
  | _ => none }
def systemEqualRow : OpenClaim := { program := "ytmlepfngcpekiaa", sum := "1e70b804e19a7332d5bebaef9efd533bb10e51b979ef78f38132ff70a9b48d35", func := "weathervane/weathervanelaw12.SystemEqual", spec := "systemEqual", unfollowed := true, recurses := true, apart := false }
def SystemEqualSaid : Prop := systemEqualRow.holds Try.pinned (OpenSpec.ofChange systemEqualSpec)

/-- ITS FALSE NEIGHBOUR: 'it returns false'. Refute it at one input. -/
def systemEqualWrong : ChangeSpec := { name := "systemEqual", fn := fun _ => fun
  | [d1, d2, d3] => { results := [.lit (.bool false)], args := [d1, d2, d3] }
  | _ => none }
def SystemEqualWrongFalsely : Prop := systemEqualRow.holds Try.pinned (OpenSpec.ofChange systemEqualWrong)

/-- 'weathervanelaw15.GraphOf': WHATEVER THE INPUT: true; the input reads as it did. -/
def graphOfSpec : ChangeSpec := { name := "graphOf", fn := fun _ => fun
  | [d] => { results := [.lit (.bool true)], args := [d] }
  | _ => none }
def graphOfRow : OpenClaim := { program := "ytmlepfngcpekiaa", sum := "1e70b804e19a7332d5bebaef9efd533bb10e51b979ef78f38132ff70a9b48d35", func := "weathervane/weathervanelaw15.GraphOf", spec := "graphOf", unfollowed := true, recurses := true, apart := false }
def GraphOfSaid : Prop := graphOfRow.holds Try.pinned (OpenSpec.ofChange graphOfSpec)

/-- ITS FALSE NEIGHBOUR: 'it returns false'. Refute it at one input. -/
def graphOfWrong : ChangeSpec := { name := "graphOf", fn := fun _ => fun
  | [d] => { results := [.lit (.bool false)], args := [d] }
  | _ => none }
def GraphOfWrongFalsely : Prop := graphOfRow.holds Try.pinned (OpenSpec.ofChange graphOfWrong)

/-- 'weathervanelaw15.GraphRaw': WHATEVER THE INPUT: true; the input reads as it did. -/
def graphRawSpec : ChangeSpec := { name := "graphRaw", fn := fun _ => fun
  | [d] => { results := [.lit (.bool true)], args := [d] }
  | _ => none }
def graphRawRow : OpenClaim := { program := "ytmlepfngcpekiaa", sum := "1e70b804e19a7332d5bebaef9efd533bb10e51b979ef78f38132ff70a9b48d35", func := "weathervane/weathervanelaw15.GraphRaw", spec := "graphRaw", unfollowed := true, recurses := true, apart := false }
def GraphRawSaid : Prop := graphRawRow.holds Try.pinned (OpenSpec.ofChange graphRawSpec)

/-- ITS FALSE NEIGHBOUR: 'it returns false'. Refute it at one input. -/
def graphRawWrong : ChangeSpec := { name := "graphRaw", fn := fun _ => fun
  | [d] => { results := [.lit (.bool false)], args := [d] }
  | _ => none }
def GraphRawWrongFalsely : Prop := graphRawRow.holds Try.pinned (OpenSpec.ofChange graphRawWrong)

/-- 'weathervanelaw15.GraphStores': WHATEVER THE INPUT: true; the input reads as it did. -/
def graphStoresSpec : ChangeSpec := { name := "graphStores", fn := fun _ => fun
  | [d] => { results := [.lit (.bool true)], args := [d] }
  | _ => none }
def graphStoresRow : OpenClaim := { program := "ytmlepfngcpekiaa", sum := "1e70b804e19a7332d5bebaef9efd533bb10e51b979ef78f38132ff70a9b48d35", func := "weathervane/weathervanelaw15.GraphStores", spec := "graphStores", unfollowed := true, recurses := true, apart := false }
def GraphStoresSaid : Prop := graphStoresRow.holds Try.pinned (OpenSpec.ofChange graphStoresSpec)

/-- ITS FALSE NEIGHBOUR: 'it returns false'. Refute it at one input. -/
def graphStoresWrong : ChangeSpec := { name := "graphStores", fn := fun _ => fun
  | [d] => { results := [.lit (.bool false)], args := [d] }
  | _ => none }
def GraphStoresWrongFalsely : Prop := graphStoresRow.holds Try.pinned (OpenSpec.ofChange graphStoresWrong)

/-- 'weathervanelaw23.LeastClosed': WHATEVER THE INPUT: true; the input reads as it did. -/
def leastClosedSpec : ChangeSpec := { name := "leastClosed", fn := fun _ => fun
  | [d1, d2, d3] => { results := [.lit (.bool true)], args := [d1, d2, d3] }
  | _ => none }
def leastClosedRow : OpenClaim := { program := "ytmlepfngcpekiaa", sum := "1e70b804e19a7332d5bebaef9efd533bb10e51b979ef78f38132ff70a9b48d35", func := "weathervane/weathervanelaw23.LeastClosed", spec := "leastClosed", apart := false }
def LeastClosedSaid : Prop := leastClosedRow.holds Try.pinned (OpenSpec.ofChange leastClosedSpec)

/-- ITS FALSE NEIGHBOUR: 'it returns false'. Refute it at one input. -/
def leastClosedWrong : ChangeSpec := { name := "leastClosed", fn := fun _ => fun
  | [d1, d2, d3] => { results := [.lit (.bool false)], args := [d1, d2, d3] }
  | _ => none }
def LeastClosedWrongFalsely : Prop := leastClosedRow.holds Try.pinned (OpenSpec.ofChange leastClosedWrong)

/-- 'weathervanelaw23.LeastLooks': WHATEVER THE INPUT: true; the input reads as it did. -/
def leastLooksSpec : ChangeSpec := { name := "leastLooks", fn := fun _ => fun
  | [d1, d2, d3] => { results := [.lit (.bool true)], args := [d1, d2, d3] }
  | _ => none }
def leastLooksRow : OpenClaim := { program := "ytmlepfngcpekiaa", sum := "1e70b804e19a7332d5bebaef9efd533bb10e51b979ef78f38132ff70a9b48d35", func := "weathervane/weathervanelaw23.LeastLooks", spec := "leastLooks", inPlace := ["math.Float64bits"], apart := false }
def LeastLooksSaid : Prop := leastLooksRow.holds Try.pinned (OpenSpec.ofChange leastLooksSpec)

/-- ITS FALSE NEIGHBOUR: 'it returns false'. Refute it at one input. -/
def leastLooksWrong : ChangeSpec := { name := "leastLooks", fn := fun _ => fun
  | [d1, d2, d3] => { results := [.lit (.bool false)], args := [d1, d2, d3] }
  | _ => none }
def LeastLooksWrongFalsely : Prop := leastLooksRow.holds Try.pinned (OpenSpec.ofChange leastLooksWrong)

/-- 'weathervanelaw23.LeastPoints': WHATEVER THE INPUT: true; the input reads as it did. -/
def leastPointsSpec : ChangeSpec := { name := "leastPoints", fn := fun _ => fun
  | [d1, d2] => { results := [.lit (.bool true)], args := [d1, d2] }
  | _ => none }
def leastPointsRow : OpenClaim := { program := "ytmlepfngcpekiaa", sum := "1e70b804e19a7332d5bebaef9efd533bb10e51b979ef78f38132ff70a9b48d35", func := "weathervane/weathervanelaw23.LeastPoints", spec := "leastPoints", apart := false }
def LeastPointsSaid : Prop := leastPointsRow.holds Try.pinned (OpenSpec.ofChange leastPointsSpec)

/-- ITS FALSE NEIGHBOUR: 'it returns false'. Refute it at one input. -/
def leastPointsWrong : ChangeSpec := { name := "leastPoints", fn := fun _ => fun
  | [d1, d2] => { results := [.lit (.bool false)], args := [d1, d2] }
  | _ => none }
def LeastPointsWrongFalsely : Prop := leastPointsRow.holds Try.pinned (OpenSpec.ofChange leastPointsWrong)

/-- 'weathervanelaw23.LeastLess': WHATEVER THE INPUT: true; the input reads as it did. -/
def leastLessSpec : ChangeSpec := { name := "leastLess", fn := fun _ => fun
  | [d1, d2] => { results := [.lit (.bool true)], args := [d1, d2] }
  | _ => none }
def leastLessRow : OpenClaim := { program := "ytmlepfngcpekiaa", sum := "1e70b804e19a7332d5bebaef9efd533bb10e51b979ef78f38132ff70a9b48d35", func := "weathervane/weathervanelaw23.LeastLess", spec := "leastLess", apart := false }
def LeastLessSaid : Prop := leastLessRow.holds Try.pinned (OpenSpec.ofChange leastLessSpec)

/-- ITS FALSE NEIGHBOUR: 'it returns false'. Refute it at one input. -/
def leastLessWrong : ChangeSpec := { name := "leastLess", fn := fun _ => fun
  | [d1, d2] => { results := [.lit (.bool false)], args := [d1, d2] }
  | _ => none }
def LeastLessWrongFalsely : Prop := leastLessRow.holds Try.pinned (OpenSpec.ofChange leastLessWrong)

/-- 'weathervanelaw23.LeastRaw': WHATEVER THE INPUT: true; the input reads as it did. -/
def leastRawSpec : ChangeSpec := { name := "leastRaw", fn := fun _ => fun
  | [d1, d2] => { results := [.lit (.bool true)], args := [d1, d2] }
  | _ => none }
def leastRawRow : OpenClaim := { program := "ytmlepfngcpekiaa", sum := "1e70b804e19a7332d5bebaef9efd533bb10e51b979ef78f38132ff70a9b48d35", func := "weathervane/weathervanelaw23.LeastRaw", spec := "leastRaw", apart := false }
def LeastRawSaid : Prop := leastRawRow.holds Try.pinned (OpenSpec.ofChange leastRawSpec)

/-- ITS FALSE NEIGHBOUR: 'it returns false'. Refute it at one input. -/
def leastRawWrong : ChangeSpec := { name := "leastRaw", fn := fun _ => fun
  | [d1, d2] => { results := [.lit (.bool false)], args := [d1, d2] }
  | _ => none }
def LeastRawWrongFalsely : Prop := leastRawRow.holds Try.pinned (OpenSpec.ofChange leastRawWrong)

/-- 'weathervanelaw23.LeastEmpty': WHATEVER THE INPUT: true; the input reads as it did. -/
def leastEmptySpec : ChangeSpec := { name := "leastEmpty", fn := fun _ => fun
  | [d] => { results := [.lit (.bool true)], args := [d] }
  | _ => none }
def leastEmptyRow : OpenClaim := { program := "ytmlepfngcpekiaa", sum := "1e70b804e19a7332d5bebaef9efd533bb10e51b979ef78f38132ff70a9b48d35", func := "weathervane/weathervanelaw23.LeastEmpty", spec := "leastEmpty", apart := false }
def LeastEmptySaid : Prop := leastEmptyRow.holds Try.pinned (OpenSpec.ofChange leastEmptySpec)

/-- ITS FALSE NEIGHBOUR: 'it returns false'. Refute it at one input. -/
def leastEmptyWrong : ChangeSpec := { name := "leastEmpty", fn := fun _ => fun
  | [d] => { results := [.lit (.bool false)], args := [d] }
  | _ => none }
def LeastEmptyWrongFalsely : Prop := leastEmptyRow.holds Try.pinned (OpenSpec.ofChange leastEmptyWrong)

/- THE SECOND FORM. 'bulk': how many values and letters a reading holds, each counted each time it is reached (what is shared counts as often as it is met; a slice's spare places count too). A statement '..UptoSaid' is the law's where the arguments, and the package variables that the reading takes, are together of bulk at most 1048576: NARROWER than '..Said'. Prove '..Said' where nothing that the law and all that it calls make is longer than what came in: it says more and counts as full. Else prove '..UptoSaid'. A law counts once. -/
mutual
def uptoBulk {H : Type} : DataW H → Nat
  | .lit (.string bytes) => bytes.length + 1
  | .lit _ => 1
  | .nil => 1
  | .ptr d => uptoBulk d + 1
  | .slice elems spare => uptoBulkAll elems + uptoBulkAll spare + 1
  | .agg parts => uptoBulkAll parts + 1
  | .iface _ d => uptoBulk d + 1
  | .map entries => uptoBulkEntries entries + 1
  | .held _ => 1
def uptoBulkAll {H : Type} : List (DataW H) → Nat
  | [] => 0
  | d :: r => uptoBulk d + uptoBulkAll r
def uptoBulkEntries {H : Type} : List (Lit × DataW H) → Nat
  | [] => 0
  | x :: r => uptoBulkEntry x + uptoBulkEntries r
def uptoBulkEntry {H : Type} : Lit × DataW H → Nat
  | (.string bytes, d) => bytes.length + uptoBulk d + 1
  | (_, d) => uptoBulk d + 1
 end
def uptoSmall : (H : Type) → List (DataW H) → Bool := fun _ ds => decide (uptoBulkAll ds ≤ 1048576)
def OpenSpec.upto (s : _root_.Go.ChangeSpec) : _root_.Go.OpenSpec := { _root_.Go.OpenSpec.ofChange s with cond := some uptoSmall }

/-- 'weathervanelaw12.SystemRights', WHERE WHAT IT READS IS OF BULK AT MOST 1048576: true; the input reads as it did. -/
def systemRightsUptoRow : OpenClaim := { program := "ytmlepfngcpekiaa", sum := "1e70b804e19a7332d5bebaef9efd533bb10e51b979ef78f38132ff70a9b48d35", func := "weathervane/weathervanelaw12.SystemRights", spec := "systemRights", apart := false, narrowed := true }
def SystemRightsUptoSaid : Prop := systemRightsUptoRow.holds Try.pinned (OpenSpec.upto systemRightsSpec)

/-- 'weathervanelaw12.SystemNear', WHERE WHAT IT READS IS OF BULK AT MOST 1048576: true; the input reads as it did. -/
def systemNearUptoRow : OpenClaim := { program := "ytmlepfngcpekiaa", sum := "1e70b804e19a7332d5bebaef9efd533bb10e51b979ef78f38132ff70a9b48d35", func := "weathervane/weathervanelaw12.SystemNear", spec := "systemNear", apart := false, narrowed := true }
def SystemNearUptoSaid : Prop := systemNearUptoRow.holds Try.pinned (OpenSpec.upto systemNearSpec)

/-- 'weathervanelaw12.SystemBounds', WHERE WHAT IT READS IS OF BULK AT MOST 1048576: true; the input reads as it did. -/
def systemBoundsUptoRow : OpenClaim := { program := "ytmlepfngcpekiaa", sum := "1e70b804e19a7332d5bebaef9efd533bb10e51b979ef78f38132ff70a9b48d35", func := "weathervane/weathervanelaw12.SystemBounds", spec := "systemBounds", apart := false, narrowed := true }
def SystemBoundsUptoSaid : Prop := systemBoundsUptoRow.holds Try.pinned (OpenSpec.upto systemBoundsSpec)

/-- 'weathervanelaw12.SystemKinds', WHERE WHAT IT READS IS OF BULK AT MOST 1048576: true; the input reads as it did. -/
def systemKindsUptoRow : OpenClaim := { program := "ytmlepfngcpekiaa", sum := "1e70b804e19a7332d5bebaef9efd533bb10e51b979ef78f38132ff70a9b48d35", func := "weathervane/weathervanelaw12.SystemKinds", spec := "systemKinds", apart := false, narrowed := true }
def SystemKindsUptoSaid : Prop := systemKindsUptoRow.holds Try.pinned (OpenSpec.upto systemKindsSpec)

/-- 'weathervanelaw12.SystemLoose', WHERE WHAT IT READS IS OF BULK AT MOST 1048576: true; the input reads as it did. -/
def systemLooseUptoRow : OpenClaim := { program := "ytmlepfngcpekiaa", sum := "1e70b804e19a7332d5bebaef9efd533bb10e51b979ef78f38132ff70a9b48d35", func := "weathervane/weathervanelaw12.SystemLoose", spec := "systemLoose", unfollowed := true, recurses := true, apart := false, narrowed := true }
def SystemLooseUptoSaid : Prop := systemLooseUptoRow.holds Try.pinned (OpenSpec.upto systemLooseSpec)

/-- 'weathervanelaw12.SystemCounts', WHERE WHAT IT READS IS OF BULK AT MOST 1048576: true; the input reads as it did. -/
def systemCountsUptoRow : OpenClaim := { program := "ytmlepfngcpekiaa", sum := "1e70b804e19a7332d5bebaef9efd533bb10e51b979ef78f38132ff70a9b48d35", func := "weathervane/weathervanelaw12.SystemCounts", spec := "systemCounts", unfollowed := true, recurses := true, apart := false, narrowed := true }
def SystemCountsUptoSaid : Prop := systemCountsUptoRow.holds Try.pinned (OpenSpec.upto systemCountsSpec)

/-- 'weathervanelaw12.SystemEqual', WHERE WHAT IT READS IS OF BULK AT MOST 1048576: true; the input reads as it did. -/
def systemEqualUptoRow : OpenClaim := { program := "ytmlepfngcpekiaa", sum := "1e70b804e19a7332d5bebaef9efd533bb10e51b979ef78f38132ff70a9b48d35", func := "weathervane/weathervanelaw12.SystemEqual", spec := "systemEqual", unfollowed := true, recurses := true, apart := false, narrowed := true }
def SystemEqualUptoSaid : Prop := systemEqualUptoRow.holds Try.pinned (OpenSpec.upto systemEqualSpec)

/-- 'weathervanelaw15.GraphOf', WHERE WHAT IT READS IS OF BULK AT MOST 1048576: true; the input reads as it did. -/
def graphOfUptoRow : OpenClaim := { program := "ytmlepfngcpekiaa", sum := "1e70b804e19a7332d5bebaef9efd533bb10e51b979ef78f38132ff70a9b48d35", func := "weathervane/weathervanelaw15.GraphOf", spec := "graphOf", unfollowed := true, recurses := true, apart := false, narrowed := true }
def GraphOfUptoSaid : Prop := graphOfUptoRow.holds Try.pinned (OpenSpec.upto graphOfSpec)

/-- 'weathervanelaw15.GraphRaw', WHERE WHAT IT READS IS OF BULK AT MOST 1048576: true; the input reads as it did. -/
def graphRawUptoRow : OpenClaim := { program := "ytmlepfngcpekiaa", sum := "1e70b804e19a7332d5bebaef9efd533bb10e51b979ef78f38132ff70a9b48d35", func := "weathervane/weathervanelaw15.GraphRaw", spec := "graphRaw", unfollowed := true, recurses := true, apart := false, narrowed := true }
def GraphRawUptoSaid : Prop := graphRawUptoRow.holds Try.pinned (OpenSpec.upto graphRawSpec)

/-- 'weathervanelaw15.GraphStores', WHERE WHAT IT READS IS OF BULK AT MOST 1048576: true; the input reads as it did. -/
def graphStoresUptoRow : OpenClaim := { program := "ytmlepfngcpekiaa", sum := "1e70b804e19a7332d5bebaef9efd533bb10e51b979ef78f38132ff70a9b48d35", func := "weathervane/weathervanelaw15.GraphStores", spec := "graphStores", unfollowed := true, recurses := true, apart := false, narrowed := true }
def GraphStoresUptoSaid : Prop := graphStoresUptoRow.holds Try.pinned (OpenSpec.upto graphStoresSpec)

/-- 'weathervanelaw23.LeastClosed', WHERE WHAT IT READS IS OF BULK AT MOST 1048576: true; the input reads as it did. -/
def leastClosedUptoRow : OpenClaim := { program := "ytmlepfngcpekiaa", sum := "1e70b804e19a7332d5bebaef9efd533bb10e51b979ef78f38132ff70a9b48d35", func := "weathervane/weathervanelaw23.LeastClosed", spec := "leastClosed", apart := false, narrowed := true }
def LeastClosedUptoSaid : Prop := leastClosedUptoRow.holds Try.pinned (OpenSpec.upto leastClosedSpec)

/-- 'weathervanelaw23.LeastLooks', WHERE WHAT IT READS IS OF BULK AT MOST 1048576: true; the input reads as it did. -/
def leastLooksUptoRow : OpenClaim := { program := "ytmlepfngcpekiaa", sum := "1e70b804e19a7332d5bebaef9efd533bb10e51b979ef78f38132ff70a9b48d35", func := "weathervane/weathervanelaw23.LeastLooks", spec := "leastLooks", inPlace := ["math.Float64bits"], apart := false, narrowed := true }
def LeastLooksUptoSaid : Prop := leastLooksUptoRow.holds Try.pinned (OpenSpec.upto leastLooksSpec)

/-- 'weathervanelaw23.LeastPoints', WHERE WHAT IT READS IS OF BULK AT MOST 1048576: true; the input reads as it did. -/
def leastPointsUptoRow : OpenClaim := { program := "ytmlepfngcpekiaa", sum := "1e70b804e19a7332d5bebaef9efd533bb10e51b979ef78f38132ff70a9b48d35", func := "weathervane/weathervanelaw23.LeastPoints", spec := "leastPoints", apart := false, narrowed := true }
def LeastPointsUptoSaid : Prop := leastPointsUptoRow.holds Try.pinned (OpenSpec.upto leastPointsSpec)

/-- 'weathervanelaw23.LeastLess', WHERE WHAT IT READS IS OF BULK AT MOST 1048576: true; the input reads as it did. -/
def leastLessUptoRow : OpenClaim := { program := "ytmlepfngcpekiaa", sum := "1e70b804e19a7332d5bebaef9efd533bb10e51b979ef78f38132ff70a9b48d35", func := "weathervane/weathervanelaw23.LeastLess", spec := "leastLess", apart := false, narrowed := true }
def LeastLessUptoSaid : Prop := leastLessUptoRow.holds Try.pinned (OpenSpec.upto leastLessSpec)

/-- 'weathervanelaw23.LeastRaw', WHERE WHAT IT READS IS OF BULK AT MOST 1048576: true; the input reads as it did. -/
def leastRawUptoRow : OpenClaim := { program := "ytmlepfngcpekiaa", sum := "1e70b804e19a7332d5bebaef9efd533bb10e51b979ef78f38132ff70a9b48d35", func := "weathervane/weathervanelaw23.LeastRaw", spec := "leastRaw", apart := false, narrowed := true }
def LeastRawUptoSaid : Prop := leastRawUptoRow.holds Try.pinned (OpenSpec.upto leastRawSpec)

/-- 'weathervanelaw23.LeastEmpty', WHERE WHAT IT READS IS OF BULK AT MOST 1048576: true; the input reads as it did. -/
def leastEmptyUptoRow : OpenClaim := { program := "ytmlepfngcpekiaa", sum := "1e70b804e19a7332d5bebaef9efd533bb10e51b979ef78f38132ff70a9b48d35", func := "weathervane/weathervanelaw23.LeastEmpty", spec := "leastEmpty", apart := false, narrowed := true }
def LeastEmptyUptoSaid : Prop := leastEmptyUptoRow.holds Try.pinned (OpenSpec.upto leastEmptySpec)

end Rows
end Go.Proofs.Ytmlepfngcpekiaa
