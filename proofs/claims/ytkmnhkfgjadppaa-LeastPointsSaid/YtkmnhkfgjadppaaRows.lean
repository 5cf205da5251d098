/-
  No cell of these rows narrows 'for every input' (looked for: loops, veiled, ifaces, maps, wideKeys, modest, calm, conditions, laid).
  DERIVED. THE GIVEN ROWS OF THIS SEAT. 6 by the template 'for every input the law returns true; each argument reads behind the call as it read before'; 0 by the template 'total and deterministic' (their statements: YtkmnhkfgjadppaaTotals.lean).
  GIVEN WITH THE SEED: the statements are not yours to turn. If you find one false, say at which input.
  Laid BY PROGRAM, IN A SANDBOX (cutbox-rows.mjs): the forced cells as the released guide's own fill.sh prints them over the translation c44a6b820c762f1b… (all of the seat's roots in one cut). By AI agents, Wed Nov 11 2026. No macro, syntax, notation, axiom, sorry.
-/
import Derived.Test.YtkmnhkfgjadppaaChecked
import GoSem.Claim
import GoSem.ClaimJoined
import GoSem.ClaimMapViews
import Derived.JoinedTies
import Derived.KernelRfl
namespace Go.Proofs.Ytkmnhkfgjadppaa
/- THE CELL 'sum', in the pinned program and in every row, IS THE sha256 OF THE DUMP (.gsa) THAT YtkmnhkfgjadppaaProg.lean LOADS. Nothing in Lean hashes anything: it is a label: what it is worth is what the hold of that sum in a sandbox is worth. -/
noncomputable def Try.pinned : Pinned := { name := "ytkmnhkfgjadppaa", sum := "c44a6b820c762f1b31c8d8e8d57f627833acdc5845b1259904b2fe91d44a76e1", checked := Try.checked }
namespace Rows
def none {H : Type} : Left H := { results := [], args := [] }

/-- 'weathervanelaw23.LeastClosed': WHATEVER THE INPUT: true; the input reads as it did. -/
def leastClosedSpec : ChangeSpec := { name := "leastClosed", fn := fun _ => fun
  | [d1, d2, d3] => { results := [.lit (.bool true)], args := [d1, d2, d3] }
  | _ => none }
def leastClosedRow : OpenClaim := { program := "ytkmnhkfgjadppaa", sum := "c44a6b820c762f1b31c8d8e8d57f627833acdc5845b1259904b2fe91d44a76e1", func := "weathervane/weathervanelaw23.LeastClosed", spec := "leastClosed", apart := false }
def LeastClosedSaid : Prop := leastClosedRow.holds Try.pinned (OpenSpec.ofChange leastClosedSpec)

/-- ITS FALSE NEIGHBOUR: 'it returns false'. Refute it at one input. -/
def leastClosedWrong : ChangeSpec := { name := "leastClosed", fn := fun _ => fun
  | [d1, d2, d3] => { results := [.lit (.bool false)], args := [d1, d2, d3] }
  | _ => none }
def LeastClosedWrongFalsely : Prop := leastClosedRow.holds Try.pinned (OpenSpec.ofChange leastClosedWrong)

/-- 'weathervanelaw23.LeastLooks': WHATEVER THE INPUT: true; the input reads as it did. -/
def leastLooksSpec : ChangeSpec := { name := "leastLooks", fn := fun _ => fun
  | [d1, d2, d3] => { results := [.lit (.bool true)], args := [d1, d2, d3] }
  | _ => none }
def leastLooksRow : OpenClaim := { program := "ytkmnhkfgjadppaa", sum := "c44a6b820c762f1b31c8d8e8d57f627833acdc5845b1259904b2fe91d44a76e1", func := "weathervane/weathervanelaw23.LeastLooks", spec := "leastLooks", inPlace := ["math.Float64bits"], apart := false }
def LeastLooksSaid : Prop := leastLooksRow.holds Try.pinned (OpenSpec.ofChange leastLooksSpec)

/-- ITS FALSE NEIGHBOUR: 'it returns false'. Refute it at one input. -/
def leastLooksWrong : ChangeSpec := { name := "leastLooks", fn := fun _ => fun
  | [d1, d2, d3] => { results := [.lit (.bool false)], args := [d1, d2, d3] }
  | _ => none }
def LeastLooksWrongFalsely : Prop := leastLooksRow.holds Try.pinned (OpenSpec.ofChange leastLooksWrong)

/-- 'weathervanelaw23.LeastPoints': WHATEVER THE INPUT: true; the input reads as it did. -/
def leastPointsSpec : ChangeSpec := { name := "leastPoints", fn := fun _ => fun
  | [d1, d2] => { results := [.lit (.bool true)], args := [d1, d2] }
  | _ => none }
def leastPointsRow : OpenClaim := { program := "ytkmnhkfgjadppaa", sum := "c44a6b820c762f1b31c8d8e8d57f627833acdc5845b1259904b2fe91d44a76e1", func := "weathervane/weathervanelaw23.LeastPoints", spec := "leastPoints", apart := false }
def LeastPointsSaid : Prop := leastPointsRow.holds Try.pinned (OpenSpec.ofChange leastPointsSpec)

/-- ITS FALSE NEIGHBOUR: 'it returns false'. Refute it at one input. -/
def leastPointsWrong : ChangeSpec := { name := "leastPoints", fn := fun _ => fun
  | [d1, d2] => { results := [.lit (.bool false)], args := [d1, d2] }
  | _ => none }
def LeastPointsWrongFalsely : Prop := leastPointsRow.holds Try.pinned (OpenSpec.ofChange leastPointsWrong)

/-- 'weathervanelaw23.LeastLess': WHATEVER THE INPUT: true; the input reads as it did. -/
def leastLessSpec : ChangeSpec := { name := "leastLess", fn := fun _ => fun
  | [d1, d2] => { results := [.lit (.bool true)], args := [d1, d2] }
  | _ => none }
def leastLessRow : OpenClaim := { program := "ytkmnhkfgjadppaa", sum := "c44a6b820c762f1b31c8d8e8d57f627833acdc5845b1259904b2fe91d44a76e1", func := "weathervane/weathervanelaw23.LeastLess", spec := "leastLess", apart := false }
def LeastLessSaid : Prop := leastLessRow.holds Try.pinned (OpenSpec.ofChange leastLessSpec)

/-- ITS FALSE NEIGHBOUR: 'it returns false'. Refute it at one input. -/
def leastLessWrong : ChangeSpec := { name := "leastLess", fn := fun _ => fun
  | [d1, d2] => { results := [.lit (.bool false)], args := [d1, d2] }
  | _ => none }
def LeastLessWrongFalsely : Prop := leastLessRow.holds Try.pinned (OpenSpec.ofChange leastLessWrong)

/-- 'weathervanelaw23.LeastRaw': WHATEVER THE INPUT: true; the input reads as it did. -/
def leastRawSpec : ChangeSpec := { name := "leastRaw", fn := fun _ => fun
  | [d1, d2] => { results := [.lit (.bool true)], args := [d1, d2] }
  | _ => none }
def leastRawRow : OpenClaim := { program := "ytkmnhkfgjadppaa", sum := "c44a6b820c762f1b31c8d8e8d57f627833acdc5845b1259904b2fe91d44a76e1", func := "weathervane/weathervanelaw23.LeastRaw", spec := "leastRaw", apart := false }
def LeastRawSaid : Prop := leastRawRow.holds Try.pinned (OpenSpec.ofChange leastRawSpec)

/-- ITS FALSE NEIGHBOUR: 'it returns false'. Refute it at one input. -/
def leastRawWrong : ChangeSpec := { name := "leastRaw", fn := fun _ => fun
  | [d1, d2] => { results := [.lit (.bool false)], args := [d1, d2] }
  | _ => none }
def LeastRawWrongFalsely : Prop := leastRawRow.holds Try.pinned (OpenSpec.ofChange leastRawWrong)

/-- 'weathervanelaw23.LeastEmpty': WHATEVER THE INPUT: true; the input reads as it did. -/
def leastEmptySpec : ChangeSpec := { name := "leastEmpty", fn := fun _ => fun
  | [d] => { results := [.lit (.bool true)], args := [d] }
  | _ => none }
def leastEmptyRow : OpenClaim := { program := "ytkmnhkfgjadppaa", sum := "c44a6b820c762f1b31c8d8e8d57f627833acdc5845b1259904b2fe91d44a76e1", func := "weathervane/weathervanelaw23.LeastEmpty", spec := "leastEmpty", apart := false }
def LeastEmptySaid : Prop := leastEmptyRow.holds Try.pinned (OpenSpec.ofChange leastEmptySpec)

/-- ITS FALSE NEIGHBOUR: 'it returns false'. Refute it at one input. -/
def leastEmptyWrong : ChangeSpec := { name := "leastEmpty", fn := fun _ => fun
  | [d] => { results := [.lit (.bool false)], args := [d] }
  | _ => none }
def LeastEmptyWrongFalsely : Prop := leastEmptyRow.holds Try.pinned (OpenSpec.ofChange leastEmptyWrong)

/- THE SECOND FORM. 'bulk': how many values and letters a reading holds, each counted each time it is reached (what is shared counts as often as it is met; a slice's spare places count too). A statement '..UptoSaid' is the law's where the arguments, and the package variables that the reading takes, are together of bulk at most 1048576: NARROWER than '..Said'. Prove '..Said' where nothing that the law and all that it calls make is longer than what came in: it says more and counts as full. Else prove '..UptoSaid'. A law counts once. -/
mutual
def uptoBulk {H : Type} : DataW H → Nat
  | .lit (.string bytes) => bytes.length + 1
  | .lit _ => 1
  | .nil => 1
  | .ptr d => uptoBulk d + 1
  | .slice elems spare => uptoBulkAll elems + uptoBulkAll spare + 1
  | .agg parts => uptoBulkAll parts + 1
  | .iface _ d => uptoBulk d + 1
  | .map entries => uptoBulkEntries entries + 1
  | .held _ => 1
def uptoBulkAll {H : Type} : List (DataW H) → Nat
  | [] => 0
  | d :: r => uptoBulk d + uptoBulkAll r
def uptoBulkEntries {H : Type} : List (Lit × DataW H) → Nat
  | [] => 0
  | x :: r => uptoBulkEntry x + uptoBulkEntries r
def uptoBulkEntry {H : Type} : Lit × DataW H → Nat
  | (.string bytes, d) => bytes.length + uptoBulk d + 1
  | (_, d) => uptoBulk d + 1
 end
def uptoSmall : (H : Type) → List (DataW H) → Bool := fun _ ds => decide (uptoBulkAll ds ≤ 1048576)
def OpenSpec.upto (s : _root_.Go.ChangeSpec) : _root_.Go.OpenSpec := { _root_.Go.OpenSpec.ofChange s with cond := some uptoSmall }

/-- 'weathervanelaw23.LeastClosed', WHERE WHAT IT READS IS OF BULK AT MOST 1048576: true; the input reads as it did. -/
def leastClosedUptoRow : OpenClaim := { program := "ytkmnhkfgjadppaa", sum := "c44a6b820c762f1b31c8d8e8d57f627833acdc5845b1259904b2fe91d44a76e1", func := "weathervane/weathervanelaw23.LeastClosed", spec := "leastClosed", apart := false, narrowed := true }
def LeastClosedUptoSaid : Prop := leastClosedUptoRow.holds Try.pinned (OpenSpec.upto leastClosedSpec)

/-- 'weathervanelaw23.LeastLooks', WHERE WHAT IT READS IS OF BULK AT MOST 1048576: true; the input reads as it did. -/
def leastLooksUptoRow : OpenClaim := { program := "ytkmnhkfgjadppaa", sum := "c44a6b820c762f1b31c8d8e8d57f627833acdc5845b1259904b2fe91d44a76e1", func := "weathervane/weathervanelaw23.LeastLooks", spec := "leastLooks", inPlace := ["math.Float64bits"], apart := false, narrowed := true }
def LeastLooksUptoSaid : Prop := leastLooksUptoRow.holds Try.pinned (OpenSpec.upto leastLooksSpec)

/-- 'weathervanelaw23.LeastPoints', WHERE WHAT IT READS IS OF BULK AT MOST 1048576: true; the input reads as it did. -/
def leastPointsUptoRow : OpenClaim := { program := "ytkmnhkfgjadppaa", sum := "c44a6b820c762f1b31c8d8e8d57f627833acdc5845b1259904b2fe91d44a76e1", func := "weathervane/weathervanelaw23.LeastPoints", spec := "leastPoints", apart := false, narrowed := true }
def LeastPointsUptoSaid : Prop := leastPointsUptoRow.holds Try.pinned (OpenSpec.upto leastPointsSpec)

/-- 'weathervanelaw23.LeastLess', WHERE WHAT IT READS IS OF BULK AT MOST 1048576: true; the input reads as it did. -/
def leastLessUptoRow : OpenClaim := { program := "ytkmnhkfgjadppaa", sum := "c44a6b820c762f1b31c8d8e8d57f627833acdc5845b1259904b2fe91d44a76e1", func := "weathervane/weathervanelaw23.LeastLess", spec := "leastLess", apart := false, narrowed := true }
def LeastLessUptoSaid : Prop := leastLessUptoRow.holds Try.pinned (OpenSpec.upto leastLessSpec)

/-- 'weathervanelaw23.LeastRaw', WHERE WHAT IT READS IS OF BULK AT MOST 1048576: true; the input reads as it did. -/
def leastRawUptoRow : OpenClaim := { program := "ytkmnhkfgjadppaa", sum := "c44a6b820c762f1b31c8d8e8d57f627833acdc5845b1259904b2fe91d44a76e1", func := "weathervane/weathervanelaw23.LeastRaw", spec := "leastRaw", apart := false, narrowed := true }
def LeastRawUptoSaid : Prop := leastRawUptoRow.holds Try.pinned (OpenSpec.upto leastRawSpec)

/-- 'weathervanelaw23.LeastEmpty', WHERE WHAT IT READS IS OF BULK AT MOST 1048576: true; the input reads as it did. -/
def leastEmptyUptoRow : OpenClaim := { program := "ytkmnhkfgjadppaa", sum := "c44a6b820c762f1b31c8d8e8d57f627833acdc5845b1259904b2fe91d44a76e1", func := "weathervane/weathervanelaw23.LeastEmpty", spec := "leastEmpty", apart := false, narrowed := true }
def LeastEmptyUptoSaid : Prop := leastEmptyUptoRow.holds Try.pinned (OpenSpec.upto leastEmptySpec)

end Rows
end Go.Proofs.Ytkmnhkfgjadppaa
