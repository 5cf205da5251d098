/-
  No cell of these rows narrows 'for every input' (looked for: loops, veiled, ifaces, maps, wideKeys, modest, calm, conditions, laid).
  DERIVED. THE GIVEN ROWS OF THIS SEAT. 11 by the template 'for every input the law returns true; each argument reads behind the call as it read before'; 0 by the template 'total and deterministic' (their statements: YtjggjhgbobmkhaaTotals.lean).
  GIVEN WITH THE SEED: the statements are not yours to turn. If you find one false, say at which input.
  Laid BY PROGRAM, IN A SANDBOX (cutbox-rows.mjs): the forced cells as the released guide's own fill.sh prints them over the translation a6580d1310f8b45d… (all of the seat's roots in one cut). By AI agents, Wed Nov 11 2026. No macro, syntax, notation, axiom, sorry.
-/
import Derived.Test.YtjggjhgbobmkhaaChecked
import GoSem.Claim
import GoSem.ClaimJoined
import GoSem.ClaimMapViews
import Derived.JoinedTies
import Derived.KernelRfl
namespace Go.Proofs.Ytjggjhgbobmkhaa
/- THE CELL 'sum', in the pinned program and in every row, IS THE sha256 OF THE DUMP (.gsa) THAT YtjggjhgbobmkhaaProg.lean LOADS. Nothing in Lean hashes anything: it is a label: what it is worth is what the hold of that sum in a sandbox is worth. -/
noncomputable def Try.pinned : Pinned := { name := "ytjggjhgbobmkhaa", sum := "a6580d1310f8b45d1e03b86ac31db2905988bb517fc82e6a9a945f2fda85636d", checked := Try.checked }
namespace Rows
def none {H : Type} : Left H := { results := [], args := [] }

/-- 'weathervanelaw18.HuLabels': WHATEVER THE INPUT: true; the input reads as it did. -/
def huLabelsSpec : ChangeSpec := { name := "huLabels", fn := fun _ => fun
  | [d] => { results := [.lit (.bool true)], args := [d] }
  | _ => none }
def huLabelsRow : OpenClaim := { program := "ytjggjhgbobmkhaa", sum := "a6580d1310f8b45d1e03b86ac31db2905988bb517fc82e6a9a945f2fda85636d", func := "weathervane/weathervanelaw18.HuLabels", spec := "huLabels", inPlace := ["slices.overlaps[weathervane/pile.block]"], unfollowed := true, recurses := true, apart := false }
def HuLabelsSaid : Prop := huLabelsRow.holds Try.pinned (OpenSpec.ofChange huLabelsSpec)

/-- ITS FALSE NEIGHBOUR: 'it returns false'. Refute it at one input. -/
def huLabelsWrong : ChangeSpec := { name := "huLabels", fn := fun _ => fun
  | [d] => { results := [.lit (.bool false)], args := [d] }
  | _ => none }
def HuLabelsWrongFalsely : Prop := huLabelsRow.holds Try.pinned (OpenSpec.ofChange huLabelsWrong)

/-- 'weathervanelaw18.HuRow': WHATEVER THE INPUT: true; the input reads as it did. -/
def huRowSpec : ChangeSpec := { name := "huRow", fn := fun _ => fun
  | [d1, d2] => { results := [.lit (.bool true)], args := [d1, d2] }
  | _ => none }
def huRowRow : OpenClaim := { program := "ytjggjhgbobmkhaa", sum := "a6580d1310f8b45d1e03b86ac31db2905988bb517fc82e6a9a945f2fda85636d", func := "weathervane/weathervanelaw18.HuRow", spec := "huRow", inPlace := ["slices.overlaps[weathervane/pile.block]"], unfollowed := true, recurses := true, apart := false }
def HuRowSaid : Prop := huRowRow.holds Try.pinned (OpenSpec.ofChange huRowSpec)

/-- ITS FALSE NEIGHBOUR: 'it returns false'. Refute it at one input. -/
def huRowWrong : ChangeSpec := { name := "huRow", fn := fun _ => fun
  | [d1, d2] => { results := [.lit (.bool false)], args := [d1, d2] }
  | _ => none }
def HuRowWrongFalsely : Prop := huRowRow.holds Try.pinned (OpenSpec.ofChange huRowWrong)

/-- 'weathervanelaw18.HuOrders': WHATEVER THE INPUT: true; the input reads as it did. -/
def huOrdersSpec : ChangeSpec := { name := "huOrders", fn := fun _ => fun
  | [d] => { results := [.lit (.bool true)], args := [d] }
  | _ => none }
def huOrdersRow : OpenClaim := { program := "ytjggjhgbobmkhaa", sum := "a6580d1310f8b45d1e03b86ac31db2905988bb517fc82e6a9a945f2fda85636d", func := "weathervane/weathervanelaw18.HuOrders", spec := "huOrders", inPlace := ["slices.overlaps[weathervane/pile.block]"], unfollowed := true, recurses := true, apart := false }
def HuOrdersSaid : Prop := huOrdersRow.holds Try.pinned (OpenSpec.ofChange huOrdersSpec)

/-- ITS FALSE NEIGHBOUR: 'it returns false'. Refute it at one input. -/
def huOrdersWrong : ChangeSpec := { name := "huOrders", fn := fun _ => fun
  | [d] => { results := [.lit (.bool false)], args := [d] }
  | _ => none }
def HuOrdersWrongFalsely : Prop := huOrdersRow.holds Try.pinned (OpenSpec.ofChange huOrdersWrong)

/-- 'weathervanelaw18.HuSources': WHATEVER THE INPUT: true; the input reads as it did. -/
def huSourcesSpec : ChangeSpec := { name := "huSources", fn := fun _ => fun
  | [d] => { results := [.lit (.bool true)], args := [d] }
  | _ => none }
def huSourcesRow : OpenClaim := { program := "ytjggjhgbobmkhaa", sum := "a6580d1310f8b45d1e03b86ac31db2905988bb517fc82e6a9a945f2fda85636d", func := "weathervane/weathervanelaw18.HuSources", spec := "huSources", inPlace := ["slices.overlaps[weathervane/pile.block]"], unfollowed := true, recurses := true, apart := false }
def HuSourcesSaid : Prop := huSourcesRow.holds Try.pinned (OpenSpec.ofChange huSourcesSpec)

/-- ITS FALSE NEIGHBOUR: 'it returns false'. Refute it at one input. -/
def huSourcesWrong : ChangeSpec := { name := "huSources", fn := fun _ => fun
  | [d] => { results := [.lit (.bool false)], args := [d] }
  | _ => none }
def HuSourcesWrongFalsely : Prop := huSourcesRow.holds Try.pinned (OpenSpec.ofChange huSourcesWrong)

/-- 'weathervanelaw18.HuOvs': WHATEVER THE INPUT: true; the input reads as it did. -/
def huOvsSpec : ChangeSpec := { name := "huOvs", fn := fun _ => fun
  | [d] => { results := [.lit (.bool true)], args := [d] }
  | _ => none }
def huOvsRow : OpenClaim := { program := "ytjggjhgbobmkhaa", sum := "a6580d1310f8b45d1e03b86ac31db2905988bb517fc82e6a9a945f2fda85636d", func := "weathervane/weathervanelaw18.HuOvs", spec := "huOvs", inPlace := ["slices.overlaps[weathervane/pile.block]"], unfollowed := true, recurses := true, apart := false }
def HuOvsSaid : Prop := huOvsRow.holds Try.pinned (OpenSpec.ofChange huOvsSpec)

/-- ITS FALSE NEIGHBOUR: 'it returns false'. Refute it at one input. -/
def huOvsWrong : ChangeSpec := { name := "huOvs", fn := fun _ => fun
  | [d] => { results := [.lit (.bool false)], args := [d] }
  | _ => none }
def HuOvsWrongFalsely : Prop := huOvsRow.holds Try.pinned (OpenSpec.ofChange huOvsWrong)

/-- 'weathervanelaw19.ShrinkLabels': WHATEVER THE INPUT: true; the input reads as it did. -/
def shrinkLabelsSpec : ChangeSpec := { name := "shrinkLabels", fn := fun _ => fun
  | [d1, d2] => { results := [.lit (.bool true)], args := [d1, d2] }
  | _ => none }
def shrinkLabelsRow : OpenClaim := { program := "ytjggjhgbobmkhaa", sum := "a6580d1310f8b45d1e03b86ac31db2905988bb517fc82e6a9a945f2fda85636d", func := "weathervane/weathervanelaw19.ShrinkLabels", spec := "shrinkLabels", inPlace := ["slices.overlaps[weathervane/pile.block]"], unfollowed := true, recurses := true, apart := false }
def ShrinkLabelsSaid : Prop := shrinkLabelsRow.holds Try.pinned (OpenSpec.ofChange shrinkLabelsSpec)

/-- ITS FALSE NEIGHBOUR: 'it returns false'. Refute it at one input. -/
def shrinkLabelsWrong : ChangeSpec := { name := "shrinkLabels", fn := fun _ => fun
  | [d1, d2] => { results := [.lit (.bool false)], args := [d1, d2] }
  | _ => none }
def ShrinkLabelsWrongFalsely : Prop := shrinkLabelsRow.holds Try.pinned (OpenSpec.ofChange shrinkLabelsWrong)

/-- 'weathervanelaw19.ShrinkBy': WHATEVER THE INPUT: true; the input reads as it did. -/
def shrinkBySpec : ChangeSpec := { name := "shrinkBy", fn := fun _ => fun
  | [d1, d2] => { results := [.lit (.bool true)], args := [d1, d2] }
  | _ => none }
def shrinkByRow : OpenClaim := { program := "ytjggjhgbobmkhaa", sum := "a6580d1310f8b45d1e03b86ac31db2905988bb517fc82e6a9a945f2fda85636d", func := "weathervane/weathervanelaw19.ShrinkBy", spec := "shrinkBy", inPlace := ["slices.overlaps[weathervane/pile.block]"], unfollowed := true, recurses := true, apart := false }
def ShrinkBySaid : Prop := shrinkByRow.holds Try.pinned (OpenSpec.ofChange shrinkBySpec)

/-- ITS FALSE NEIGHBOUR: 'it returns false'. Refute it at one input. -/
def shrinkByWrong : ChangeSpec := { name := "shrinkBy", fn := fun _ => fun
  | [d1, d2] => { results := [.lit (.bool false)], args := [d1, d2] }
  | _ => none }
def ShrinkByWrongFalsely : Prop := shrinkByRow.holds Try.pinned (OpenSpec.ofChange shrinkByWrong)

/-- 'weathervanelaw19.ShrinkSame': WHATEVER THE INPUT: true; the input reads as it did. -/
def shrinkSameSpec : ChangeSpec := { name := "shrinkSame", fn := fun _ => fun
  | [d1, d2] => { results := [.lit (.bool true)], args := [d1, d2] }
  | _ => none }
def shrinkSameRow : OpenClaim := { program := "ytjggjhgbobmkhaa", sum := "a6580d1310f8b45d1e03b86ac31db2905988bb517fc82e6a9a945f2fda85636d", func := "weathervane/weathervanelaw19.ShrinkSame", spec := "shrinkSame", inPlace := ["slices.overlaps[weathervane/pile.block]"], unfollowed := true, recurses := true, apart := false }
def ShrinkSameSaid : Prop := shrinkSameRow.holds Try.pinned (OpenSpec.ofChange shrinkSameSpec)

/-- ITS FALSE NEIGHBOUR: 'it returns false'. Refute it at one input. -/
def shrinkSameWrong : ChangeSpec := { name := "shrinkSame", fn := fun _ => fun
  | [d1, d2] => { results := [.lit (.bool false)], args := [d1, d2] }
  | _ => none }
def ShrinkSameWrongFalsely : Prop := shrinkSameRow.holds Try.pinned (OpenSpec.ofChange shrinkSameWrong)

/-- 'weathervanelaw19.ShrinkErrs': WHATEVER THE INPUT: true; the input reads as it did. -/
def shrinkErrsSpec : ChangeSpec := { name := "shrinkErrs", fn := fun _ => fun
  | [d1, d2] => { results := [.lit (.bool true)], args := [d1, d2] }
  | _ => none }
def shrinkErrsRow : OpenClaim := { program := "ytjggjhgbobmkhaa", sum := "a6580d1310f8b45d1e03b86ac31db2905988bb517fc82e6a9a945f2fda85636d", func := "weathervane/weathervanelaw19.ShrinkErrs", spec := "shrinkErrs", inPlace := ["slices.overlaps[weathervane/pile.block]"], unfollowed := true, recurses := true, apart := false }
def ShrinkErrsSaid : Prop := shrinkErrsRow.holds Try.pinned (OpenSpec.ofChange shrinkErrsSpec)

/-- ITS FALSE NEIGHBOUR: 'it returns false'. Refute it at one input. -/
def shrinkErrsWrong : ChangeSpec := { name := "shrinkErrs", fn := fun _ => fun
  | [d1, d2] => { results := [.lit (.bool false)], args := [d1, d2] }
  | _ => none }
def ShrinkErrsWrongFalsely : Prop := shrinkErrsRow.holds Try.pinned (OpenSpec.ofChange shrinkErrsWrong)

/-- 'weathervanelaw19.ShrinkExample': WHATEVER THE INPUT: true; the input reads as it did. -/
def shrinkExampleSpec : ChangeSpec := { name := "shrinkExample", fn := fun _ => fun
  | [d1, d2] => { results := [.lit (.bool true)], args := [d1, d2] }
  | _ => none }
def shrinkExampleRow : OpenClaim := { program := "ytjggjhgbobmkhaa", sum := "a6580d1310f8b45d1e03b86ac31db2905988bb517fc82e6a9a945f2fda85636d", func := "weathervane/weathervanelaw19.ShrinkExample", spec := "shrinkExample", inPlace := ["slices.overlaps[weathervane/pile.block]"], unfollowed := true, recurses := true, apart := false }
def ShrinkExampleSaid : Prop := shrinkExampleRow.holds Try.pinned (OpenSpec.ofChange shrinkExampleSpec)

/-- ITS FALSE NEIGHBOUR: 'it returns false'. Refute it at one input. -/
def shrinkExampleWrong : ChangeSpec := { name := "shrinkExample", fn := fun _ => fun
  | [d1, d2] => { results := [.lit (.bool false)], args := [d1, d2] }
  | _ => none }
def ShrinkExampleWrongFalsely : Prop := shrinkExampleRow.holds Try.pinned (OpenSpec.ofChange shrinkExampleWrong)

/-- 'weathervanelaw19.ShrinkTwice': WHATEVER THE INPUT: true; the input reads as it did. -/
def shrinkTwiceSpec : ChangeSpec := { name := "shrinkTwice", fn := fun _ => fun
  | [d1, d2, d3] => { results := [.lit (.bool true)], args := [d1, d2, d3] }
  | _ => none }
def shrinkTwiceRow : OpenClaim := { program := "ytjggjhgbobmkhaa", sum := "a6580d1310f8b45d1e03b86ac31db2905988bb517fc82e6a9a945f2fda85636d", func := "weathervane/weathervanelaw19.ShrinkTwice", spec := "shrinkTwice", inPlace := ["slices.overlaps[weathervane/pile.block]"], unfollowed := true, recurses := true, apart := false }
def ShrinkTwiceSaid : Prop := shrinkTwiceRow.holds Try.pinned (OpenSpec.ofChange shrinkTwiceSpec)

/-- ITS FALSE NEIGHBOUR: 'it returns false'. Refute it at one input. -/
def shrinkTwiceWrong : ChangeSpec := { name := "shrinkTwice", fn := fun _ => fun
  | [d1, d2, d3] => { results := [.lit (.bool false)], args := [d1, d2, d3] }
  | _ => none }
def ShrinkTwiceWrongFalsely : Prop := shrinkTwiceRow.holds Try.pinned (OpenSpec.ofChange shrinkTwiceWrong)

/- THE SECOND FORM. 'bulk': how many values and letters a reading holds, each counted each time it is reached (what is shared counts as often as it is met; a slice's spare places count too). A statement '..UptoSaid' is the law's where the arguments, and the package variables that the reading takes, are together of bulk at most 1048576: NARROWER than '..Said'. Prove '..Said' where nothing that the law and all that it calls make is longer than what came in: it says more and counts as full. Else prove '..UptoSaid'. A law counts once. -/
mutual
def uptoBulk {H : Type} : DataW H → Nat
  | .lit (.string bytes) => bytes.length + 1
  | .lit _ => 1
  | .nil => 1
  | .ptr d => uptoBulk d + 1
  | .slice elems spare => uptoBulkAll elems + uptoBulkAll spare + 1
  | .agg parts => uptoBulkAll parts + 1
  | .iface _ d => uptoBulk d + 1
  | .map entries => uptoBulkEntries entries + 1
  | .held _ => 1
def uptoBulkAll {H : Type} : List (DataW H) → Nat
  | [] => 0
  | d :: r => uptoBulk d + uptoBulkAll r
def uptoBulkEntries {H : Type} : List (Lit × DataW H) → Nat
  | [] => 0
  | x :: r => uptoBulkEntry x + uptoBulkEntries r
def uptoBulkEntry {H : Type} : Lit × DataW H → Nat
  | (.string bytes, d) => bytes.length + uptoBulk d + 1
  | (_, d) => uptoBulk d + 1
 end
def uptoSmall : (H : Type) → List (DataW H) → Bool := fun _ ds => decide (uptoBulkAll ds ≤ 1048576)
def OpenSpec.upto (s : _root_.Go.ChangeSpec) : _root_.Go.OpenSpec := { _root_.Go.OpenSpec.ofChange s with cond := some uptoSmall }

/-- 'weathervanelaw18.HuLabels', WHERE WHAT IT READS IS OF BULK AT MOST 1048576: true; the input reads as it did. -/
def huLabelsUptoRow : OpenClaim := { program := "ytjggjhgbobmkhaa", sum := "a6580d1310f8b45d1e03b86ac31db2905988bb517fc82e6a9a945f2fda85636d", func := "weathervane/weathervanelaw18.HuLabels", spec := "huLabels", inPlace := ["slices.overlaps[weathervane/pile.block]"], unfollowed := true, recurses := true, apart := false, narrowed := true }
def HuLabelsUptoSaid : Prop := huLabelsUptoRow.holds Try.pinned (OpenSpec.upto huLabelsSpec)

/-- 'weathervanelaw18.HuRow', WHERE WHAT IT READS IS OF BULK AT MOST 1048576: true; the input reads as it did. -/
def huRowUptoRow : OpenClaim := { program := "ytjggjhgbobmkhaa", sum := "a6580d1310f8b45d1e03b86ac31db2905988bb517fc82e6a9a945f2fda85636d", func := "weathervane/weathervanelaw18.HuRow", spec := "huRow", inPlace := ["slices.overlaps[weathervane/pile.block]"], unfollowed := true, recurses := true, apart := false, narrowed := true }
def HuRowUptoSaid : Prop := huRowUptoRow.holds Try.pinned (OpenSpec.upto huRowSpec)

/-- 'weathervanelaw18.HuOrders', WHERE WHAT IT READS IS OF BULK AT MOST 1048576: true; the input reads as it did. -/
def huOrdersUptoRow : OpenClaim := { program := "ytjggjhgbobmkhaa", sum := "a6580d1310f8b45d1e03b86ac31db2905988bb517fc82e6a9a945f2fda85636d", func := "weathervane/weathervanelaw18.HuOrders", spec := "huOrders", inPlace := ["slices.overlaps[weathervane/pile.block]"], unfollowed := true, recurses := true, apart := false, narrowed := true }
def HuOrdersUptoSaid : Prop := huOrdersUptoRow.holds Try.pinned (OpenSpec.upto huOrdersSpec)

/-- 'weathervanelaw18.HuSources', WHERE WHAT IT READS IS OF BULK AT MOST 1048576: true; the input reads as it did. -/
def huSourcesUptoRow : OpenClaim := { program := "ytjggjhgbobmkhaa", sum := "a6580d1310f8b45d1e03b86ac31db2905988bb517fc82e6a9a945f2fda85636d", func := "weathervane/weathervanelaw18.HuSources", spec := "huSources", inPlace := ["slices.overlaps[weathervane/pile.block]"], unfollowed := true, recurses := true, apart := false, narrowed := true }
def HuSourcesUptoSaid : Prop := huSourcesUptoRow.holds Try.pinned (OpenSpec.upto huSourcesSpec)

/-- 'weathervanelaw18.HuOvs', WHERE WHAT IT READS IS OF BULK AT MOST 1048576: true; the input reads as it did. -/
def huOvsUptoRow : OpenClaim := { program := "ytjggjhgbobmkhaa", sum := "a6580d1310f8b45d1e03b86ac31db2905988bb517fc82e6a9a945f2fda85636d", func := "weathervane/weathervanelaw18.HuOvs", spec := "huOvs", inPlace := ["slices.overlaps[weathervane/pile.block]"], unfollowed := true, recurses := true, apart := false, narrowed := true }
def HuOvsUptoSaid : Prop := huOvsUptoRow.holds Try.pinned (OpenSpec.upto huOvsSpec)

/-- 'weathervanelaw19.ShrinkLabels', WHERE WHAT IT READS IS OF BULK AT MOST 1048576: true; the input reads as it did. -/
def shrinkLabelsUptoRow : OpenClaim := { program := "ytjggjhgbobmkhaa", sum := "a6580d1310f8b45d1e03b86ac31db2905988bb517fc82e6a9a945f2fda85636d", func := "weathervane/weathervanelaw19.ShrinkLabels", spec := "shrinkLabels", inPlace := ["slices.overlaps[weathervane/pile.block]"], unfollowed := true, recurses := true, apart := false, narrowed := true }
def ShrinkLabelsUptoSaid : Prop := shrinkLabelsUptoRow.holds Try.pinned (OpenSpec.upto shrinkLabelsSpec)

/-- 'weathervanelaw19.ShrinkBy', WHERE WHAT IT READS IS OF BULK AT MOST 1048576: true; the input reads as it did. -/
def shrinkByUptoRow : OpenClaim := { program := "ytjggjhgbobmkhaa", sum := "a6580d1310f8b45d1e03b86ac31db2905988bb517fc82e6a9a945f2fda85636d", func := "weathervane/weathervanelaw19.ShrinkBy", spec := "shrinkBy", inPlace := ["slices.overlaps[weathervane/pile.block]"], unfollowed := true, recurses := true, apart := false, narrowed := true }
def ShrinkByUptoSaid : Prop := shrinkByUptoRow.holds Try.pinned (OpenSpec.upto shrinkBySpec)

/-- 'weathervanelaw19.ShrinkSame', WHERE WHAT IT READS IS OF BULK AT MOST 1048576: true; the input reads as it did. -/
def shrinkSameUptoRow : OpenClaim := { program := "ytjggjhgbobmkhaa", sum := "a6580d1310f8b45d1e03b86ac31db2905988bb517fc82e6a9a945f2fda85636d", func := "weathervane/weathervanelaw19.ShrinkSame", spec := "shrinkSame", inPlace := ["slices.overlaps[weathervane/pile.block]"], unfollowed := true, recurses := true, apart := false, narrowed := true }
def ShrinkSameUptoSaid : Prop := shrinkSameUptoRow.holds Try.pinned (OpenSpec.upto shrinkSameSpec)

/-- 'weathervanelaw19.ShrinkErrs', WHERE WHAT IT READS IS OF BULK AT MOST 1048576: true; the input reads as it did. -/
def shrinkErrsUptoRow : OpenClaim := { program := "ytjggjhgbobmkhaa", sum := "a6580d1310f8b45d1e03b86ac31db2905988bb517fc82e6a9a945f2fda85636d", func := "weathervane/weathervanelaw19.ShrinkErrs", spec := "shrinkErrs", inPlace := ["slices.overlaps[weathervane/pile.block]"], unfollowed := true, recurses := true, apart := false, narrowed := true }
def ShrinkErrsUptoSaid : Prop := shrinkErrsUptoRow.holds Try.pinned (OpenSpec.upto shrinkErrsSpec)

/-- 'weathervanelaw19.ShrinkExample', WHERE WHAT IT READS IS OF BULK AT MOST 1048576: true; the input reads as it did. -/
def shrinkExampleUptoRow : OpenClaim := { program := "ytjggjhgbobmkhaa", sum := "a6580d1310f8b45d1e03b86ac31db2905988bb517fc82e6a9a945f2fda85636d", func := "weathervane/weathervanelaw19.ShrinkExample", spec := "shrinkExample", inPlace := ["slices.overlaps[weathervane/pile.block]"], unfollowed := true, recurses := true, apart := false, narrowed := true }
def ShrinkExampleUptoSaid : Prop := shrinkExampleUptoRow.holds Try.pinned (OpenSpec.upto shrinkExampleSpec)

/-- 'weathervanelaw19.ShrinkTwice', WHERE WHAT IT READS IS OF BULK AT MOST 1048576: true; the input reads as it did. -/
def shrinkTwiceUptoRow : OpenClaim := { program := "ytjggjhgbobmkhaa", sum := "a6580d1310f8b45d1e03b86ac31db2905988bb517fc82e6a9a945f2fda85636d", func := "weathervane/weathervanelaw19.ShrinkTwice", spec := "shrinkTwice", inPlace := ["slices.overlaps[weathervane/pile.block]"], unfollowed := true, recurses := true, apart := false, narrowed := true }
def ShrinkTwiceUptoSaid : Prop := shrinkTwiceUptoRow.holds Try.pinned (OpenSpec.upto shrinkTwiceSpec)

end Rows
end Go.Proofs.Ytjggjhgbobmkhaa
