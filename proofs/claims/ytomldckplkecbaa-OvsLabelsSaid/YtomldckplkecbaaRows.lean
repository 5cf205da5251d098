/-
  No cell of these rows narrows 'for every input' (looked for: loops, veiled, ifaces, maps, wideKeys, modest, calm, conditions, laid).
  DERIVED. THE GIVEN ROWS OF THIS SEAT. 9 by the template 'for every input the law returns true; each argument reads behind the call as it read before'; 0 by the template 'total and deterministic' (their statements: YtomldckplkecbaaTotals.lean).
  GIVEN WITH THE SEED: the statements are not yours to turn. If you find one false, say at which input.
  Laid BY PROGRAM, IN A SANDBOX (cutbox-rows.mjs): the forced cells as the released guide's own fill.sh prints them over the translation 2c0e05d3b51bf41b… (all of the seat's roots in one cut). By AI agents, Wed Nov 11 2026. No macro, syntax, notation, axiom, sorry.
-/
import Derived.Test.YtomldckplkecbaaChecked
import GoSem.Claim
import GoSem.ClaimJoined
import GoSem.ClaimMapViews
import Derived.JoinedTies
import Derived.KernelRfl
namespace Go.Proofs.Ytomldckplkecbaa
/- THE CELL 'sum', in the pinned program and in every row, IS THE sha256 OF THE DUMP (.gsa) THAT YtomldckplkecbaaProg.lean LOADS. Nothing in Lean hashes anything: it is a label: what it is worth is what the hold of that sum in a sandbox is worth. -/
noncomputable def Try.pinned : Pinned := { name := "ytomldckplkecbaa", sum := "2c0e05d3b51bf41bf7949392bc2cc2ef29a460eb212488a06e758b86511dc24a", checked := Try.checked }
namespace Rows
def none {H : Type} : Left H := { results := [], args := [] }

/-- 'weathervanelaw16.KnotFind': WHATEVER THE INPUT: true; the input reads as it did. -/
def knotFindSpec : ChangeSpec := { name := "knotFind", fn := fun _ => fun
  | [d1, d2] => { results := [.lit (.bool true)], args := [d1, d2] }
  | _ => none }
def knotFindRow : OpenClaim := { program := "ytomldckplkecbaa", sum := "2c0e05d3b51bf41bf7949392bc2cc2ef29a460eb212488a06e758b86511dc24a", func := "weathervane/weathervanelaw16.KnotFind", spec := "knotFind", recurses := true, apart := false }
def KnotFindSaid : Prop := knotFindRow.holds Try.pinned (OpenSpec.ofChange knotFindSpec)

/-- ITS FALSE NEIGHBOUR: 'it returns false'. Refute it at one input. -/
def knotFindWrong : ChangeSpec := { name := "knotFind", fn := fun _ => fun
  | [d1, d2] => { results := [.lit (.bool false)], args := [d1, d2] }
  | _ => none }
def KnotFindWrongFalsely : Prop := knotFindRow.holds Try.pinned (OpenSpec.ofChange knotFindWrong)

/-- 'weathervanelaw16.KnotRing': WHATEVER THE INPUT: true; the input reads as it did. -/
def knotRingSpec : ChangeSpec := { name := "knotRing", fn := fun _ => fun
  | [d1, d2] => { results := [.lit (.bool true)], args := [d1, d2] }
  | _ => none }
def knotRingRow : OpenClaim := { program := "ytomldckplkecbaa", sum := "2c0e05d3b51bf41bf7949392bc2cc2ef29a460eb212488a06e758b86511dc24a", func := "weathervane/weathervanelaw16.KnotRing", spec := "knotRing", recurses := true, apart := false }
def KnotRingSaid : Prop := knotRingRow.holds Try.pinned (OpenSpec.ofChange knotRingSpec)

/-- ITS FALSE NEIGHBOUR: 'it returns false'. Refute it at one input. -/
def knotRingWrong : ChangeSpec := { name := "knotRing", fn := fun _ => fun
  | [d1, d2] => { results := [.lit (.bool false)], args := [d1, d2] }
  | _ => none }
def KnotRingWrongFalsely : Prop := knotRingRow.holds Try.pinned (OpenSpec.ofChange knotRingWrong)

/-- 'weathervanelaw16.KnotKeeps': WHATEVER THE INPUT: true; the input reads as it did. -/
def knotKeepsSpec : ChangeSpec := { name := "knotKeeps", fn := fun _ => fun
  | [d] => { results := [.lit (.bool true)], args := [d] }
  | _ => none }
def knotKeepsRow : OpenClaim := { program := "ytomldckplkecbaa", sum := "2c0e05d3b51bf41bf7949392bc2cc2ef29a460eb212488a06e758b86511dc24a", func := "weathervane/weathervanelaw16.KnotKeeps", spec := "knotKeeps", recurses := true, apart := false }
def KnotKeepsSaid : Prop := knotKeepsRow.holds Try.pinned (OpenSpec.ofChange knotKeepsSpec)

/-- ITS FALSE NEIGHBOUR: 'it returns false'. Refute it at one input. -/
def knotKeepsWrong : ChangeSpec := { name := "knotKeeps", fn := fun _ => fun
  | [d] => { results := [.lit (.bool false)], args := [d] }
  | _ => none }
def KnotKeepsWrongFalsely : Prop := knotKeepsRow.holds Try.pinned (OpenSpec.ofChange knotKeepsWrong)

/-- 'weathervanelaw16.KnotTurned': WHATEVER THE INPUT: true; the input reads as it did. -/
def knotTurnedSpec : ChangeSpec := { name := "knotTurned", fn := fun _ => fun
  | [d] => { results := [.lit (.bool true)], args := [d] }
  | _ => none }
def knotTurnedRow : OpenClaim := { program := "ytomldckplkecbaa", sum := "2c0e05d3b51bf41bf7949392bc2cc2ef29a460eb212488a06e758b86511dc24a", func := "weathervane/weathervanelaw16.KnotTurned", spec := "knotTurned", recurses := true, apart := false }
def KnotTurnedSaid : Prop := knotTurnedRow.holds Try.pinned (OpenSpec.ofChange knotTurnedSpec)

/-- ITS FALSE NEIGHBOUR: 'it returns false'. Refute it at one input. -/
def knotTurnedWrong : ChangeSpec := { name := "knotTurned", fn := fun _ => fun
  | [d] => { results := [.lit (.bool false)], args := [d] }
  | _ => none }
def KnotTurnedWrongFalsely : Prop := knotTurnedRow.holds Try.pinned (OpenSpec.ofChange knotTurnedWrong)

/-- 'weathervanelaw16.KnotSelf': WHATEVER THE INPUT: true; the input reads as it did. -/
def knotSelfSpec : ChangeSpec := { name := "knotSelf", fn := fun _ => fun
  | [d1, d2] => { results := [.lit (.bool true)], args := [d1, d2] }
  | _ => none }
def knotSelfRow : OpenClaim := { program := "ytomldckplkecbaa", sum := "2c0e05d3b51bf41bf7949392bc2cc2ef29a460eb212488a06e758b86511dc24a", func := "weathervane/weathervanelaw16.KnotSelf", spec := "knotSelf", recurses := true, apart := false }
def KnotSelfSaid : Prop := knotSelfRow.holds Try.pinned (OpenSpec.ofChange knotSelfSpec)

/-- ITS FALSE NEIGHBOUR: 'it returns false'. Refute it at one input. -/
def knotSelfWrong : ChangeSpec := { name := "knotSelf", fn := fun _ => fun
  | [d1, d2] => { results := [.lit (.bool false)], args := [d1, d2] }
  | _ => none }
def KnotSelfWrongFalsely : Prop := knotSelfRow.holds Try.pinned (OpenSpec.ofChange knotSelfWrong)

/-- 'weathervanelaw17.OvsAlike': WHATEVER THE INPUT: true; the input reads as it did. -/
def ovsAlikeSpec : ChangeSpec := { name := "ovsAlike", fn := fun _ => fun
  | [d] => { results := [.lit (.bool true)], args := [d] }
  | _ => none }
def ovsAlikeRow : OpenClaim := { program := "ytomldckplkecbaa", sum := "2c0e05d3b51bf41bf7949392bc2cc2ef29a460eb212488a06e758b86511dc24a", func := "weathervane/weathervanelaw17.OvsAlike", spec := "ovsAlike", unfollowed := true, recurses := true, apart := false }
def OvsAlikeSaid : Prop := ovsAlikeRow.holds Try.pinned (OpenSpec.ofChange ovsAlikeSpec)

/-- ITS FALSE NEIGHBOUR: 'it returns false'. Refute it at one input. -/
def ovsAlikeWrong : ChangeSpec := { name := "ovsAlike", fn := fun _ => fun
  | [d] => { results := [.lit (.bool false)], args := [d] }
  | _ => none }
def OvsAlikeWrongFalsely : Prop := ovsAlikeRow.holds Try.pinned (OpenSpec.ofChange ovsAlikeWrong)

/-- 'weathervanelaw17.OvsLabels': WHATEVER THE INPUT: true; the input reads as it did. -/
def ovsLabelsSpec : ChangeSpec := { name := "ovsLabels", fn := fun _ => fun
  | [d] => { results := [.lit (.bool true)], args := [d] }
  | _ => none }
def ovsLabelsRow : OpenClaim := { program := "ytomldckplkecbaa", sum := "2c0e05d3b51bf41bf7949392bc2cc2ef29a460eb212488a06e758b86511dc24a", func := "weathervane/weathervanelaw17.OvsLabels", spec := "ovsLabels", unfollowed := true, recurses := true, apart := false }
def OvsLabelsSaid : Prop := ovsLabelsRow.holds Try.pinned (OpenSpec.ofChange ovsLabelsSpec)

/-- ITS FALSE NEIGHBOUR: 'it returns false'. Refute it at one input. -/
def ovsLabelsWrong : ChangeSpec := { name := "ovsLabels", fn := fun _ => fun
  | [d] => { results := [.lit (.bool false)], args := [d] }
  | _ => none }
def OvsLabelsWrongFalsely : Prop := ovsLabelsRow.holds Try.pinned (OpenSpec.ofChange ovsLabelsWrong)

/-- 'weathervanelaw17.OvsEmpty': WHATEVER THE INPUT: true; the input reads as it did. -/
def ovsEmptySpec : ChangeSpec := { name := "ovsEmpty", fn := fun _ => fun
  | [d] => { results := [.lit (.bool true)], args := [d] }
  | _ => none }
def ovsEmptyRow : OpenClaim := { program := "ytomldckplkecbaa", sum := "2c0e05d3b51bf41bf7949392bc2cc2ef29a460eb212488a06e758b86511dc24a", func := "weathervane/weathervanelaw17.OvsEmpty", spec := "ovsEmpty", unfollowed := true, recurses := true, apart := false }
def OvsEmptySaid : Prop := ovsEmptyRow.holds Try.pinned (OpenSpec.ofChange ovsEmptySpec)

/-- ITS FALSE NEIGHBOUR: 'it returns false'. Refute it at one input. -/
def ovsEmptyWrong : ChangeSpec := { name := "ovsEmpty", fn := fun _ => fun
  | [d] => { results := [.lit (.bool false)], args := [d] }
  | _ => none }
def OvsEmptyWrongFalsely : Prop := ovsEmptyRow.holds Try.pinned (OpenSpec.ofChange ovsEmptyWrong)

/-- 'weathervanelaw17.OvsRow': WHATEVER THE INPUT: true; the input reads as it did. -/
def ovsRowSpec : ChangeSpec := { name := "ovsRow", fn := fun _ => fun
  | [d1, d2] => { results := [.lit (.bool true)], args := [d1, d2] }
  | _ => none }
def ovsRowRow : OpenClaim := { program := "ytomldckplkecbaa", sum := "2c0e05d3b51bf41bf7949392bc2cc2ef29a460eb212488a06e758b86511dc24a", func := "weathervane/weathervanelaw17.OvsRow", spec := "ovsRow", unfollowed := true, recurses := true, apart := false }
def OvsRowSaid : Prop := ovsRowRow.holds Try.pinned (OpenSpec.ofChange ovsRowSpec)

/-- ITS FALSE NEIGHBOUR: 'it returns false'. Refute it at one input. -/
def ovsRowWrong : ChangeSpec := { name := "ovsRow", fn := fun _ => fun
  | [d1, d2] => { results := [.lit (.bool false)], args := [d1, d2] }
  | _ => none }
def OvsRowWrongFalsely : Prop := ovsRowRow.holds Try.pinned (OpenSpec.ofChange ovsRowWrong)

/- THE SECOND FORM. 'bulk': how many values and letters a reading holds, each counted each time it is reached (what is shared counts as often as it is met; a slice's spare places count too). A statement '..UptoSaid' is the law's where the arguments, and the package variables that the reading takes, are together of bulk at most 1048576: NARROWER than '..Said'. Prove '..Said' where nothing that the law and all that it calls make is longer than what came in: it says more and counts as full. Else prove '..UptoSaid'. A law counts once. -/
mutual
def uptoBulk {H : Type} : DataW H → Nat
  | .lit (.string bytes) => bytes.length + 1
  | .lit _ => 1
  | .nil => 1
  | .ptr d => uptoBulk d + 1
  | .slice elems spare => uptoBulkAll elems + uptoBulkAll spare + 1
  | .agg parts => uptoBulkAll parts + 1
  | .iface _ d => uptoBulk d + 1
  | .map entries => uptoBulkEntries entries + 1
  | .held _ => 1
def uptoBulkAll {H : Type} : List (DataW H) → Nat
  | [] => 0
  | d :: r => uptoBulk d + uptoBulkAll r
def uptoBulkEntries {H : Type} : List (Lit × DataW H) → Nat
  | [] => 0
  | x :: r => uptoBulkEntry x + uptoBulkEntries r
def uptoBulkEntry {H : Type} : Lit × DataW H → Nat
  | (.string bytes, d) => bytes.length + uptoBulk d + 1
  | (_, d) => uptoBulk d + 1
 end
def uptoSmall : (H : Type) → List (DataW H) → Bool := fun _ ds => decide (uptoBulkAll ds ≤ 1048576)
def OpenSpec.upto (s : _root_.Go.ChangeSpec) : _root_.Go.OpenSpec := { _root_.Go.OpenSpec.ofChange s with cond := some uptoSmall }

/-- 'weathervanelaw16.KnotFind', WHERE WHAT IT READS IS OF BULK AT MOST 1048576: true; the input reads as it did. -/
def knotFindUptoRow : OpenClaim := { program := "ytomldckplkecbaa", sum := "2c0e05d3b51bf41bf7949392bc2cc2ef29a460eb212488a06e758b86511dc24a", func := "weathervane/weathervanelaw16.KnotFind", spec := "knotFind", recurses := true, apart := false, narrowed := true }
def KnotFindUptoSaid : Prop := knotFindUptoRow.holds Try.pinned (OpenSpec.upto knotFindSpec)

/-- 'weathervanelaw16.KnotRing', WHERE WHAT IT READS IS OF BULK AT MOST 1048576: true; the input reads as it did. -/
def knotRingUptoRow : OpenClaim := { program := "ytomldckplkecbaa", sum := "2c0e05d3b51bf41bf7949392bc2cc2ef29a460eb212488a06e758b86511dc24a", func := "weathervane/weathervanelaw16.KnotRing", spec := "knotRing", recurses := true, apart := false, narrowed := true }
def KnotRingUptoSaid : Prop := knotRingUptoRow.holds Try.pinned (OpenSpec.upto knotRingSpec)

/-- 'weathervanelaw16.KnotKeeps', WHERE WHAT IT READS IS OF BULK AT MOST 1048576: true; the input reads as it did. -/
def knotKeepsUptoRow : OpenClaim := { program := "ytomldckplkecbaa", sum := "2c0e05d3b51bf41bf7949392bc2cc2ef29a460eb212488a06e758b86511dc24a", func := "weathervane/weathervanelaw16.KnotKeeps", spec := "knotKeeps", recurses := true, apart := false, narrowed := true }
def KnotKeepsUptoSaid : Prop := knotKeepsUptoRow.holds Try.pinned (OpenSpec.upto knotKeepsSpec)

/-- 'weathervanelaw16.KnotTurned', WHERE WHAT IT READS IS OF BULK AT MOST 1048576: true; the input reads as it did. -/
def knotTurnedUptoRow : OpenClaim := { program := "ytomldckplkecbaa", sum := "2c0e05d3b51bf41bf7949392bc2cc2ef29a460eb212488a06e758b86511dc24a", func := "weathervane/weathervanelaw16.KnotTurned", spec := "knotTurned", recurses := true, apart := false, narrowed := true }
def KnotTurnedUptoSaid : Prop := knotTurnedUptoRow.holds Try.pinned (OpenSpec.upto knotTurnedSpec)

/-- 'weathervanelaw16.KnotSelf', WHERE WHAT IT READS IS OF BULK AT MOST 1048576: true; the input reads as it did. -/
def knotSelfUptoRow : OpenClaim := { program := "ytomldckplkecbaa", sum := "2c0e05d3b51bf41bf7949392bc2cc2ef29a460eb212488a06e758b86511dc24a", func := "weathervane/weathervanelaw16.KnotSelf", spec := "knotSelf", recurses := true, apart := false, narrowed := true }
def KnotSelfUptoSaid : Prop := knotSelfUptoRow.holds Try.pinned (OpenSpec.upto knotSelfSpec)

/-- 'weathervanelaw17.OvsAlike', WHERE WHAT IT READS IS OF BULK AT MOST 1048576: true; the input reads as it did. -/
def ovsAlikeUptoRow : OpenClaim := { program := "ytomldckplkecbaa", sum := "2c0e05d3b51bf41bf7949392bc2cc2ef29a460eb212488a06e758b86511dc24a", func := "weathervane/weathervanelaw17.OvsAlike", spec := "ovsAlike", unfollowed := true, recurses := true, apart := false, narrowed := true }
def OvsAlikeUptoSaid : Prop := ovsAlikeUptoRow.holds Try.pinned (OpenSpec.upto ovsAlikeSpec)

/-- 'weathervanelaw17.OvsLabels', WHERE WHAT IT READS IS OF BULK AT MOST 1048576: true; the input reads as it did. -/
def ovsLabelsUptoRow : OpenClaim := { program := "ytomldckplkecbaa", sum := "2c0e05d3b51bf41bf7949392bc2cc2ef29a460eb212488a06e758b86511dc24a", func := "weathervane/weathervanelaw17.OvsLabels", spec := "ovsLabels", unfollowed := true, recurses := true, apart := false, narrowed := true }
def OvsLabelsUptoSaid : Prop := ovsLabelsUptoRow.holds Try.pinned (OpenSpec.upto ovsLabelsSpec)

/-- 'weathervanelaw17.OvsEmpty', WHERE WHAT IT READS IS OF BULK AT MOST 1048576: true; the input reads as it did. -/
def ovsEmptyUptoRow : OpenClaim := { program := "ytomldckplkecbaa", sum := "2c0e05d3b51bf41bf7949392bc2cc2ef29a460eb212488a06e758b86511dc24a", func := "weathervane/weathervanelaw17.OvsEmpty", spec := "ovsEmpty", unfollowed := true, recurses := true, apart := false, narrowed := true }
def OvsEmptyUptoSaid : Prop := ovsEmptyUptoRow.holds Try.pinned (OpenSpec.upto ovsEmptySpec)

/-- 'weathervanelaw17.OvsRow', WHERE WHAT IT READS IS OF BULK AT MOST 1048576: true; the input reads as it did. -/
def ovsRowUptoRow : OpenClaim := { program := "ytomldckplkecbaa", sum := "2c0e05d3b51bf41bf7949392bc2cc2ef29a460eb212488a06e758b86511dc24a", func := "weathervane/weathervanelaw17.OvsRow", spec := "ovsRow", unfollowed := true, recurses := true, apart := false, narrowed := true }
def OvsRowUptoSaid : Prop := ovsRowUptoRow.holds Try.pinned (OpenSpec.upto ovsRowSpec)

end Rows
end Go.Proofs.Ytomldckplkecbaa
