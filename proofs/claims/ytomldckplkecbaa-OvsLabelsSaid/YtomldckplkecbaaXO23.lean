/- least.object, least.rule. -/
import Derived.Test.YtomldckplkecbaaXF23
import Derived.Test.YtomldckplkecbaaY5
namespace Go.Proofs.Ytomldckplkecbaa
open Go.RowKit
set_option linter.unusedVariables false
set_option linter.unusedSimpArgs false
set_option maxRecDepth 100000
theorem not_mem_new {base : Nat} {w : World} {A : Option Addr} {M : Mat} {rb : List Nat} {n nc : Nat} (h : BMat base w A M rb n nc) {g : Nat} (hg : w.heap.size ≤ g) : g ∉ rb := fun hm => by have := (h.ge g hm).2; omega
theorem Keeps.low {rb : List Nat} {w0 w w1 : World} {base : Nat} {A : Option Addr} {M : Mat} {n nc : Nat} (h : Keeps rb w w1) (hM : BMat base w A M rb n nc) (hb : Below w0.heap.size w0 w) (h0 : w0.heap.size ≤ base) : Below w0.heap.size w0 w1 :=
  h.below hb hb.size fun k hk => Nat.le_trans h0 (hM.ge k hk).1
/-- The j first arguments are through. -/
def argsTo (c : Con) (x : Cell) (j : Nat) (N : Mat) : Prop := flowP c.a x.v N ∧ ∀ k, k < j → k < x.args.length → k < c.args.length → flowP x.args[k]! c.args[k]! N
end Go.Proofs.Ytomldckplkecbaa
