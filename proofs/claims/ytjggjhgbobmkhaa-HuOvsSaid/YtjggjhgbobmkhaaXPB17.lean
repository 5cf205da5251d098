/- A system's graph tells its sources: plain. -/
import Derived.Test.YtjggjhgbobmkhaaXPA17
namespace Go.Proofs.Ytjggjhgbobmkhaa
set_option linter.unusedVariables false
set_option linter.unusedSimpArgs false
section
variable {n : Nat} {xs : List Cell} {ys : List Con}
abbrev gl (n : Nat) (xs : List Cell) (ys : List Con) (kn : List (List Nat)) (of : Nat → Nat) (v : Nat) : Int := lv n (gInto n xs ys) (gBases n xs ys) (gLoose n xs ys) kn of v
end
end Go.Proofs.Ytjggjhgbobmkhaa
