/- Several texts of one claim in one file: M12. -/
import Derived.Test.YtjggjhgbobmkhaaY9
import Derived.Test.YtjggjhgbobmkhaaY4
import Derived.Test.YtjggjhgbobmkhaaY5
/- The reference's Make: what it makes is a system that may be, in rows of its own. -/
namespace Go.Proofs.Ytjggjhgbobmkhaa
open Go.RowKit
set_option linter.unusedVariables false
set_option linter.unusedSimpArgs false
set_option maxRecDepth 100000
/-- Rows of its own, and good. -/
structure Made (base : Nat) (w : World) (s : Sys) (va vb : Value) (bs cs : List Nat) : Prop where
  cells : GRow 3 dCell 44 base w va s.cells bs
  cons : GRow 4 dCon 46 base w vb s.cons cs
  ab : ∀ k, va.ownBlock = some k → vb.ownBlock ≠ some k ∧ k ∉ cs
  ba : ∀ k, vb.ownBlock = some k → k ∉ bs
  bc : ∀ k ∈ bs, k ∉ cs
  vars : 1 ≤ s.vars ∧ s.vars ≤ 12
  ncells : s.cells.length ≤ 7
  ncons : s.cons.length ≤ 40
  gcells : ∀ k, k < s.cells.length → cellOk s.vars s.cells[k]! = true
  gcons : ∀ k, k < s.cons.length → conOk s.vars s.cells.length s.cons[k]! = true
theorem Made.right {base : Nat} {w : World} {s : Sys} {va vb : Value} {bs cs : List Nat} (h : Made base w s va vb bs cs) : rightB s = true :=
  right_all (by have := h.vars; omega) (by have := h.vars; omega) (by have := h.ncells; omega) (by have := h.ncons; omega) h.gcells h.gcons
/-- In the loop that makes the cells. -/
structure M1 (w0 w : World) (B g1 g2 g3 : Nat) (c1 : List Value) (V : Int) (i : Nat) (va vb : Value) (xs : List Cell) (bs : List Nat) : Prop where
  below : Below w0.heap.size w0 w
  b1 : w.heap[g1]? = some (.cells c1.toArray 24 (0, 0))
  b2 : w.heap[g2]? = some (.cells #[.int .i64 0, .slice none 0 0, .slice none 0 0] 29 (0, 0))
  b3 : w.heap[g3]? = some (.cells #[.int .i64 V, va, vb] 29 (0, 0))
  row : GRow 3 dCell 44 B w va xs bs
  len : xs.length = i
  good : ∀ k, k < xs.length → cellOk V xs[k]! = true
  size : B ≤ w.heap.size
/-- In the loop that makes a cell's arguments: gr: the blocks that may have been written. -/
structure M2 (w6 w : World) (B6 g6 : Nat) (fn : Bool) (v : Int) (V : Int) (k : Nat) (vs : Value) (ys : List Int) : Prop where
  grown : w6.grownBy w (some g6)
  blk : w.heap[g6]? = some (.cells #[.bool fn, .int .i64 v, vs] 44 (0, 0))
  row : GInts B6 w vs ys
  len : ys.length = k
  good : ∀ y ∈ ys, 0 ≤ y ∧ y < V
  nil : fn = true ∨ k = 0
end Go.Proofs.Ytjggjhgbobmkhaa
