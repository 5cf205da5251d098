/- Loose: the list that is marked, and the question of one variable, say the same. -/
import Derived.Test.YtmlepfngcpekiaaL12L
namespace Go.Proofs.Ytmlepfngcpekiaa
open Go.RowKit
set_option linter.unusedVariables false
set_option linter.unusedSimpArgs false
def cellLoose (v : Int) (c : Cell) : Bool := decide (c.v = v) || c.args.any fun n => decide (n = v)
def conLoose (v : Int) (c : Con) : Bool := decide (c.k = 5) && decide (c.a = v)
def looseAt (s : Sys) (v : Int) : Bool := s.cells.any (cellLoose v) || s.cons.any (conLoose v)
theorem any_true {α : Type} [Inhabited α] {p : α → Bool} {xs : List α} {k : Nat} (hk : k < xs.length) (h : p xs[k]! = true) : xs.any p = true := by
  rw [List.any_eq_true]
  exact ⟨_, mem_get hk, h⟩
theorem any_false {α : Type} [Inhabited α] {p : α → Bool} {xs : List α} (h : ∀ k, k < xs.length → p xs[k]! = false) : xs.any p = false := by
  rw [List.any_eq_false]
  intro x hx
  obtain ⟨k, hk, rfl⟩ := List.getElem_of_mem hx
  have := h k hk
  rw [getElem!_pos xs k hk] at this
  rw [this]; simp
theorem markB_get {xs : List Bool} {v : Nat} (hv : v < xs.length) (n : Int) : (markB xs n)[v]! = (xs[v]! || decide (n = (v : Int))) := by
  unfold markB
  split
  · rename_i hn
    rw [getElem!_pos (xs.set n.toNat true) v (by simpa using hv), getElem!_pos xs v hv, List.getElem_set]
    by_cases e : n = (v : Int)
    · simp [e]
    · rw [if_neg (by omega)]
      simp [e]
  · rename_i hn
    rw [show decide (n = (v : Int)) = false by simp; omega]
    simp
theorem fold_get {α : Type} {f : List Bool → α → List Bool} {p : α → Bool} {v : Nat} (hl : ∀ xs c, (f xs c).length = xs.length) (hf : ∀ (xs : List Bool) (c : α), v < xs.length → (f xs c)[v]! = (xs[v]! || p c)) :
    ∀ (l : List α) (xs : List Bool), v < xs.length → (l.foldl f xs)[v]! = (xs[v]! || l.any p)
  | [], xs, h => by simp
  | c :: l, xs, h => by
    rw [List.foldl_cons, fold_get hl hf l _ (by rw [hl]; exact h), hf xs c h]
    simp [Bool.or_assoc]
theorem looseB_len (s : Sys) : (looseB s).length = s.vars.toNat := by
  rw [looseB, fold_len conMarks_len, fold_len cellMarks_len, List.length_replicate]
theorem looseB_get (s : Sys) {v : Nat} (hv : v < s.vars.toNat) : (looseB s)[v]! = looseAt s v := by
  have h0 : v < (List.replicate s.vars.toNat false).length := by simpa using hv
  rw [looseB, fold_get (p := conLoose v) conMarks_len ?_ _ _ (by rw [fold_len cellMarks_len]; exact h0), fold_get (p := cellLoose v) cellMarks_len ?_ _ _ h0]
  · rw [getElem!_pos (List.replicate s.vars.toNat false) v h0]
    simp [looseAt]
  · intro xs c h
    rw [cellMarks, fold_get (p := fun n => decide (n = (v : Int))) markB_len (fun xs n h => markB_get h n) _ _ (by rw [markB_len]; exact h), markB_get h]
    simp [cellLoose, Bool.or_assoc]
  · intro xs c h
    unfold conMarks conLoose
    split
    · rename_i e
      rw [markB_get h]
      simp [e]
    · rename_i e
      simp [e]
end Go.Proofs.Ytmlepfngcpekiaa
