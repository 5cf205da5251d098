/- Small things that many texts use. -/
import Derived.Test.YtkjbkalakafnlaaDoorE8
namespace Go.Proofs.YtkjbkalakafnlaaDoor
open Go.RowKit
set_option linter.unusedVariables false
set_option linter.unusedSimpArgs false
def vb (xs : List Bool) : List Value := xs.map Value.bool
theorem fold_take {α β : Type} [Inhabited α] (f : β → α → β) (z : β) {xs : List α} {i : Nat} (h : i < xs.length) : (xs.take (i + 1)).foldl f z = f ((xs.take i).foldl f z) xs[i]! := by
  have e : xs.take (i + 1) = xs.take i ++ [xs[i]!] := by
    rw [getElem!_pos xs i h]
    simp
  rw [e, List.foldl_append]
  rfl
theorem fold_all {α β : Type} (f : β → α → β) (z : β) {xs : List α} {i : Nat} (h : ¬ i < xs.length) : (xs.take i).foldl f z = xs.foldl f z := by rw [List.take_of_length_le (by omega)]
theorem below_of_grown {w w1 : World} (h : w.grownBy w1 none) : Below w.heap.size w w1 := ⟨h.os, h.tape, h.output, h.size, fun k hk => h.block k hk nofun⟩
theorem rowBE {w : World} {A : Option Addr} {xs : List Bool} (h : RowR 1 dB w A xs) (i : Nat) (hi : i < xs.length) : ∃ ad, A = some ad ∧ w.cell? (ad.add (i * 1)) = some (.bool xs[i]!) := by
  obtain ⟨ad, cs, e, l, hc, hd⟩ := row_at h i hi
  rw [show cs = [.bool xs[i]!] from hd] at hc
  exact ⟨ad, e, hc.1⟩
theorem gints_push {base : Nat} {w w1 : World} {v v' : Value} {ys : List Int} {flat : List Value} {y : Int} (h : GInts base w v ys) (hflat : ∀ w', (∀ b ∈ ([] : List Nat), w'.heap[b]? = w.heap[b]?) → Elems 1 (dI .i64) w' flat ys) (hown : w1.ownsRow base 3 1 v' (ys.length + 1) (flat ++ [.int .i64 y])) (hg : w.grownBy w1 v.ownBlock)
    (hob : v'.ownBlock = v.ownBlock ∨ v'.ownBlock = some w.heap.size) (hy : -9223372036854775808 ≤ y ∧ y ≤ 9223372036854775807) : GInts base w1 v' (ys ++ [y]) := by
  have := h.push hflat hown hg hob rfl (bs' := []) (x := y) (fun w' _ => ⟨rfl, hy⟩) (by simp) (by simp)
  simpa using this
theorem mem_own {v : Value} {b : Nat} (h : b ∈ v.ownBlock.toList) : v.ownBlock = some b := by simpa using h
end Go.Proofs.YtkjbkalakafnlaaDoor
