/- Cuts of rows; the walk of LeastLess. -/
import Derived.Test.YtkjbkalakafnlaaDoorZ5
import Derived.Test.YtkjbkalakafnlaaDoorZ21
import Derived.Test.YtkjbkalakafnlaaDoorXL2303
namespace Go.Proofs.YtkjbkalakafnlaaDoor
open Go.RowKit
set_option linter.unusedVariables false
set_option linter.unusedSimpArgs false
set_option maxRecDepth 100000
theorem Elems.app {α : Type} [Inhabited α] {sz : Nat} {d : Dec α} {w : World} {f1 f2 : List Value} {xs ys : List α} (h : Elems sz d w f1 xs) (h2 : Elems sz d w f2 ys) : Elems sz d w (f1 ++ f2) (xs ++ ys) := by
  refine ⟨by simp [h.1, h2.1, Nat.add_mul], fun i hi => ?_⟩
  rw [List.length_append] at hi
  rcases Nat.lt_or_ge i xs.length with hl | hl
  · have h1 : i * sz + sz ≤ f1.length := by rw [h.1, ← Nat.succ_mul]; exact Nat.mul_le_mul_right _ hl
    rw [List.drop_append_of_le_length (by omega), List.take_append_of_le_length (by rw [List.length_drop]; omega), getElem!_pos _ i (by simp; omega), List.getElem_append_left hl]
    have := h.2 i hl
    rwa [getElem!_pos xs i hl] at this
  · obtain ⟨j, rfl⟩ : ∃ j, i = xs.length + j := ⟨i - xs.length, by omega⟩
    rw [Nat.add_mul, ← h.1, ← List.drop_drop, List.drop_left, getElem!_pos _ _ (by simp; omega), List.getElem_append_right (by omega)]
    have := h2.2 j (by omega)
    rw [getElem!_pos ys j (by omega)] at this
    simpa using this
theorem grow_two {α : Type} [Inhabited α] {sz : Nat} {d : Dec α} {e : TypeId} {base : Nat} {w w1 w2 : World} {v : Value} {xs ys : List α} {n1 n2 : List Value} (h1 : Elems sz d w n1 xs) (h2 : Elems sz d w1 n2 ys) (hd : ∀ (w w' : World) cs x, d w cs x → d w' cs x) (hown : w2.ownsRow base e sz v (0 + xs.length + ys.length) ([] ++ n1 ++ n2)) : GRow sz d e base w2 v (xs ++ ys) [] := by
  rw [Nat.zero_add, List.nil_append, ← List.length_append] at hown
  exact ⟨⟨_, hown, fun w' _ => Elems.app ⟨h1.1, fun i hi => hd _ _ _ _ (h1.2 i hi)⟩ ⟨h2.1, fun i hi => hd _ _ _ _ (h2.2 i hi)⟩⟩, by simp, by simp⟩
def sumTo (ps : List (List Int)) (v : Nat) : Nat := (ps.take v).foldl (fun a p => a + p.length) 0
theorem sumTo_next {ps : List (List Int)} {v : Nat} (hv : v < ps.length) : sumTo ps (v + 1) = sumTo ps v + ps[v]!.length := by rw [sumTo, fold_take _ _ hv]; rfl
theorem rows_set {base g : Nat} {w w1 w2 : World} {vs : List Value} {M : List (List Int)} {bl : List Nat} (h : GMat base g w vs M bl) (hB : Below w.heap.size w w1) {i : Nat} (hi : i < M.length) {v' : Value} {ys : List Int} {b' : Nat} (hv : GInts b' w1 v' ys) (hb' : w.heap.size ≤ b')
    (hp : Put w1 w2 g (vs.set i v') 46) (hm : M.length ≤ 9223372036854775807) : RRows w2 (some ⟨g, 0, none⟩) (M.set i ys) := by
  have hgl := blk_lt h.blk
  have hv2 := hv.other hp.grown (by simp) (fun k hk e => by have := (hv.olt k hk).1; omega)
  refine row_of_blk hp.blk ⟨by rw [List.length_set, h.len]; simp, fun j hj => ?_⟩ (by simpa using hm)
  have hj' : j < M.length := by simpa using hj
  have hjv : j < (vs.set i v').length := by simp [h.len]; omega
  have e : ((vs.set i v').drop (j * 1)).take 1 = [(vs.set i v')[j]!] := by
    rw [Nat.mul_one, List.drop_eq_getElem_cons hjv, getElem!_pos _ j hjv]
    rfl
  rw [e, get_set _ _ _ _ (by rw [h.len]; exact hj'), get_set _ _ _ _ hj']
  by_cases e2 : i = j
  · rw [if_pos e2, if_pos e2]
    obtain ⟨A, c, q1, q2, q3⟩ := hv2.row
    rw [q1]
    exact ⟨A, c, rfl, q2, q3⟩
  · rw [if_neg e2, if_neg e2]
    have hr := ((h.row j hj').1.below hB).other hp.grown (by simp) (fun k hk e => h.gb (e ▸ (h.row j hj').2 k hk))
    obtain ⟨A, c, q1, q2, q3⟩ := hr.row
    rw [q1]
    exact ⟨A, c, rfl, q2, q3⟩
end Go.Proofs.YtkjbkalakafnlaaDoor
