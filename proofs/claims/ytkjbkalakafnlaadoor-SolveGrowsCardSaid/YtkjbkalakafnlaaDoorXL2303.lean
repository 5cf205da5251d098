/- The walk of LeastLess. -/
import Derived.Test.YtkjbkalakafnlaaDoorZ16
import Derived.Test.YtkjbkalakafnlaaDoorXL2300
import Derived.Laws.Slices
namespace Go.Proofs.YtkjbkalakafnlaaDoor
open Go.RowKit
set_option linter.unusedVariables false
set_option linter.unusedSimpArgs false
set_option maxRecDepth 100000
/-! ### the matrix of a least map's lists -/
theorem row_mem {nc : Nat} {p : List Int} {o : Nat} (h : (rowOf nc p)[o]! = true) : (o : Int) ∈ p ∨ ∃ q ∈ p, q < 0 := by
  have key : ∀ (l : List Int) (r : List Bool), (l.foldl (fun r o => r.set o.toNat true) r)[o]! = true → r[o]! = true ∨ (o : Int) ∈ l ∨ ∃ q ∈ l, q < 0 := by
    intro l
    induction l with
    | nil => intro r h; exact .inl h
    | cons q l ih =>
      intro r h
      rcases ih _ h with h | h | ⟨q', h1, h2⟩
      · by_cases e : q.toNat = o
        · by_cases hq : q < 0
          · exact .inr (.inr ⟨q, by simp, hq⟩)
          · exact .inr (.inl (by have : (o : Int) = q := by omega
                                 rw [this]; simp))
        · left
          by_cases ho : o < r.length
          · rw [getElem!_pos _ o (by simpa using ho), List.getElem_set_ne e] at h
            rw [getElem!_pos r o ho]
            exact h
          · rw [List.getElem!_eq_getElem?_getD, List.getElem?_eq_none (by simp; omega)] at h
            cases h
      · exact .inr (.inl (by simp [h]))
      · exact .inr (.inr ⟨q', by simp [h1], h2⟩)
  rcases key p _ h with h | h
  · by_cases ho : o < nc
    · rw [getElem!_pos _ o (by simpa using ho), List.getElem_replicate] at h
      cases h
    · rw [List.getElem!_eq_getElem?_getD, List.getElem?_eq_none (by simp; omega)] at h
      cases h
  · exact h
theorem rowTo_mem {r : List Bool} {k : Nat} {q : Int} (h : q ∈ rowTo r k) : 0 ≤ q ∧ q < k ∧ r[q.toNat]! = true := by
  unfold rowTo at h
  simp only [List.mem_map, List.mem_filter, List.mem_range] at h
  obtain ⟨o, ⟨h1, h2⟩, rfl⟩ := h
  exact ⟨by omega, by omega, by simpa using h2⟩
theorem rowTo_nodup (r : List Bool) : ∀ k, (rowTo r k).Nodup
  | 0 => by simp [rowTo]
  | k + 1 => by
    rw [rowTo_next]
    split
    · rw [List.nodup_append]
      refine ⟨rowTo_nodup r k, by simp, fun a ha b hb => ?_⟩
      have := rowTo_mem ha
      simp only [List.mem_singleton] at hb
      omega
    · exact rowTo_nodup r k
theorem cut_not {l : List Int} (h : l.Nodup) {k : Nat} (hk : k < l.length) : l[k]! ∉ l.take k ++ l.drop (k + 1) := by
  have e : l = l.take k ++ l[k]! :: l.drop (k + 1) := by rw [getElem!_pos l k hk]; simp
  rw [e] at h
  rw [List.nodup_append] at h
  obtain ⟨h1, h2, h3⟩ := h
  rw [List.nodup_cons] at h2
  intro hm
  rcases List.mem_append.1 hm with hm | hm
  · exact h3 _ hm _ (by simp) rfl
  · exact h2.1 hm
theorem mat_row {n nc : Nat} {ps : List (List Int)} {v : Nat} (hv : v < n) (hp : v < ps.length) : (matOf n nc ps)[v]! = rowOf nc ps[v]! := by
  rw [getElem!_pos _ v (by simpa [matOf] using hv)]
  simp only [matOf, List.getElem_map, List.getElem_range]
  rw [List.getD_eq_getElem?_getD, List.getElem?_eq_getElem hp, getElem!_pos ps v hp]
  rfl
theorem row_in {nc : Nat} {p : List Int} {o : Nat} (ho : o < nc) (h : (o : Int) ∈ p) : (rowOf nc p)[o]! = true := by
  have key : ∀ (l : List Int) (r : List Bool), r.length = nc → (r[o]! = true ∨ (o : Int) ∈ l) → (l.foldl (fun r o => r.set o.toNat true) r)[o]! = true := by
    intro l
    induction l with
    | nil => intro r _ h; rcases h with h | h; exact h; cases h
    | cons q l ih =>
      intro r hr h
      refine ih _ (by simpa using hr) ?_
      rcases h with h | h
      · left
        rw [getElem!_pos _ o (by simp; omega), List.getElem_set]
        split
        · rfl
        · rw [getElem!_pos r o (by omega)] at h; exact h
      · rcases List.mem_cons.1 h with h | h
        · left
          rw [getElem!_pos _ o (by simp; omega), List.getElem_set, if_pos (by omega)]
        · exact .inr h
  exact key p _ (by simp) (.inr h)
/-- The matrix of the lists of a matrix is it. -/
theorem mat_pts {n nc : Nat} {M : Mat} (h : Shape n nc M) : matOf n nc (ptsOf M) = M := by
  have hl : (ptsOf M).length = n := by simp [ptsOf, h.rows]
  refine mat_ext (matOf_shape n nc _) h fun v o hv ho => ?_
  have hp : (ptsOf M)[v]! = rowPts M[v]! := by
    rw [getElem!_pos _ v (by rw [hl]; exact hv), getElem!_pos M v (by rw [h.rows]; exact hv)]
    simp [ptsOf]
  unfold mg
  rw [mat_row hv (by rw [hl]; exact hv), hp]
  cases hm : (M[v]!)[o]! with
  | true =>
    refine row_in ho ?_
    unfold rowPts rowTo
    simp only [List.mem_map, List.mem_filter, List.mem_range]
    exact ⟨o, ⟨by rw [h.cols v hv]; exact ho, by simpa using hm⟩, rfl⟩
  | false =>
    cases hr : (rowOf nc (rowPts M[v]!))[o]! with
    | false => rfl
    | true =>
      rcases row_mem hr with h1 | ⟨q, h1, h2⟩
      · have := (rowTo_mem h1).2.2
        rw [Int.toNat_natCast, hm] at this
        cases this
      · have := (rowTo_mem h1).1; omega
theorem okPts_pts {n nc : Nat} {M : Mat} (h : Shape n nc M) : okPts n nc (ptsOf M) := fun v hv hvl k hk => by
  have hp : (ptsOf M)[v]! = rowPts M[v]! := by
    rw [getElem!_pos _ v hvl, getElem!_pos M v (by rw [h.rows]; exact hv)]
    simp [ptsOf]
  rw [hp] at hk ⊢
  obtain ⟨h1, h2, _⟩ := rowTo_mem (r := M[v]!) (k := (M[v]!).length) (mem_get hk)
  have h3 := h.cols v hv
  exact ⟨h1, by rw [h3] at h2; rw [← h3] at h2 ⊢; exact h2⟩
/-- Without one of its objects the least map isn't closed. -/
theorem less_not {s : Sys} {n nc : Nat} (hn : s.vars.toNat = n) (hc : s.cells.length = nc) {M : Mat} (h : IsLeast s M) {v k : Nat} (hv : v < n) (hk : k < (rowPts M[v]!).length) :
    ¬ Keeping s ((ptsOf M).set v ((rowPts M[v]!).take k ++ (rowPts M[v]!).drop (k + 1))) := by
  intro hK
  subst hn hc
  have hl : (ptsOf M).length = s.vars.toNat := by simp [ptsOf, h.sh.rows]
  have hin := mem_get hk
  have ho := rowTo_mem hin
  have h1 := h.least _ hK.2.2.2 v ((rowPts M[v]!)[k]!).toNat ho.2.2
  unfold mg at h1
  rw [mat_row hv (by simpa [hl] using hv), get_set _ _ _ _ (by rw [hl]; exact hv), if_pos rfl] at h1
  rcases row_mem h1 with h2 | ⟨q, h2, h3⟩
  · rw [Int.toNat_of_nonneg ho.1] at h2
    exact cut_not (rowTo_nodup _ _) hk h2
  · have : q ∈ rowPts M[v]! := by
      rcases List.mem_append.1 h2 with h2 | h2
      · exact List.mem_of_mem_take h2
      · exact List.mem_of_mem_drop h2
    have := (rowTo_mem this).1
    omega
end Go.Proofs.YtkjbkalakafnlaaDoor
