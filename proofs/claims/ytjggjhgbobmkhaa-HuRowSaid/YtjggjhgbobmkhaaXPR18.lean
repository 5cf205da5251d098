/- A row of copies behind a fork of objects: plain. -/
import Derived.Test.YtjggjhgbobmkhaaY19
namespace Go.Proofs.Ytjggjhgbobmkhaa
set_option linter.unusedVariables false
set_option linter.unusedSimpArgs false
def hrCells (k o : Nat) : List Cell := (List.range o).map fun (i : Nat) => ⟨false, (k : Int) + (i : Int), []⟩
def hrBase (o : Nat) : List Con := (List.range o).map fun (i : Nat) => ⟨1, 0, (i : Int), []⟩
def hrCons (o m : Nat) : List Con := hrBase o ++ (List.range m).map fun (u : Nat) => ⟨2, (u : Int) + 1, (u : Int), []⟩
theorem hrCells_len (k o : Nat) : (hrCells k o).length = o := by simp [hrCells]
theorem hrCons_len (o m : Nat) : (hrCons o m).length = o + m := by simp [hrCons, hrBase]
theorem hrCells_next (k o : Nat) : hrCells k (o + 1) = hrCells k o ++ [⟨false, (k : Int) + (o : Int), []⟩] := by simp [hrCells, List.range_succ]
theorem hrBase_next (o : Nat) : hrBase (o + 1) = hrBase o ++ [⟨1, 0, (o : Int), []⟩] := by simp [hrBase, List.range_succ]
theorem hrCons_next (o m : Nat) : hrCons o (m + 1) = hrCons o m ++ [⟨2, (m : Int) + 1, (m : Int), []⟩] := by simp [hrCons, List.range_succ]
theorem mem_hrCells {k o : Nat} {c : Cell} : c ∈ hrCells k o ↔ ∃ i : Nat, i < o ∧ c = ⟨false, (k : Int) + (i : Int), []⟩ := by
  simp only [hrCells, List.mem_map, List.mem_range]
  exact ⟨fun ⟨i, h1, h2⟩ => ⟨i, h1, h2.symm⟩, fun ⟨i, h1, h2⟩ => ⟨i, h1, h2.symm⟩⟩
theorem mem_hrCons {o m : Nat} {c : Con} : c ∈ hrCons o m ↔ (∃ i : Nat, i < o ∧ c = ⟨1, 0, (i : Int), []⟩) ∨ ∃ u : Nat, u < m ∧ c = ⟨2, (u : Int) + 1, (u : Int), []⟩ := by
  simp only [hrCons, hrBase, List.mem_append, List.mem_map, List.mem_range]
  exact or_congr ⟨fun ⟨i, h1, h2⟩ => ⟨i, h1, h2.symm⟩, fun ⟨i, h1, h2⟩ => ⟨i, h1, h2.symm⟩⟩ ⟨fun ⟨i, h1, h2⟩ => ⟨i, h1, h2.symm⟩, fun ⟨i, h1, h2⟩ => ⟨i, h1, h2.symm⟩⟩
section
variable {k o : Nat}
theorem hr_right (hk : 2 ≤ k) (hk2 : k ≤ 61) (ho : 1 ≤ o) (ho2 : o ≤ 7) : rightB ⟨((k + o : Nat) : Int), hrCells k o, hrCons o (k - 1)⟩ = true := by
  unfold rightB bigOk
  simp only [Bool.and_eq_true, decide_eq_true_eq, List.all_eq_true]
  refine ⟨⟨⟨⟨⟨by omega, by omega⟩, by rw [hrCells_len]; omega⟩, by rw [hrCons_len]; omega⟩, fun c hc => ?_⟩, fun c hc => ?_⟩
  · obtain ⟨i, hi, rfl⟩ := mem_hrCells.1 hc
    unfold cellOk inR
    simp only [Bool.and_eq_true, Bool.or_eq_true, decide_eq_true_eq]
    exact ⟨⟨⟨⟨by omega, by omega⟩, by simp⟩, .inr rfl⟩, rfl⟩
  · rcases mem_hrCons.1 hc with ⟨i, hi, rfl⟩ | ⟨u, hu, rfl⟩
    · unfold conOk inR
      rw [if_neg (show ¬ (1 : Int) = 5 by decide), if_pos rfl]
      simp only [Bool.and_eq_true, Bool.or_eq_true, decide_eq_true_eq, hrCells_len]
      exact ⟨⟨⟨⟨⟨⟨by omega, by omega⟩, by omega, by omega⟩, by omega, by omega⟩, by simp⟩, .inr rfl⟩, rfl⟩
    · unfold conOk inR
      rw [if_neg (show ¬ (2 : Int) = 5 by decide), if_neg (show ¬ (2 : Int) = 1 by decide)]
      simp only [Bool.and_eq_true, Bool.or_eq_true, decide_eq_true_eq]
      exact ⟨⟨⟨⟨⟨⟨by omega, by omega⟩, by omega, by omega⟩, by omega, by omega⟩, by simp⟩, .inr rfl⟩, rfl⟩
theorem hr_loose {v : Nat} (hv : v < k) : looseAt ⟨((k + o : Nat) : Int), hrCells k o, hrCons o (k - 1)⟩ v = false := by
  unfold looseAt
  rw [Bool.or_eq_false_iff]
  constructor
  · rw [List.any_eq_false]
    intro c hc
    have hc : c ∈ hrCells k o := hc
    obtain ⟨i, hi, rfl⟩ := mem_hrCells.1 hc
    simp [cellLoose]
    omega
  · rw [List.any_eq_false]
    intro c hc
    have hc : c ∈ hrCons o (k - 1) := hc
    rcases mem_hrCons.1 hc with ⟨i, hi, rfl⟩ | ⟨u, hu, rfl⟩ <;> simp [conLoose]
theorem hr_loose2 {i : Nat} (hi : i < o) : looseAt ⟨((k + o : Nat) : Int), hrCells k o, hrCons o (k - 1)⟩ ((k + i : Nat) : Int) = true := by
  unfold looseAt
  rw [Bool.or_eq_true]
  left
  rw [List.any_eq_true]
  exact ⟨_, mem_hrCells.2 ⟨i, hi, rfl⟩, by simp [cellLoose]⟩
theorem hr_cp {v u : Nat} (h : CpE ⟨((k + o : Nat) : Int), hrCells k o, hrCons o (k - 1)⟩ v u) : v = u + 1 ∧ v < k := by
  obtain ⟨c, hc, h2, h3, h4⟩ := h
  rcases mem_hrCons.1 hc with ⟨i, hi, rfl⟩ | ⟨u', hu, rfl⟩
  · exact absurd (show (1 : Int) = 2 from h2) (by decide)
  · simp only at h3 h4
    omega
theorem hr_low {nc v : Nat} (hv : v < k) (j : Nat) : Src (k + o) nc ⟨((k + o : Nat) : Int), hrCells k o, hrCons o (k - 1)⟩ v j ↔ Src (k + o) nc ⟨((k + o : Nat) : Int), hrCells k o, hrCons o (k - 1)⟩ 0 j := by
  induction v with
  | zero => exact Iff.rfl
  | succ v ih =>
    rw [← ih (by omega)]
    constructor
    · rintro ⟨u, h1, h2⟩
      cases h1 with
      | refl =>
        rcases h2 with ⟨c, hc, h3, h4⟩ | ⟨_, h3⟩
        · rcases mem_hrCons.1 hc with ⟨i, hi, rfl⟩ | ⟨u', hu, rfl⟩
          · simp only at h3; omega
          · rcases h4 with ⟨h4, _⟩ | ⟨h4, _⟩ <;> first | exact absurd (show (2 : Int) = 1 from h4) (by decide) | exact absurd (show (2 : Int) = 3 from h4) (by decide)
        · rw [hr_loose hv] at h3
          cases h3
      | @step _ w' _ e r =>
        have := hr_cp e
        have e2 : w' = v := by omega
        subst e2
        exact ⟨u, r, h2⟩
    · exact fun h => .copy ⟨_, mem_hrCons.2 (.inr ⟨v, by omega, rfl⟩), rfl, by simp, by simp⟩ h
theorem hr_high {nc i : Nat} (hk : 2 ≤ k) (hi : i < o) (j : Nat) : Src (k + o) nc ⟨((k + o : Nat) : Int), hrCells k o, hrCons o (k - 1)⟩ (k + i) j ↔ j = nc + (k + i) := by
  constructor
  · rintro ⟨u, h1, h2⟩
    cases h1 with
    | refl =>
      rcases h2 with ⟨c, hc, h3, h4⟩ | ⟨h3, _⟩
      · rcases mem_hrCons.1 hc with ⟨i', hi, rfl⟩ | ⟨u', hu, rfl⟩
        · simp only at h3; omega
        · rcases h4 with ⟨h4, _⟩ | ⟨h4, _⟩ <;> first | exact absurd (show (2 : Int) = 1 from h4) (by decide) | exact absurd (show (2 : Int) = 3 from h4) (by decide)
      · exact h3
    | step e r => have := hr_cp e; omega
  · rintro rfl
    exact .seed (.inr ⟨rfl, hr_loose2 hi⟩)
theorem hr_all {nc : Nat} {hl : Nat → Int} (hk : 2 ≤ k) (h : Canon (k + o) hl (SrcE (k + o) nc ⟨((k + o : Nat) : Int), hrCells k o, hrCons o (k - 1)⟩) (SrcZ (k + o) nc ⟨((k + o : Nat) : Int), hrCells k o, hrCons o (k - 1)⟩)) :
    (∀ v, v < k → hl v = hl 0) ∧ (∀ i, 1 ≤ i → i < o → hl (k + i) ≠ hl (k + i - 1) ∧ 0 ≤ hl (k + i)) := by
  refine ⟨fun v hv => (h.same v 0 (by omega) (by omega)).2 fun j => hr_low hv j, fun i h1 h2 => ⟨fun e => ?_, ?_⟩⟩
  · have h3 := (h.same (k + i) (k + i - 1) (by omega) (by omega)).1 e (nc + (k + i))
    rw [hr_high hk h2, show k + i - 1 = k + (i - 1) by omega, hr_high hk (by omega)] at h3
    omega
  · have h3 := h.le (k + i) (by omega)
    have h4 : hl (k + i) ≠ -1 := fun e => (h.none (k + i) (by omega)).1 e (nc + (k + i)) ((hr_high hk h2 _).2 rfl)
    omega
end
end Go.Proofs.Ytjggjhgbobmkhaa
