/- SolveApplies: its law. -/
import Derived.Test.YtkjbkalakafnlaaDoorXLS20
namespace Go.Proofs.YtkjbkalakafnlaaDoor
open Go.RowKit
set_option linter.unusedVariables false
set_option linter.unusedSimpArgs false
set_option maxRecDepth 100000
def apArgs (b : Int) (i : Nat) : List Int := (List.range i).map fun (j : Nat) => b + (j : Int)
def apCells (p i : Nat) : List Cell := ⟨true, 10, apArgs 11 p⟩ :: (List.range i).map fun (j : Nat) => ⟨false, 20 + (j : Int), []⟩
def apCons (i : Nat) : List Con := ⟨1, 0, 0, []⟩ :: (List.range i).map fun (j : Nat) => ⟨1, 2 + (j : Int), 1 + (j : Int), []⟩
theorem apArgs_next (b : Int) (i : Nat) : apArgs b (i + 1) = apArgs b i ++ [b + (i : Nat)] := by simp [apArgs, List.range_succ]
theorem apCells_next (p i : Nat) : apCells p (i + 1) = apCells p i ++ [⟨false, 20 + (i : Nat), []⟩] := by simp [apCells, List.range_succ]
theorem apCons_next (i : Nat) : apCons (i + 1) = apCons i ++ [⟨1, 2 + (i : Nat), 1 + (i : Nat), []⟩] := by simp [apCons, List.range_succ]
theorem apArgs_len (b : Int) (i : Nat) : (apArgs b i).length = i := by simp [apArgs]
theorem apArgs_at (b : Int) {i j : Nat} (h : j < i) : (apArgs b i)[j]! = b + (j : Int) := by
  rw [getElem!_pos _ j (by rw [apArgs_len]; exact h)]
  simp [apArgs]
theorem apCells_len (p i : Nat) : (apCells p i).length = i + 1 := by simp [apCells]
theorem apCons_len (i : Nat) : (apCons i).length = i + 1 := by simp [apCons]
def apXs (p n : Nat) : List Cell := apCells p n ++ [⟨false, 29, []⟩]
def apA (res : Bool) : Int := if res then 1 else -1
def apYs (res : Bool) (n : Nat) : List Con := apCons n ++ [⟨5, apA res, 0, apArgs 2 n⟩, ⟨1, 10, (n : Int) + 1, []⟩]
theorem apXs_len (p n : Nat) : (apXs p n).length = n + 2 := by simp [apXs, apCells_len]
theorem apYs_len (res : Bool) (n : Nat) : (apYs res n).length = n + 3 := by simp [apYs, apCons_len]
theorem mem_apYs {res : Bool} {n : Nat} {c : Con} : c ∈ apYs res n ↔ c = ⟨1, 0, 0, []⟩ ∨ (∃ j : Nat, j < n ∧ c = ⟨1, 2 + (j : Int), 1 + (j : Int), []⟩) ∨ c = ⟨5, apA res, 0, apArgs 2 n⟩ ∨ c = ⟨1, 10, (n : Int) + 1, []⟩ := by
  simp only [apYs, apCons, List.mem_append, List.mem_cons, List.not_mem_nil, or_false, List.mem_map, List.mem_range]
  constructor
  · rintro ((h | ⟨j, hj, rfl⟩) | h | h)
    · exact .inl h
    · exact .inr (.inl ⟨j, hj, rfl⟩)
    · exact .inr (.inr (.inl h))
    · exact .inr (.inr (.inr h))
  · rintro (h | ⟨j, hj, rfl⟩ | h | h)
    · exact .inl (.inl h)
    · exact .inl (.inr ⟨j, hj, rfl⟩)
    · exact .inr (.inl h)
    · exact .inr (.inr h)
def apQ (res : Bool) (p n v c : Nat) : Bool :=
  (decide (v = 0) && decide (c = 0)) || (decide (2 ≤ v) && decide (v < 2 + n) && decide (c + 1 = v)) || (decide (v = 10) && decide (c = n + 1)) || (res && decide (v = 1) && decide (c = n + 1)) || (decide (11 ≤ v) && decide (v < 11 + p) && decide (v < 11 + n) && decide (c + 10 = v))
theorem apQ_iff {res : Bool} {p n v c : Nat} : apQ res p n v c = true ↔ (v = 0 ∧ c = 0) ∨ (2 ≤ v ∧ v < 2 + n ∧ c + 1 = v) ∨ (v = 10 ∧ c = n + 1) ∨ (res = true ∧ v = 1 ∧ c = n + 1) ∨ (11 ≤ v ∧ v < 11 + p ∧ v < 11 + n ∧ c + 10 = v) := by
  simp [apQ, or_assoc, and_assoc]
def apM (res : Bool) (p n : Nat) : Mat := (List.range 30).map fun v => (List.range (n + 2)).map fun c => apQ res p n v c
theorem apM_row {res : Bool} {p n v : Nat} (h : v < 30) : (apM res p n)[v]! = (List.range (n + 2)).map fun c => apQ res p n v c := by
  rw [getElem!_pos _ v (by simpa [apM] using h)]
  simp [apM]
theorem apM_sh (res : Bool) (p n : Nat) : Shape 30 (n + 2) (apM res p n) := ⟨by simp [apM], fun i hi => by rw [apM_row hi]; simp⟩
theorem apM_at {res : Bool} {p n v c : Nat} : mg (apM res p n) v c = true ↔ v < 30 ∧ c < n + 2 ∧ apQ res p n v c = true := by
  by_cases h : v < 30 ∧ c < n + 2
  · unfold mg
    rw [apM_row h.1, getElem!_pos _ c (by simpa using h.2)]
    simp [h.1, h.2]
  · rw [mg_out (apM_sh res p n) h]
    constructor
    · intro e; cases e
    · intro e; exact absurd ⟨e.1, e.2.1⟩ h
theorem apXs_0 (p n : Nat) : (apXs p n)[0]! = ⟨true, 10, apArgs 11 p⟩ := by simp [apXs, apCells]
theorem apLeast {res : Bool} {p n : Nat} (hp : p ≤ 4) (hn : n ≤ 4) : IsLeast ⟨((30 : Nat) : Int), apXs p n, apYs res n⟩ (apM res p n) := by
  refine ⟨?_, closed_mem.2 fun c hc => ?_, fun N hN v q h => ?_⟩
  · have := apM_sh res p n
    rw [show n + 2 = (apXs p n).length by rw [apXs_len]] at this
    exact this
  · rcases mem_apYs.1 hc with rfl | ⟨j, hj, rfl⟩ | rfl | rfl
    · exact ⟨fun _ => apM_at.2 ⟨by show (0 : Int).toNat < 30; omega, by show (0 : Int).toNat < _; omega, apQ_iff.2 (.inl ⟨rfl, rfl⟩)⟩, fun h => absurd h (show ¬ (1 : Int) = 2 by decide), fun h => absurd rfl h⟩
    · exact ⟨fun _ => apM_at.2 ⟨by show (2 + (j : Int)).toNat < 30; omega, by show (1 + (j : Int)).toNat < _; omega, apQ_iff.2 (.inr (.inl ⟨by show 2 ≤ (2 + (j : Int)).toNat; omega, by show (2 + (j : Int)).toNat < _; omega, by show (1 + (j : Int)).toNat + 1 = (2 + (j : Int)).toNat; omega⟩))⟩, fun h => absurd h (show ¬ (1 : Int) = 2 by decide), fun h => absurd rfl h⟩
    · refine ⟨fun h => absurd h (show ¬ (5 : Int) = 1 by decide), fun h => absurd h (show ¬ (5 : Int) = 2 by decide), fun _ _ q hq hm => ?_⟩
      have hm : mg (apM res p n) 0 q = true := hm
      have hq0 : q = 0 := by
        have := apQ_iff.1 (apM_at.1 hm).2.2
        omega
      subst hq0
      show objP ⟨5, apA res, 0, apArgs 2 n⟩ (apXs p n)[0]! (apM res p n)
      rw [apXs_0]
      refine ⟨fun h => absurd h (show ¬ (5 : Int) = 3 by decide), fun h => absurd h (show ¬ (5 : Int) = 4 by decide), fun _ _ => ⟨?_, fun k hk1 hk2 => ?_⟩⟩
      · intro ha _ z hz
        have ha : 0 ≤ apA res := ha
        have hz : mg (apM res p n) 10 z = true := hz
        show mg (apM res p n) (apA res).toNat z = true
        have h1 := apM_at.1 hz
        have h2 := apQ_iff.1 h1.2.2
        cases res with
        | false => exact absurd ha (by decide)
        | true => exact apM_at.2 ⟨by decide, h1.2.1, apQ_iff.2 (.inr (.inr (.inr (.inl ⟨rfl, rfl, by omega⟩))))⟩
      · have hk1 : k < (apArgs 11 p).length := hk1
        have hk2 : k < (apArgs 2 n).length := hk2
        rw [apArgs_len] at hk1 hk2
        show flowP (apArgs 11 p)[k]! (apArgs 2 n)[k]! (apM res p n)
        rw [apArgs_at 11 hk1, apArgs_at 2 hk2]
        intro _ _ z hz
        have h1 := apM_at.1 hz
        have h2 := apQ_iff.1 h1.2.2
        exact apM_at.2 ⟨by omega, h1.2.1, apQ_iff.2 (.inr (.inr (.inr (.inr ⟨by omega, by omega, by omega, by omega⟩))))⟩
    · exact ⟨fun _ => apM_at.2 ⟨by show (10 : Int).toNat < 30; omega, by show ((n : Int) + 1).toNat < _; omega, apQ_iff.2 (.inr (.inr (.inl ⟨rfl, by show ((n : Int) + 1).toNat = n + 1; omega⟩)))⟩, fun h => absurd h (show ¬ (1 : Int) = 2 by decide), fun h => absurd rfl h⟩
  · have hN := closed_mem.1 hN
    have h1 := apM_at.1 h
    have n0 : mg N 0 0 = true := (hN _ (mem_apYs.2 (.inl rfl))).1 rfl
    have n10 : mg N 10 (n + 1) = true := by
      have : mg N (10 : Int).toNat ((n : Int) + 1).toNat = true := (hN _ (mem_apYs.2 (.inr (.inr (.inr rfl))))).1 rfl
      rwa [show (10 : Int).toNat = 10 from rfl, show ((n : Int) + 1).toNat = n + 1 by omega] at this
    have n2 : ∀ j, j < n → mg N (2 + j) (1 + j) = true := fun j hj => by
      have : mg N (2 + (j : Int)).toNat (1 + (j : Int)).toNat = true := (hN _ (mem_apYs.2 (.inr (.inl ⟨j, hj, rfl⟩)))).1 rfl
      rwa [show (2 + (j : Int)).toNat = 2 + j by omega, show (1 + (j : Int)).toNat = 1 + j by omega] at this
    have ho : objP ⟨5, apA res, 0, apArgs 2 n⟩ (apXs p n)[0]! N := (hN _ (mem_apYs.2 (.inr (.inr (.inl rfl))))).2.2 (show ¬ (5 : Int) = 1 by decide) (show ¬ (5 : Int) = 2 by decide) 0 (by rw [apXs_len]; omega) n0
    rw [apXs_0] at ho
    obtain ⟨hf, ha⟩ := ho.2.2 rfl rfl
    rcases apQ_iff.1 h1.2.2 with ⟨h2, h3⟩ | ⟨h2, h3, h4⟩ | ⟨h2, h3⟩ | ⟨h2, h3, h4⟩ | ⟨h2, h3, h4, h5⟩
    · subst h2 h3
      exact n0
    · have := n2 (v - 2) (by omega)
      rwa [show 2 + (v - 2) = v by omega, show 1 + (v - 2) = q by omega] at this
    · subst h2 h3
      exact n10
    · subst h2 h3 h4
      exact hf (show (0 : Int) ≤ 1 by decide) (show (0 : Int) ≤ 10 by decide) (n + 1) n10
    · have hj := ha (v - 11) (by show _ < (apArgs 11 p).length; rw [apArgs_len]; omega) (by show _ < (apArgs 2 n).length; rw [apArgs_len]; omega)
      have hj : flowP (apArgs 11 p)[v - 11]! (apArgs 2 n)[v - 11]! N := hj
      rw [apArgs_at 11 (by omega), apArgs_at 2 (by omega)] at hj
      have hj := hj (by omega) (by omega) q
      rw [show (11 + ((v - 11 : Nat) : Int)).toNat = v by omega, show (2 + ((v - 11 : Nat) : Int)).toNat = 2 + (v - 11) by omega] at hj
      have := n2 (v - 11) (by omega)
      rw [show 1 + (v - 11) = q by omega] at this
      exact hj this
theorem apRight {res : Bool} {p n : Nat} (hp : p ≤ 4) (hn : n ≤ 4) : rightB ⟨((30 : Nat) : Int), apXs p n, apYs res n⟩ = true := by
  simp only [rightB, bigOk, Bool.and_eq_true, decide_eq_true_eq, List.all_eq_true, apXs_len, apYs_len]
  refine ⟨⟨⟨⟨⟨by omega, by omega⟩, by omega⟩, by omega⟩, fun c hc => ?_⟩, fun c hc => ?_⟩
  · simp only [apXs, apCells, List.mem_append, List.mem_cons, List.mem_map, List.mem_range, List.not_mem_nil, or_false] at hc
    rcases hc with (rfl | ⟨j, hj, rfl⟩) | rfl
    · simp only [cellOk, inR, apArgs_len, Bool.and_eq_true, decide_eq_true_eq, List.all_eq_true, Bool.true_or, and_true]
      refine ⟨⟨by omega, by omega⟩, fun x hx => ?_⟩
      simp only [apArgs, List.mem_map, List.mem_range] at hx
      obtain ⟨k, hk, rfl⟩ := hx
      omega
    · simp [cellOk, inR]
      omega
    · simp [cellOk, inR]
  · rcases mem_apYs.1 hc with rfl | ⟨j, hj, rfl⟩ | rfl | rfl
    · simp [conOk, inR]
      omega
    · simp [conOk, inR]
      omega
    · simp only [conOk, inR, apArgs_len, Bool.and_eq_true, decide_eq_true_eq, List.all_eq_true]
      have : apA res = 1 ∨ apA res = -1 := by cases res <;> simp [apA]
      refine ⟨⟨⟨⟨⟨⟨by decide, by decide⟩, ?_⟩, by simp⟩, by omega⟩, by simp⟩, fun x hx => ?_⟩
      · rcases this with e | e <;> rw [e] <;> decide
      · simp only [apArgs, List.mem_map, List.mem_range] at hx
        obtain ⟨k, hk, rfl⟩ := hx
        simp
        omega
    · simp [conOk, inR]
      omega
theorem rowOne : ∀ m, m < 7 → ∀ x, x < 7 → ∀ b : Bool, rowPts ((List.range m).map fun c => b && decide (c = x)) = if b = true ∧ x < m then [(x : Int)] else [] := by decide
theorem apRowP {res : Bool} {p n i : Nat} (hp : p ≤ 4) (hn : n ≤ 4) (hi : i < p) : rowPts (apM res p n)[11 + i]! = if i < n then [1 + (i : Int)] else [] := by
  rw [apM_row (by omega)]
  have e : (fun c => apQ res p n (11 + i) c) = fun c => decide (i < n) && decide (c = 1 + i) := by
    funext c
    rw [Bool.eq_iff_iff, apQ_iff, Bool.and_eq_true, decide_eq_true_eq, decide_eq_true_eq]
    constructor
    · rintro (h | h | h | h | h) <;> omega
    · intro h
      exact .inr (.inr (.inr (.inr (by omega))))
  rw [e, rowOne (n + 2) (by omega) (1 + i) (by omega)]
  by_cases hin : i < n
  · rw [if_pos ⟨decide_eq_true hin, by omega⟩, if_pos hin]
    simp
  · rw [if_neg (fun h => hin (by simpa using h.1)), if_neg hin]
theorem apRow1 {res : Bool} {p n : Nat} (hn : n ≤ 4) : rowPts (apM res p n)[1]! = if res = true then [(n : Int) + 1] else [] := by
  rw [apM_row (by omega)]
  have e : (fun c => apQ res p n 1 c) = fun c => res && decide (c = n + 1) := by
    funext c
    rw [Bool.eq_iff_iff, apQ_iff, Bool.and_eq_true, decide_eq_true_eq]
    cases res with
    | false =>
      constructor
      · rintro (h | h | h | h | h)
        · omega
        · omega
        · omega
        · exact absurd h.1 (by decide)
        · omega
      · intro h
        exact absurd h.1 (by decide)
    | true => simp only [true_and]; omega
  rw [e, rowOne (n + 2) (by omega) (n + 1) (by omega)]
  cases res <;> simp
end Go.Proofs.YtkjbkalakafnlaaDoor
