/- What is true of labels: plain. -/
import Derived.Test.YtjggjhgbobmkhaaXOP17
import Derived.Test.YtjggjhgbobmkhaaY14
namespace Go.Proofs.Ytjggjhgbobmkhaa
set_option linter.unusedVariables false
set_option linter.unusedSimpArgs false
section
variable {vars : Nat} {into bases : List (List Int)} {lo : List Bool} {kn : List (List Nat)} {of : Nat → Nat}
/-- The labels at the end. -/
def Lf (vars : Nat) (into bases : List (List Int)) (lo : List Bool) (kn : List (List Nat)) (of : Nat → Nat) : Nat → Int := (labN vars into bases lo kn of kn.length).lab
theorem mem_fold_addI : ∀ (l : List Int) (S : List Int) (y : Int), y ∈ l.foldl addI S ↔ y ∈ S ∨ y ∈ l
  | [], S, y => by simp
  | x :: l, S, y => by
    rw [List.foldl_cons, mem_fold_addI l, addI_mem, List.mem_cons]
    exact or_assoc
theorem mem_seenV {lab : Nat → Int} {k v : Nat} : ∀ (l : List Int) (S : List Int) (y : Int), y ∈ l.foldl (seenX of lab k) S ↔ y ∈ S ∨ ∃ x ∈ l, of x.toNat ≠ k ∧ lab (of x.toNat) ≠ -1 ∧ y = lab (of x.toNat)
  | [], S, y => by simp
  | x :: l, S, y => by
    rw [List.foldl_cons, mem_seenV (v := v) l]
    unfold seenX
    by_cases hc : of x.toNat ≠ k ∧ lab (of x.toNat) ≠ -1
    · rw [if_pos hc, addI_mem]
      constructor
      · rintro ((h | h) | ⟨z, hz, h⟩)
        · exact .inl h
        · exact .inr ⟨x, by simp, hc.1, hc.2, h⟩
        · exact .inr ⟨z, by simp [hz], h⟩
      · rintro (h | ⟨z, hz, h⟩)
        · exact .inl (.inl h)
        · rcases List.mem_cons.1 hz with rfl | hz
          · exact .inl (.inr h.2.2)
          · exact .inr ⟨z, hz, h⟩
    · rw [if_neg hc]
      constructor
      · rintro (h | ⟨z, hz, h⟩)
        · exact .inl h
        · exact .inr ⟨z, by simp [hz], h⟩
      · rintro (h | ⟨z, hz, h⟩)
        · exact .inl h
        · rcases List.mem_cons.1 hz with rfl | hz
          · exact absurd ⟨h.1, h.2.1⟩ hc
          · exact .inr ⟨z, hz, h⟩
theorem mem_foldV {α : Type} {f : List Int → α → List Int} {p : α → Int → Prop} (hf : ∀ S v y, y ∈ f S v ↔ y ∈ S ∨ p v y) : ∀ (l : List α) (S : List Int) (y : Int), y ∈ l.foldl f S ↔ y ∈ S ∨ ∃ v ∈ l, p v y
  | [], S, y => by simp
  | v :: l, S, y => by
    rw [List.foldl_cons, mem_foldV hf l, hf]
    constructor
    · rintro ((h | h) | ⟨z, hz, h⟩)
      · exact .inl h
      · exact .inr ⟨v, by simp, h⟩
      · exact .inr ⟨z, by simp [hz], h⟩
    · rintro (h | ⟨z, hz, h⟩)
      · exact .inl (.inl h)
      · rcases List.mem_cons.1 hz with rfl | hz
        · exact .inl (.inr h)
        · exact .inr ⟨z, hz, h⟩
theorem mem_seenK {lab : Nat → Int} {k : Nat} {y : Int} : y ∈ seenK into kn of lab k ↔ ∃ v ∈ kn[k]!, ∃ x ∈ into[v]!, of x.toNat ≠ k ∧ lab (of x.toNat) ≠ -1 ∧ y = lab (of x.toNat) := by
  unfold seenK
  rw [mem_foldV (p := fun v y => ∃ x ∈ into[v]!, of x.toNat ≠ k ∧ lab (of x.toNat) ≠ -1 ∧ y = lab (of x.toNat)) (f := seenV into of lab k) (fun S v y => mem_seenV (v := v) into[v]! S y)]
  simp
theorem mem_ownK {k : Nat} {y : Int} : y ∈ ownK vars bases kn k ↔ ∃ v ∈ kn[k]!, v < vars ∧ y ∈ bases[v]! := by
  unfold ownK
  rw [mem_foldV (p := fun v y => v < vars ∧ y ∈ bases[v]!) (f := ownV bases vars) (fun S v y => by
    unfold ownV
    split
    · rename_i h
      rw [mem_fold_addI]
      simp [h]
    · rename_i h
      simp [h])]
  simp
theorem looK_iff {k : Nat} : looK lo kn k = true ↔ ∃ v ∈ kn[k]!, lo[v]! = true := by
  have key : ∀ (l : List Nat) (b : Bool), l.foldl (looV lo) b = true ↔ b = true ∨ ∃ v ∈ l, lo[v]! = true := by
    intro l
    induction l with
    | nil => intro b; simp
    | cons v l ih =>
      intro b
      rw [List.foldl_cons, ih]
      unfold looV
      rw [Bool.or_eq_true]
      constructor
      · rintro ((h | h) | ⟨z, hz, h⟩)
        · exact .inl h
        · exact .inr ⟨v, by simp, h⟩
        · exact .inr ⟨z, by simp [hz], h⟩
      · rintro (h | ⟨z, hz, h⟩)
        · exact .inl (.inl h)
        · rcases List.mem_cons.1 hz with rfl | hz
          · exact .inl (.inr h)
          · exact .inr ⟨z, hz, h⟩
  unfold looK
  rw [key]
  simp
/-! ### one node alone -/
/-- A knot of one node. -/
structure One (into : List (List Int)) (kn : List (List Nat)) (of : Nat → Nat) (v : Nat) : Prop where
  lt : v < into.length
  kn : kn[of v]! = [v]
section
variable {v : Nat}
abbrev lv (vars : Nat) (into bases : List (List Int)) (lo : List Bool) (kn : List (List Nat)) (of : Nat → Nat) (v : Nat) : Int := Lf vars into bases lo kn of (of v)
theorem One.own (h : One into kn of v) (hv : v < vars) (y : Int) : y ∈ ownK vars bases kn (of v) ↔ y ∈ bases[v]! := by
  rw [mem_ownK, h.kn]
  simp [hv]
end
end
end Go.Proofs.Ytjggjhgbobmkhaa
