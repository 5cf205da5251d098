/- Rows that grow: what their elements look at is a list of blocks. -/
import Derived.Test.YtkjbkalakafnlaaDoorE6
namespace Go.Proofs.YtkjbkalakafnlaaDoor
open Go.RowKit
set_option linter.unusedVariables false
set_option linter.unusedSimpArgs false
/-- A row of the call's own: its elements are what d reads, whatever becomes of other blocks than its own and those of bs. -/
structure GRow {α : Type} [Inhabited α] (sz : Nat) (d : Dec α) (e : TypeId) (base : Nat) (w : World) (v : Value) (xs : List α) (bs : List Nat) : Prop where
  own : ∃ flat, w.ownsRow base e sz v xs.length flat ∧ ∀ w', (∀ b ∈ bs, w'.heap[b]? = w.heap[b]?) → Elems sz d w' flat xs
  lt : ∀ b ∈ bs, base ≤ b ∧ b < w.heap.size
  ne : ∀ b ∈ bs, some b ≠ v.ownBlock
section
variable {α : Type} [Inhabited α] {sz : Nat} {d : Dec α} {e : TypeId} {base : Nat} {w w1 : World} {v : Value} {xs : List α} {bs : List Nat}
theorem GRow.nil (sz : Nat) (d : Dec α) (e : TypeId) (base : Nat) (w : World) : GRow sz d e base w (.slice none 0 0) ([] : List α) [] :=
  ⟨⟨[], own_nil .., fun _ _ => Elems.nil ..⟩, by simp, by simp⟩
theorem GRow.olt (h : GRow sz d e base w v xs bs) : ∀ k, v.ownBlock = some k → base ≤ k ∧ k < w.heap.size := by
  obtain ⟨flat, h1, _⟩ := h.own
  exact h1.lt
/-- What doesn't touch its blocks leaves it. -/
theorem GRow.stays (h : GRow sz d e base w v xs bs) (row : Option Nat) (hg : w.grownBy w1 row) (h1 : ∀ b ∈ bs, some b ≠ row) (h2 : v.ownBlock = none ∨ v.ownBlock ≠ row) : GRow sz d e base w1 v xs bs := by
  obtain ⟨flat, h3, h4⟩ := h.own
  refine ⟨⟨flat, h3.kept hg h2, fun w' hw' => h4 w' fun b hb => (hw' b hb).trans (hg.block b (h.lt b hb).2 (h1 b hb))⟩, fun b hb => ⟨(h.lt b hb).1, Nat.lt_of_lt_of_le (h.lt b hb).2 hg.size⟩, h.ne⟩
theorem GRow.below (h : GRow sz d e base w v xs bs) (hb : Below w.heap.size w w1) : GRow sz d e base w1 v xs bs := h.stays none (grown_of hb) (fun _ _ => nofun) (Classical.em _)
/-- A block that is none of its own is written. -/
theorem GRow.other (h : GRow sz d e base w v xs bs) {g : Nat} (hg : w.grownBy w1 (some g)) (h1 : ∀ b ∈ bs, b ≠ g) (h2 : ∀ k, v.ownBlock = some k → k ≠ g) : GRow sz d e base w1 v xs bs := by
  refine h.stays (some g) hg (fun b hb e => h1 b hb (by simpa using e)) ?_
  cases ho : v.ownBlock with
  | none => exact .inl rfl
  | some k => exact .inr fun e => h2 k ho (by simpa using e)
theorem GRow.row (h : GRow sz d e base w v xs bs) : ∃ A c, v = .slice A xs.length c ∧ xs.length ≤ c ∧ RowR sz d w A xs := by
  obtain ⟨flat, h1, h2⟩ := h.own
  exact row_of_own h1 rfl (h2 w fun _ _ => rfl)
theorem GRow.rowAt {A : Option Addr} {n c : Nat} (h : GRow sz d e base w (.slice A n c) xs bs) : n = xs.length ∧ xs.length ≤ c ∧ RowR sz d w A xs := by
  obtain ⟨A', c', e1, h1, h2⟩ := h.row
  injection e1 with e1 e2 e3
  subst e1 e2 e3
  exact ⟨rfl, h1, h2⟩
/-- It is read the same wherever its blocks stand. -/
theorem GRow.reads {A : Option Addr} {n c : Nat} (h : GRow sz d e base w (.slice A n c) xs bs) (w' : World) (hb : ∀ b ∈ bs ++ (Value.slice A n c).ownBlock.toList, w'.heap[b]? = w.heap[b]?) : RowR sz d w' A xs := by
  obtain ⟨flat, h1, h2⟩ := h.own
  have h3 : w'.ownsRow base e sz (.slice A n c) xs.length flat := by
    refine ⟨h1.1, h1.2.imp id ?_⟩
    rintro ⟨g, cap, cur, h4, h5, h6, h7⟩
    refine ⟨g, cap, cur, h4, h5, ?_, h7⟩
    rw [hb g (by rw [h4]; simp [Value.ownBlock])]
    exact h6
  obtain ⟨A', c', e1, _, h4⟩ := row_of_own h3 rfl (h2 w' fun b hb' => hb b (by simp [hb']))
  injection e1 with e1 _ _
  subst e1
  exact h4
/-- One more element, whose reading looks at the blocks of cs' list. -/
theorem GRow.push {flat cs : List Value} {v' : Value} {x : α} {bs' : List Nat} (h : GRow sz d e base w v xs bs) (hflat : ∀ w', (∀ b ∈ bs, w'.heap[b]? = w.heap[b]?) → Elems sz d w' flat xs)
    (hown : w1.ownsRow base e sz v' (xs.length + 1) (flat ++ cs)) (hg : w.grownBy w1 v.ownBlock) (hob : v'.ownBlock = v.ownBlock ∨ v'.ownBlock = some w.heap.size)
    (hcs : cs.length = sz) (hx : ∀ w', (∀ b ∈ bs', w'.heap[b]? = w.heap[b]?) → d w' cs x) (hlt : ∀ b ∈ bs', base ≤ b ∧ b < w.heap.size) (hne : ∀ b ∈ bs', some b ≠ v.ownBlock) : GRow sz d e base w1 v' (xs ++ [x]) (bs ++ bs') := by
  have hall : ∀ b ∈ bs ++ bs', (base ≤ b ∧ b < w.heap.size) ∧ some b ≠ v.ownBlock := fun b hb => by
    rcases List.mem_append.1 hb with hb | hb
    · exact ⟨h.lt b hb, h.ne b hb⟩
    · exact ⟨hlt b hb, hne b hb⟩
  have same : ∀ b ∈ bs ++ bs', w1.heap[b]? = w.heap[b]? := fun b hb => hg.block b (hall b hb).1.2 (hall b hb).2
  refine ⟨⟨flat ++ cs, by simpa using hown, fun w' hw' => ?_⟩, fun b hb => ⟨(hall b hb).1.1, Nat.lt_of_lt_of_le (hall b hb).1.2 hg.size⟩, fun b hb => ?_⟩
  · exact (hflat w' fun b hb => (hw' b (by simp [hb])).trans (same b (by simp [hb]))).push hcs (hx w' fun b hb => (hw' b (by simp [hb])).trans (same b (by simp [hb])))
  · rcases hob with e | e
    · rw [e]; exact (hall b hb).2
    · rw [e]; intro e'; have := (hall b hb).1.2; simp at e'; omega
/-- The base may be less. -/
theorem GRow.lower {b' : Nat} (h : GRow sz d e base w v xs bs) (hb : b' ≤ base) : GRow sz d e b' w v xs bs := by
  obtain ⟨flat, h1, h2⟩ := h.own
  refine ⟨⟨flat, ⟨h1.1, h1.2.imp id ?_⟩, h2⟩, fun b hb' => ⟨Nat.le_trans hb (h.lt b hb').1, (h.lt b hb').2⟩, h.ne⟩
  rintro ⟨g, cap, cur, h4, h5, h6⟩
  exact ⟨g, cap, cur, h4, Nat.le_trans hb h5, h6⟩
end
/-- A row of ints. -/
abbrev GInts (base : Nat) (w : World) (v : Value) (xs : List Int) := GRow 1 (dI .i64) 3 base w v xs []
theorem dCell_of {w : World} {base : Nat} {A : Option Addr} {n c : Nat} {xs : List Int} (h : GInts base w (.slice A n c) xs) (f : Bool) (v : Int) (hv : -9223372036854775808 ≤ v ∧ v ≤ 9223372036854775807) (w' : World) (hb : ∀ b ∈ (Value.slice A n c).ownBlock.toList, w'.heap[b]? = w.heap[b]?) :
    dCell w' [.bool f, .int .i64 v, .slice A n c] ⟨f, v, xs⟩ := by
  obtain ⟨h1, h2, _⟩ := h.rowAt
  exact ⟨A, c, by rw [h1], h2, h.reads w' (by simpa using hb), hv⟩
theorem dCon_of {w : World} {base : Nat} {A : Option Addr} {n c : Nat} {xs : List Int} (h : GInts base w (.slice A n c) xs) (k a b : Int) (hk : 0 ≤ k ∧ k ≤ 255) (ha : -9223372036854775808 ≤ a ∧ a ≤ 9223372036854775807) (hb' : -9223372036854775808 ≤ b ∧ b ≤ 9223372036854775807) (w' : World) (hb : ∀ b ∈ (Value.slice A n c).ownBlock.toList, w'.heap[b]? = w.heap[b]?) :
    dCon w' [.int .u8 k, .int .i64 a, .int .i64 b, .slice A n c] ⟨k, a, b, xs⟩ := by
  obtain ⟨h1, h2, _⟩ := h.rowAt
  exact ⟨A, c, by rw [h1], h2, h.reads w' (by simpa using hb), hk, ha, hb'⟩
theorem ints_one {w : World} {flat : List Value} {xs : List Int} {x : Int} (hx : -9223372036854775808 ≤ x ∧ x ≤ 9223372036854775807) : dI .i64 w [.int .i64 x] x := ⟨rfl, hx⟩
end Go.Proofs.YtkjbkalakafnlaaDoor
