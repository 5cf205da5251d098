/- least.rule: a constraint is kept. -/
import Derived.Test.YtomldckplkecbaaXO23
import Derived.Test.YtomldckplkecbaaY5
namespace Go.Proofs.Ytomldckplkecbaa
open Go.RowKit
set_option linter.unusedVariables false
set_option linter.unusedSimpArgs false
set_option maxRecDepth 100000
theorem stable_Kw (rb : List Nat) (w : World) : Stable (Keeps rb w) := fun _ _ h h' => h.up h'
theorem setT_same {n c : Nat} {M : Mat} (h : Shape n c M) {i o : Nat} (hi : i < n) (ho : o < c) (hy : mg M i o = true) : setT M i o = M :=
  mat_ext (setT_shape h hi) h fun j q _ _ => by
    rw [mg_setT h hi ho]
    split
    · rename_i e; obtain ⟨rfl, rfl⟩ := e; exact hy.symm
    · rfl
structure GoodC (n nc : Nat) (c : Con) : Prop where
  k : 1 ≤ c.k ∧ c.k ≤ 5
  a : c.a < n
  a0 : c.k < 5 → 0 ≤ c.a
  b0 : 0 ≤ c.b
  b1 : c.k = 1 → c.b < nc
  b : 2 ≤ c.k → c.b < n
  args : ∀ j, j < c.args.length → c.args[j]! < n
theorem goodC {n nc : Nat} {c : Con} (h : conOk n nc c = true) : GoodC n nc c := by
  simp only [conOk, Bool.and_eq_true, decide_eq_true_eq, inR, List.all_eq_true] at h
  obtain ⟨⟨⟨⟨⟨⟨h1, h2⟩, h3, h4⟩, h5, h6⟩, _⟩, _⟩, h7⟩ := h
  refine ⟨⟨h1, h2⟩, h4, fun hk => by rw [if_neg (by omega)] at h3; exact h3, h5, fun hk => by rw [if_pos hk] at h6; exact h6, fun hk => by rw [if_neg (by omega)] at h6; exact h6, fun j hj => (h7 _ (mem_get hj)).2⟩
structure GoodX (n : Nat) (x : Cell) : Prop where
  v0 : 0 ≤ x.v
  v : x.v < n
  args0 : ∀ j, j < x.args.length → 0 ≤ x.args[j]!
  args : ∀ j, j < x.args.length → x.args[j]! < n
theorem goodX {n : Nat} {x : Cell} (h : cellOk n x = true) : GoodX n x := by
  simp only [cellOk, Bool.and_eq_true, decide_eq_true_eq, inR, List.all_eq_true] at h
  exact ⟨h.1.1.1.1, h.1.1.1.2, fun j hj => (h.2 _ (mem_get hj)).1, fun j hj => (h.2 _ (mem_get hj)).2⟩
theorem grow_first {α : Type} [Inhabited α] {sz : Nat} {d : Dec α} {e : TypeId} {base : Nat} {w w1 : World} {v : Value} {zs : List α} {news : List Value} (hel : Elems sz d w news zs) (hd : ∀ (w w' : World) cs x, d w cs x → d w' cs x) (hown : w1.ownsRow base e sz v (0 + zs.length) ([] ++ news)) : GRow sz d e base w1 v zs [] := by
  rw [Nat.zero_add, List.nil_append] at hown
  exact ⟨⟨news, hown, fun w' _ => ⟨hel.1, fun i hi => hd _ _ _ _ (hel.2 i hi)⟩⟩, by simp, by simp⟩
/-- The k first objects are through. -/
def objsTo (xs : List Cell) (c : Con) (k : Nat) (M : Mat) : Prop := ∀ o, o < k → mg M (srcOf c) o = true → objP c xs[o]! M
end Go.Proofs.Ytomldckplkecbaa
