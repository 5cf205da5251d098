/- Several sets beside each other; how many numbers two sets have that are apart. -/
import Derived.Test.YtkmnhkfgjadppaaDoorL0300
import Derived.Test.YtkmnhkfgjadppaaDoorS03
import Derived.Test.YtkmnhkfgjadppaaDoorK03
namespace Go.Proofs.YtkmnhkfgjadppaaDoor
open Go.RowKit
set_option linter.unusedVariables false
set_option linter.unusedSimpArgs false
section
variable {w0 w1 w w' : World} {g : Nat} {bs t bs' : List Blk} {fp fp' f2 rb : List Nat} {e : Ending} {n : Int}
theorem OwnS.up (h : OwnS w0 g w bs fp) (hb : Below w.heap.size w w') : OwnS w0 g w' bs fp := ⟨h.set.up hb, bup h.below hb⟩
theorem OwnS.low (h : OwnS w1 g w bs fp) (hb : Below w0.heap.size w0 w1) : OwnS w0 g w bs fp := ⟨h.set.lower hb.size, bup hb h.below⟩
theorem OwnS.kept (h : OwnS w0 g w bs fp) (hk : Kept rb w w') (hd : ∀ b ∈ fp, b ∉ rb) (hr : ∀ b ∈ rb, w0.heap.size ≤ b) : OwnS w0 g w' bs fp :=
  ⟨h.set.kept hk hd, hk.below h.below h.below.size hr⟩
theorem OwnS.join (h : OwnS w0 g w bs fp) (r : JoinR w0.heap.size g w bs t e w' bs' fp') : OwnS w0 g w' bs' fp' :=
  ⟨r.set, r.kept.below h.below h.below.size (fun k hk => by rw [List.mem_singleton.1 hk]; exact h.set.ge)⟩
theorem OwnS.far (h : OwnS w0 g w bs fp) : ∀ b ∈ fp, w0.heap.size ≤ b := fun b hb => (h.set.lt b hb).1
theorem OwnS.near (h : OwnS w0 g w bs fp) : ∀ b ∈ fp, b < w.heap.size := fun b hb => (h.set.lt b hb).2
theorem OwnS.g_in (h : OwnS w0 g w bs fp) : g ∈ fp := by obtain ⟨V, _, _, rfl, _⟩ := h.set.ex; simp
/-- What is apart stays apart. -/
theorem apart_add {W0 : World} (ho : OwnS W0 g w t f2) (hd : ∀ b ∈ f2, b ∉ fp) (hn : ∀ b ∈ fp', b ∈ fp ∨ w.heap.size ≤ b) : ∀ b ∈ f2, b ∉ fp' := fun b hb hm => by
  rcases hn b hm with h1 | h1
  · exact hd b hb h1
  · have := (ho.set.lt b hb).2; omega
theorem apart_join {W0 : World} {g2 : Nat} (ho : OwnS W0 g2 w t f2) (hs : OwnS w0 g w bs fp) (hd : ∀ b ∈ f2, b ∉ fp) (hn : ∀ b ∈ fp', b = g ∨ w.heap.size ≤ b) : ∀ b ∈ f2, b ∉ fp' := fun b hb hm => by
  rcases hn b hm with h1 | h1
  · subst h1; exact hd b hb hs.g_in
  · have := (ho.set.lt b hb).2; omega
theorem apart_g (hs : OwnS w0 g w bs fp) (hd : ∀ b ∈ f2, b ∉ fp) : ∀ b ∈ f2, b ∉ [g] := fun b hb hm => by
  rw [List.mem_singleton.1 hm] at hb
  exact hd g hb hs.g_in
theorem apart_new {W0 : World} {g2 : Nat} (ho : OwnS W0 g2 w1 t f2) (hs : OwnS w1 g w bs fp) : ∀ b ∈ f2, b ∉ fp := fun b hb hm => by
  have := (ho.set.lt b hb).2
  have := (hs.set.lt b hm).1
  omega
end
theorem apart_sym {f1 f2 : List Nat} (h : ∀ b ∈ f1, b ∉ f2) : ∀ b ∈ f2, b ∉ f1 := fun b hb hm => h b hm hb
theorem len_filter_not {α : Type} (p : α → Bool) : ∀ l : List α, l.length = (l.filter p).length + (l.filter fun x => !p x).length
  | [] => rfl
  | a :: l => by
    have := len_filter_not p l
    cases h : p a <;> simp [h] <;> omega
/-- A set that is made up of two that are apart. -/
theorem cardB {X S L : List Blk} (hX : WFB X) (hS : WFB S) (hL : WFB L) (h : ∀ n, memB X n = (memB S n || memB L n)) (hd : ∀ n, memB S n = true → memB L n = false) : (numsB X).length = (numsB S).length + (numsB L).length := by
  have e1 : (numsB X).filter (fun x => memB S x.toNat) = numsB S := by
    refine up_eq ((numsB_up hX.up).filter _) (numsB_up hS.up) fun x => ?_
    rw [List.mem_filter, mem_numsB hX, mem_numsB hS, h]
    constructor
    · rintro ⟨⟨h1, _⟩, h2⟩; exact ⟨h1, h2⟩
    · rintro ⟨h1, h2⟩; exact ⟨⟨h1, by rw [h2]; rfl⟩, h2⟩
  have e2 : (numsB X).filter (fun x => !memB S x.toNat) = numsB L := by
    refine up_eq ((numsB_up hX.up).filter _) (numsB_up hL.up) fun x => ?_
    rw [List.mem_filter, mem_numsB hX, mem_numsB hL, h]
    constructor
    · rintro ⟨⟨h1, h2⟩, h3⟩
      have h3 : memB S x.toNat = false := by simpa using h3
      rw [h3] at h2
      exact ⟨h1, h2⟩
    · rintro ⟨h1, h2⟩
      have h3 : memB S x.toNat = false := by
        cases h4 : memB S x.toNat
        · rfl
        · rw [hd _ h4] at h2; cases h2
      exact ⟨⟨h1, by rw [h2]; simp⟩, by rw [h3]; rfl⟩
  have := len_filter_not (fun x => memB S x.toNat) (numsB X)
  rw [e1, e2] at this
  exact this
end Go.Proofs.YtkmnhkfgjadppaaDoor
