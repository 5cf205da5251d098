/- Matrices of truths whose outer row grows by append. -/
import Derived.Test.YtkmnhkfgjadppaaPT23
namespace Go.Proofs.Ytkmnhkfgjadppaa
open Go.RowKit
set_option linter.unusedVariables false
set_option linter.unusedSimpArgs false
set_option maxRecDepth 100000
/-- A row of truths, told by its block. -/
def dSl (nc : Nat) : Dec Nat := fun _ cs b => cs = [sl nc b]
structure RM (base : Nat) (w : World) (V : Value) (rb : List Nat) (nc : Nat) (M : Mat) : Prop where
  row : GRow 1 (dSl nc) 35 base w V rb rb
  sh : Shape rb.length nc M
  blk : ∀ i, i < rb.length → w.heap[rb[i]!]? = some (.cells (vb M[i]!).toArray 4 (0, 0))
  inj : ∀ i j, i < rb.length → j < rb.length → i ≠ j → rb[i]! ≠ rb[j]!
section
variable {base : Nat} {w w1 : World} {V V' : Value} {rb : List Nat} {nc : Nat} {M : Mat}
theorem RM.nil (base : Nat) (w : World) (nc : Nat) : RM base w (.slice none 0 0) [] nc [] := ⟨GRow.nil .., ⟨rfl, by simp⟩, by simp, by simp⟩
theorem RM.up (h : RM base w V rb nc M) (hb : Below w.heap.size w w1) : RM base w1 V rb nc M :=
  ⟨h.row.below hb, h.sh, fun i hi => blk_up hb (h.blk i hi), h.inj⟩
theorem RM.lt (h : RM base w V rb nc M) : ∀ k ∈ rb, base ≤ k ∧ k < w.heap.size := h.row.lt
theorem RM.bmat {A : Option Addr} {n c : Nat} (h : RM base w (.slice A n c) rb nc M) : BMat base w A M rb rb.length nc := by
  refine ⟨h.sh, rfl, fun i hi => ?_, h.blk, h.lt, h.inj⟩
  obtain ⟨_, _, hr⟩ := h.row.rowAt
  obtain ⟨ad, cs, e, _, hc, hd⟩ := row_at hr i hi
  subst e
  have hd : cs = [sl nc rb[i]!] := hd
  subst hd
  refine ⟨ad, rfl, fun hm => ?_, hc.1⟩
  exact h.row.ne _ hm rfl
theorem RM.snoc {flat : List Value} {gr : Nat} {r : List Bool} (h : RM base w V rb nc M) (hflat : ∀ w', (∀ b ∈ rb, w'.heap[b]? = w.heap[b]?) → Elems 1 (dSl nc) w' flat rb)
    (hown : w1.ownsRow base 35 1 V' (rb.length + 1) (flat ++ [sl nc gr])) (hg : w.grownBy w1 V.ownBlock) (hob : V'.ownBlock = V.ownBlock ∨ V'.ownBlock = some w.heap.size)
    (hr : w.heap[gr]? = some (.cells (vb r).toArray 4 (0, 0))) (hl : r.length = nc) (hb : base ≤ gr) (hne : some gr ≠ V.ownBlock) (hni : gr ∉ rb) : RM base w1 V' (rb ++ [gr]) nc (M ++ [r]) := by
  have hlt := blk_lt hr
  have hM := h.sh.rows
  refine ⟨h.row.push hflat hown hg hob rfl (bs' := [gr]) (x := gr) (fun _ _ => rfl) (by simp; exact ⟨hb, hlt⟩) (by simpa using hne), ⟨by simp [hM], fun i hi => ?_⟩, fun i hi => ?_, fun i j hi hj hij => ?_⟩
  · have hi : i < rb.length + 1 := by simpa using hi
    rw [get_snoc _ _ (by omega)]
    split
    · exact h.sh.cols i (by omega)
    · exact hl
  · have hi : i < rb.length + 1 := by simpa using hi
    rw [get_snoc _ _ hi, get_snoc _ _ (by omega), hM]
    by_cases hi' : i < rb.length
    · rw [if_pos hi', if_pos hi']
      exact (hg.block _ (h.lt _ (mem_get hi')).2 (h.row.ne _ (mem_get hi'))).trans (h.blk i hi')
    · rw [if_neg hi', if_neg hi']
      exact (hg.block _ hlt hne).trans hr
  · have hi : i < rb.length + 1 := by simpa using hi
    have hj : j < rb.length + 1 := by simpa using hj
    rw [get_snoc _ _ hi, get_snoc _ _ hj]
    by_cases h1 : i < rb.length <;> by_cases h2 : j < rb.length
    · rw [if_pos h1, if_pos h2]; exact h.inj i j h1 h2 hij
    · rw [if_pos h1, if_neg h2]; exact fun e => hni (e ▸ mem_get h1)
    · rw [if_neg h1, if_pos h2]; exact fun e => hni (e ▸ mem_get h2)
    · omega
end
/-- A row of rows of ints, that grows: one more row, of the call's own too. -/
theorem rows_push {base : Nat} {w w1 : World} {V V' : Value} {rows : List (List Int)} {bs : List Nat} {flat : List Value} {A : Option Addr} {c : Nat} {ys : List Int} {b' : Nat}
    (h : GRow 1 dInts 32 base w V rows bs) (hflat : ∀ w', (∀ b ∈ bs, w'.heap[b]? = w.heap[b]?) → Elems 1 dInts w' flat rows)
    (hown : w1.ownsRow base 32 1 V' (rows.length + 1) (flat ++ [.slice A ys.length c])) (hg : w.grownBy w1 V.ownBlock) (hob : V'.ownBlock = V.ownBlock ∨ V'.ownBlock = some w.heap.size)
    (hy : GInts b' w (.slice A ys.length c) ys) (hb : base ≤ b') (hne : ∀ k, (Value.slice A ys.length c).ownBlock = some k → some k ≠ V.ownBlock) : GRow 1 dInts 32 base w1 V' (rows ++ [ys]) (bs ++ (Value.slice A ys.length c).ownBlock.toList) := by
  have hrow := hy.rowAt
  refine h.push hflat hown hg hob rfl (x := ys) (fun w' hw' => ⟨A, c, rfl, hrow.2.1, hy.reads w' (by simpa using hw')⟩) (fun b hb' => ?_) (fun b hb' => ?_)
  · have e := mem_own hb'
    have := hy.olt b e
    omega
  · exact hne b (mem_own hb')
end Go.Proofs.Ytkmnhkfgjadppaa
