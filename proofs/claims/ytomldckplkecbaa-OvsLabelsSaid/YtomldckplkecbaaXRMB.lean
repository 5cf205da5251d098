/- Matrices of truths whose outer row grows by append. -/
import Derived.Test.YtomldckplkecbaaXMX23
namespace Go.Proofs.Ytomldckplkecbaa
open Go.RowKit
set_option linter.unusedVariables false
set_option linter.unusedSimpArgs false
set_option maxRecDepth 100000
/-- A row of truths, told by its block. -/
def dSl (nc : Nat) : Dec Nat := fun _ cs b => cs = [sl nc b]
structure RM (base : Nat) (w : World) (V : Value) (rb : List Nat) (nc : Nat) (M : Mat) : Prop where
  row : GRow 1 (dSl nc) 27 base w V rb rb
  sh : Shape rb.length nc M
  blk : ∀ i, i < rb.length → w.heap[rb[i]!]? = some (.cells (vb M[i]!).toArray 4 (0, 0))
  inj : ∀ i j, i < rb.length → j < rb.length → i ≠ j → rb[i]! ≠ rb[j]!
section
variable {base : Nat} {w w1 : World} {V V' : Value} {rb : List Nat} {nc : Nat} {M : Mat}
theorem RM.nil (base : Nat) (w : World) (nc : Nat) : RM base w (.slice none 0 0) [] nc [] := ⟨GRow.nil .., ⟨rfl, by simp⟩, by simp, by simp⟩
theorem RM.up (h : RM base w V rb nc M) (hb : Below w.heap.size w w1) : RM base w1 V rb nc M :=
  ⟨h.row.below hb, h.sh, fun i hi => blk_up hb (h.blk i hi), h.inj⟩
theorem RM.lt (h : RM base w V rb nc M) : ∀ k ∈ rb, base ≤ k ∧ k < w.heap.size := h.row.lt
theorem RM.bmat {A : Option Addr} {n c : Nat} (h : RM base w (.slice A n c) rb nc M) : BMat base w A M rb rb.length nc := by
  refine ⟨h.sh, rfl, fun i hi => ?_, h.blk, h.lt, h.inj⟩
  obtain ⟨_, _, hr⟩ := h.row.rowAt
  obtain ⟨ad, cs, e, _, hc, hd⟩ := row_at hr i hi
  subst e
  have hd : cs = [sl nc rb[i]!] := hd
  subst hd
  refine ⟨ad, rfl, fun hm => ?_, hc.1⟩
  exact h.row.ne _ hm rfl
theorem RM.snoc {flat : List Value} {gr : Nat} {r : List Bool} (h : RM base w V rb nc M) (hflat : ∀ w', (∀ b ∈ rb, w'.heap[b]? = w.heap[b]?) → Elems 1 (dSl nc) w' flat rb)
    (hown : w1.ownsRow base 27 1 V' (rb.length + 1) (flat ++ [sl nc gr])) (hg : w.grownBy w1 V.ownBlock) (hob : V'.ownBlock = V.ownBlock ∨ V'.ownBlock = some w.heap.size)
    (hr : w.heap[gr]? = some (.cells (vb r).toArray 4 (0, 0))) (hl : r.length = nc) (hb : base ≤ gr) (hne : some gr ≠ V.ownBlock) (hni : gr ∉ rb) : RM base w1 V' (rb ++ [gr]) nc (M ++ [r]) := by
  have hlt := blk_lt hr
  have hM := h.sh.rows
  refine ⟨h.row.push hflat hown hg hob rfl (bs' := [gr]) (x := gr) (fun _ _ => rfl) (by simp; exact ⟨hb, hlt⟩) (by simpa using hne), ⟨by simp [hM], fun i hi => ?_⟩, fun i hi => ?_, fun i j hi hj hij => ?_⟩
  · have hi : i < rb.length + 1 := by simpa using hi
    rw [get_snoc _ _ (by omega)]
    split
    · exact h.sh.cols i (by omega)
    · exact hl
  · have hi : i < rb.length + 1 := by simpa using hi
    rw [get_snoc _ _ hi, get_snoc _ _ (by omega), hM]
    by_cases hi' : i < rb.length
    · rw [if_pos hi', if_pos hi']
      exact (hg.block _ (h.lt _ (mem_get hi')).2 (h.row.ne _ (mem_get hi'))).trans (h.blk i hi')
    · rw [if_neg hi', if_neg hi']
      exact (hg.block _ hlt hne).trans hr
  · have hi : i < rb.length + 1 := by simpa using hi
    have hj : j < rb.length + 1 := by simpa using hj
    rw [get_snoc _ _ hi, get_snoc _ _ hj]
    by_cases h1 : i < rb.length <;> by_cases h2 : j < rb.length
    · rw [if_pos h1, if_pos h2]; exact h.inj i j h1 h2 hij
    · rw [if_pos h1, if_neg h2]; exact fun e => hni (e ▸ mem_get h1)
    · rw [if_neg h1, if_pos h2]; exact fun e => hni (e ▸ mem_get h2)
    · omega
end
/-- A truth that stays false is written. -/
theorem BMat.putFF {base : Nat} {w w1 : World} {A : Option Addr} {M : Mat} {rb : List Nat} {n nc : Nat} (h : BMat base w A M rb n nc) {i o : Nat} (hi : i < n) (ho : o < nc) (hb : mg M i o = false) (hp : Put w w1 rb[i]! ((vb M[i]!).set o (.bool false)) 4) : BMat base w1 A M rb n nc := by
  have hrow : (vb M[i]!).set o (.bool false) = vb M[i]! := by
    have h1 : (M[i]!).set o false = M[i]! := by
      have hl := h.sh.cols i hi
      have h2 : (M[i]!)[o]! = false := hb
      rw [getElem!_pos _ o (by omega)] at h2
      conv => lhs; rw [← h2]
      exact List.set_getElem_self _
    conv => rhs; rw [← h1]
    simp [vb, List.map_set]
  rw [hrow] at hp
  refine ⟨h.sh, h.len, fun j hj => ?_, fun j hj => ?_, fun k hk => ⟨(h.ge k hk).1, by rw [hp.size]; exact (h.ge k hk).2⟩, h.inj⟩
  · obtain ⟨ad, e, hn, hc⟩ := h.cell j hj
    refine ⟨ad, e, hn, ?_⟩
    refine (World.cell?_of_block ?_).trans hc
    rw [add_block]
    have hlt := World.block_lt_of_cell? w _ hc
    rw [add_block] at hlt
    exact hp.grown.block _ hlt (by
      intro e
      injection e with e
      exact hn (e ▸ h.mem hi))
  · by_cases e : j = i
    · subst e; exact hp.blk
    · exact hp.old (h.blk j hj) (h.inj j i hj hi e)
end Go.Proofs.Ytomldckplkecbaa
