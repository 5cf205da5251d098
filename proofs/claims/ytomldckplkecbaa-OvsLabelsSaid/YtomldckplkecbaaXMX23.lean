/- least.matrix: a map as a matrix. -/
import Derived.Test.YtomldckplkecbaaXR23
namespace Go.Proofs.Ytomldckplkecbaa
open Go.RowKit
set_option linter.unusedVariables false
set_option linter.unusedSimpArgs false
set_option maxRecDepth 100000
def rowOf (nc : Nat) (p : List Int) : List Bool := p.foldl (fun r o => r.set o.toNat true) (List.replicate nc false)
def matOf (n nc : Nat) (ps : List (List Int)) : Mat := (List.range n).map fun v => rowOf nc (ps.getD v [])
def okRow (nc : Nat) (p : List Int) : Prop := ∀ k, k < p.length → 0 ≤ p[k]! ∧ p[k]! < nc
def okPts (n nc : Nat) (ps : List (List Int)) : Prop := ∀ v, v < n → v < ps.length → okRow nc ps[v]!
def sl (nc b : Nat) : Value := .slice (some ⟨b, 0, none⟩) nc nc
/-- In the loop: the rows rb are made. -/
structure MS (base gm : Nat) (w : World) (rb : List Nat) (n nc : Nat) (M : Mat) : Prop where
  out : w.heap[gm]? = some (.cells ((rb.map (sl nc)) ++ List.replicate (n - rb.length) (Value.slice none 0 0)).toArray 27 (0, 0))
  le : rb.length ≤ n
  sh : Shape rb.length nc M
  blk : ∀ i, i < rb.length → w.heap[rb[i]!]? = some (.cells (vb M[i]!).toArray 4 (0, 0))
  ge : ∀ k ∈ rb, base ≤ k ∧ k < w.heap.size ∧ k ≠ gm
  inj : ∀ i j, i < rb.length → j < rb.length → i ≠ j → rb[i]! ≠ rb[j]!
section
variable {base gm : Nat} {w w1 w2 : World} {rb : List Nat} {n nc : Nat} {M : Mat}
theorem MS.up (h : MS base gm w rb n nc M) (hb : Below w.heap.size w w1) : MS base gm w1 rb n nc M :=
  ⟨blk_up hb h.out, h.le, h.sh, fun i hi => blk_up hb (h.blk i hi), fun k hk => ⟨(h.ge k hk).1, Nat.lt_of_lt_of_le (h.ge k hk).2.1 hb.size, (h.ge k hk).2.2⟩, h.inj⟩
theorem MS.cell (h : MS base gm w rb n nc M) {i : Nat} (hi : i < rb.length) : w.cell? ((⟨gm, 0, none⟩ : Addr).add (i * 1)) = some (sl nc rb[i]!) := by
  rw [Nat.mul_one, add_zero]
  refine cell_blk h.out ?_
  rw [getElem!_pos rb i hi]
  simp [List.getElem?_append_left, hi]
theorem MS.bmat (h : MS base gm w rb n nc M) (hg : gm ∉ rb) : BMat base w (some ⟨gm, 0, none⟩) M rb rb.length nc :=
  ⟨h.sh, rfl, fun i hi => ⟨_, rfl, hg, h.cell hi⟩, h.blk, fun k hk => ⟨(h.ge k hk).1, (h.ge k hk).2.1⟩, h.inj⟩
theorem MS.notin (h : MS base gm w rb n nc M) : gm ∉ rb := fun hm => (h.ge gm hm).2.2 rfl
theorem get_snoc {α : Type} [Inhabited α] (xs : List α) (x : α) {i : Nat} (hi : i < xs.length + 1) : (xs ++ [x])[i]! = if i < xs.length then xs[i]! else x := by
  rw [getElem!_pos _ i (by simpa using hi), List.getElem_append]
  split
  · rename_i h
    rw [getElem!_pos xs i h]
  · simp
theorem MS.snoc (h : MS base gm w rb n nc M) (hlt : rb.length < n) {gr : Nat} (hn : New w w1 gr (List.replicate nc [Value.bool false]).flatten 4) (hb : base ≤ w.heap.size) (hgm : gm < w.heap.size)
    (hp : Put w1 w2 gm (((rb.map (sl nc)) ++ List.replicate (n - rb.length) (Value.slice none 0 0)).set rb.length (sl nc gr)) 27) : MS base gm w2 (rb ++ [gr]) n nc (M ++ [List.replicate nc false]) := by
  have hgr := hn.at_
  have hl : (rb ++ [gr]).length = rb.length + 1 := by simp
  have hMl : M.length = rb.length := h.sh.rows
  have e1 : ((rb.map (sl nc)) ++ List.replicate (n - rb.length) (Value.slice none 0 0)).set rb.length (sl nc gr) = ((rb ++ [gr]).map (sl nc)) ++ List.replicate (n - (rb ++ [gr]).length) (Value.slice none 0 0) := by
    rw [List.set_append_right _ _ (by simp), hl]
    rw [show n - rb.length = (n - (rb.length + 1)) + 1 by omega, List.replicate_succ]
    simp
  rw [e1] at hp
  have old : ∀ i, i < rb.length → rb[i]! < w.heap.size ∧ rb[i]! ≠ gm := fun i hi => ⟨(h.ge _ (mem_get hi)).2.1, (h.ge _ (mem_get hi)).2.2⟩
  refine ⟨hp.blk, by omega, ⟨by simp [hMl], fun i hi => ?_⟩, fun i hi => ?_, fun k hk => ?_, fun i j hi hj hij => ?_⟩
  · rw [get_snoc _ _ (by omega)]
    split
    · rename_i hi'; exact h.sh.cols i (by omega)
    · simp
  · rw [hl] at hi
    rw [get_snoc _ _ hi, get_snoc _ _ (by omega), hMl]
    by_cases hi' : i < rb.length
    · rw [if_pos hi', if_pos hi']
      exact hp.old (hn.old (h.blk i hi')) (old i hi').2
    · rw [if_neg hi', if_neg hi']
      have e2 : vb (List.replicate nc false) = (List.replicate nc [Value.bool false]).flatten := by simp [vb]
      rw [e2]
      exact hp.old hn.blk (by omega)
  · rw [hp.size, hn.size]
    rcases List.mem_append.1 hk with hk | hk
    · have := h.ge k hk; exact ⟨this.1, by omega, this.2.2⟩
    · simp only [List.mem_singleton] at hk
      subst hk
      exact ⟨by omega, by omega, by omega⟩
  · rw [hl] at hi hj
    rw [get_snoc _ _ hi, get_snoc _ _ hj]
    by_cases h1 : i < rb.length <;> by_cases h2 : j < rb.length
    · rw [if_pos h1, if_pos h2]; exact h.inj i j h1 h2 hij
    · rw [if_pos h1, if_neg h2]; have := (old i h1).1; omega
    · rw [if_neg h1, if_pos h2]; have := (old j h2).1; omega
    · omega
theorem MS.put (h : MS base gm w rb n nc M) {i o : Nat} (hi : i < rb.length) (hp : Put w w1 rb[i]! ((vb M[i]!).set o (.bool true)) 4) : MS base gm w1 rb n nc (setT M i o) := by
  have hb := (h.bmat h.notin).put hi hp
  exact ⟨hp.old h.out (fun e => (h.ge _ (mem_get hi)).2.2 e.symm), h.le, hb.sh, hb.blk, fun k hk => ⟨(h.ge k hk).1, by rw [hp.size]; exact (h.ge k hk).2.1, (h.ge k hk).2.2⟩, h.inj⟩
end
theorem rowOf_len (nc : Nat) (p : List Int) : (rowOf nc p).length = nc := by
  have : ∀ (l : List Int) (r : List Bool), (l.foldl (fun r o => r.set o.toNat true) r).length = r.length := by
    intro l
    induction l with
    | nil => intro r; rfl
    | cons o l ih => intro r; rw [List.foldl_cons, ih]; simp
  rw [rowOf, this]
  simp
theorem matOf_take (nc : Nat) (ps : List (List Int)) (v : Nat) : matOf (v + 1) nc ps = matOf v nc ps ++ [rowOf nc (ps.getD v [])] := by
  simp [matOf, List.range_succ]
theorem matOf_shape (n nc : Nat) (ps : List (List Int)) : Shape n nc (matOf n nc ps) := by
  refine ⟨by simp [matOf], fun i hi => ?_⟩
  rw [getElem!_pos _ i (by simpa [matOf] using hi)]
  simp [matOf, rowOf_len]
end Go.Proofs.Ytomldckplkecbaa
