/- Matrices of truths, in memory; what leaves all but their rows as it was. -/
import Derived.Test.YtomldckplkecbaaXPM
namespace Go.Proofs.Ytomldckplkecbaa
open Go.RowKit
set_option linter.unusedVariables false
set_option linter.unusedSimpArgs false
/-- All that was there is as it was, but for the blocks of rb. -/
structure Keeps (rb : List Nat) (w w' : World) : Prop where
  os : w'.os = w.os
  tape : w'.tape = w.tape
  output : w'.output = w.output
  size : w.heap.size ≤ w'.heap.size
  block : ∀ k, k < w.heap.size → k ∉ rb → w'.heap[k]? = w.heap[k]?
section
variable {rb : List Nat} {w w1 w2 : World}
theorem Keeps.of (h : Below w.heap.size w w1) : Keeps rb w w1 := ⟨h.os, h.tape, h.output, h.size, fun k hk _ => h.block k hk⟩
theorem Keeps.refl (rb : List Nat) (w : World) : Keeps rb w w := Keeps.of (Below.refl _ _)
theorem Keeps.trans (h : Keeps rb w w1) (k : Keeps rb w1 w2) : Keeps rb w w2 :=
  ⟨k.os.trans h.os, k.tape.trans h.tape, k.output.trans h.output, Nat.le_trans h.size k.size, fun i hi hn => (k.block i (Nat.lt_of_lt_of_le hi h.size) hn).trans (h.block i hi hn)⟩
theorem Keeps.put (h : Keeps rb w w1) {g : Nat} {cs : List Value} {t : TypeId} (hp : Put w1 w2 g cs t) (hg : g ∈ rb) : Keeps rb w w2 :=
  h.trans ⟨hp.grown.os, hp.grown.tape, hp.grown.output, hp.grown.size, fun k hk hn => hp.grown.block k hk (by simp; intro e; subst e; exact hn hg)⟩
theorem Keeps.up (h : Keeps rb w w1) (k : Below w1.heap.size w1 w2) : Keeps rb w w2 := h.trans (Keeps.of k)
theorem Keeps.blk (h : Keeps rb w w1) {g : Nat} {o : Obj} (hb : w.heap[g]? = some o) (hn : g ∉ rb) : w1.heap[g]? = some o := (h.block g (blk_lt hb) hn).trans hb
theorem Keeps.below {w0 : World} {B : Nat} (h : Keeps rb w w1) (hb : Below B w0 w) (hB : B ≤ w.heap.size) (hr : ∀ k ∈ rb, B ≤ k) : Below B w0 w1 :=
  hb.trans ⟨h.os, h.tape, h.output, h.size, fun k hk => h.block k (Nat.lt_of_lt_of_le hk hB) fun hm => by have := hr k hm; omega⟩
end
/-- A matrix: its rows lie in the blocks rb, the row of their values at A. -/
structure BMat (base : Nat) (w : World) (A : Option Addr) (M : Mat) (rb : List Nat) (n nc : Nat) : Prop where
  sh : Shape n nc M
  len : rb.length = n
  cell : ∀ i, i < n → ∃ ad, A = some ad ∧ ad.block ∉ rb ∧ w.cell? (ad.add (i * 1)) = some (.slice (some ⟨rb[i]!, 0, none⟩) nc nc)
  blk : ∀ i, i < n → w.heap[rb[i]!]? = some (.cells (vb M[i]!).toArray 4 (0, 0))
  ge : ∀ k ∈ rb, base ≤ k ∧ k < w.heap.size
  inj : ∀ i j, i < n → j < n → i ≠ j → rb[i]! ≠ rb[j]!
section
variable {base : Nat} {w w1 : World} {A : Option Addr} {M : Mat} {rb : List Nat} {n nc : Nat}
theorem BMat.mem (h : BMat base w A M rb n nc) {i : Nat} (hi : i < n) : rb[i]! ∈ rb := mem_get (by rw [h.len]; exact hi)
theorem BMat.up (h : BMat base w A M rb n nc) (hb : Below w.heap.size w w1) : BMat base w1 A M rb n nc :=
  ⟨h.sh, h.len, fun i hi => let ⟨ad, e, hn, hc⟩ := h.cell i hi; ⟨ad, e, hn, cell_up hb hc⟩, fun i hi => blk_up hb (h.blk i hi), fun k hk => ⟨(h.ge k hk).1, Nat.lt_of_lt_of_le (h.ge k hk).2 hb.size⟩, h.inj⟩
theorem BMat.cells (h : BMat base w A M rb n nc) {i : Nat} (hi : i < n) : ∃ ad, A = some ad ∧ w.cell? (ad.add (i * 1)) = some (.slice (some ⟨rb[i]!, 0, none⟩) nc nc) := let ⟨ad, e, _, hc⟩ := h.cell i hi; ⟨ad, e, hc⟩
theorem BMat.bit (h : BMat base w A M rb n nc) {i o : Nat} (hi : i < n) (ho : o < nc) : w.cell? ((⟨rb[i]!, 0, none⟩ : Addr).add (o * 1)) = some (.bool (mg M i o)) := by
  rw [Nat.mul_one, add_zero]
  have hl := h.sh.cols i hi
  refine cell_blk (h.blk i hi) ?_
  have := List.getElem?_map (f := Value.bool) (l := M[i]!) (i := o)
  simp only [vb, List.getElem?_toArray, List.getElem?_map]
  rw [List.getElem?_eq_getElem (by rw [hl]; exact ho)]
  unfold mg
  rw [getElem!_pos (M[i]!) o (by rw [hl]; exact ho)]
  rfl
theorem BMat.put (h : BMat base w A M rb n nc) {i o : Nat} (hi : i < n) (hp : Put w w1 rb[i]! ((vb M[i]!).set o (.bool true)) 4) : BMat base w1 A (setT M i o) rb n nc := by
  refine ⟨setT_shape h.sh hi, h.len, fun j hj => ?_, fun j hj => ?_, fun k hk => ⟨(h.ge k hk).1, by rw [hp.size]; exact (h.ge k hk).2⟩, h.inj⟩
  · obtain ⟨ad, e, hn, hc⟩ := h.cell j hj
    refine ⟨ad, e, hn, ?_⟩
    refine (World.cell?_of_block ?_).trans hc
    rw [add_block]
    have hlt := World.block_lt_of_cell? w _ hc
    rw [add_block] at hlt
    refine hp.grown.block _ hlt fun e2 => hn ?_
    have e3 : ad.block = rb[i]! := by simpa using e2
    rw [e3]
    exact h.mem hi
  · by_cases e : i = j
    · subst e
      have e2 : (vb M[i]!).set o (.bool true) = vb (setT M i o)[i]! := by
        unfold setT
        rw [get_set _ _ _ _ (by rw [h.sh.rows]; exact hi), if_pos rfl]
        simp [vb, List.map_set]
      rw [← e2]
      exact hp.blk
    · have e2 : (setT M i o)[j]! = M[j]! := by
        unfold setT
        rw [get_set _ _ _ _ (by rw [h.sh.rows]; exact hj), if_neg e]
      rw [e2]
      exact hp.old (h.blk j hj) (fun e3 => h.inj j i hj hi (fun q => e q.symm) e3)
end
end Go.Proofs.Ytomldckplkecbaa
