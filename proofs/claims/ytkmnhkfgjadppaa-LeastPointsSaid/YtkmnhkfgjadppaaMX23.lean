/- least.matrix: a map as a matrix. -/
import Derived.Test.YtkmnhkfgjadppaaR23
namespace Go.Proofs.Ytkmnhkfgjadppaa
open Go.RowKit
set_option linter.unusedVariables false
set_option linter.unusedSimpArgs false
set_option maxRecDepth 100000
def rowOf (nc : Nat) (p : List Int) : List Bool := p.foldl (fun r o => r.set o.toNat true) (List.replicate nc false)
def matOf (n nc : Nat) (ps : List (List Int)) : Mat := (List.range n).map fun v => rowOf nc (ps.getD v [])
def okRow (nc : Nat) (p : List Int) : Prop := ∀ k, k < p.length → 0 ≤ p[k]! ∧ p[k]! < nc
def okPts (n nc : Nat) (ps : List (List Int)) : Prop := ∀ v, v < n → v < ps.length → okRow nc ps[v]!
def sl (nc b : Nat) : Value := .slice (some ⟨b, 0, none⟩) nc nc
/-- In the loop: the rows rb are made. -/
structure MS (base gm : Nat) (w : World) (rb : List Nat) (n nc : Nat) (M : Mat) : Prop where
  out : w.heap[gm]? = some (.cells ((rb.map (sl nc)) ++ List.replicate (n - rb.length) (Value.slice none 0 0)).toArray 35 (0, 0))
  le : rb.length ≤ n
  sh : Shape rb.length nc M
  blk : ∀ i, i < rb.length → w.heap[rb[i]!]? = some (.cells (vb M[i]!).toArray 4 (0, 0))
  ge : ∀ k ∈ rb, base ≤ k ∧ k < w.heap.size ∧ k ≠ gm
  inj : ∀ i j, i < rb.length → j < rb.length → i ≠ j → rb[i]! ≠ rb[j]!
section
variable {base gm : Nat} {w w1 w2 : World} {rb : List Nat} {n nc : Nat} {M : Mat}
theorem MS.up (h : MS base gm w rb n nc M) (hb : Below w.heap.size w w1) : MS base gm w1 rb n nc M :=
  ⟨blk_up hb h.out, h.le, h.sh, fun i hi => blk_up hb (h.blk i hi), fun k hk => ⟨(h.ge k hk).1, Nat.lt_of_lt_of_le (h.ge k hk).2.1 hb.size, (h.ge k hk).2.2⟩, h.inj⟩
theorem MS.cell (h : MS base gm w rb n nc M) {i : Nat} (hi : i < rb.length) : w.cell? ((⟨gm, 0, none⟩ : Addr).add (i * 1)) = some (sl nc rb[i]!) := by
  rw [Nat.mul_one, add_zero]
  refine cell_blk h.out ?_
  rw [getElem!_pos rb i hi]
  simp [List.getElem?_append_left, hi]
theorem MS.bmat (h : MS base gm w rb n nc M) (hg : gm ∉ rb) : BMat base w (some ⟨gm, 0, none⟩) M rb rb.length nc :=
  ⟨h.sh, rfl, fun i hi => ⟨_, rfl, hg, h.cell hi⟩, h.blk, fun k hk => ⟨(h.ge k hk).1, (h.ge k hk).2.1⟩, h.inj⟩
theorem MS.notin (h : MS base gm w rb n nc M) : gm ∉ rb := fun hm => (h.ge gm hm).2.2 rfl
theorem get_snoc {α : Type} [Inhabited α] (xs : List α) (x : α) {i : Nat} (hi : i < xs.length + 1) : (xs ++ [x])[i]! = if i < xs.length then xs[i]! else x := by
  rw [getElem!_pos _ i (by simpa using hi), List.getElem_append]
  split
  · rename_i h
    rw [getElem!_pos xs i h]
  · simp
theorem MS.snoc (h : MS base gm w rb n nc M) (hlt : rb.length < n) {gr : Nat} (hn : New w w1 gr (List.replicate nc [Value.bool false]).flatten 4) (hb : base ≤ w.heap.size) (hgm : gm < w.heap.size)
    (hp : Put w1 w2 gm (((rb.map (sl nc)) ++ List.replicate (n - rb.length) (Value.slice none 0 0)).set rb.length (sl nc gr)) 35) : MS base gm w2 (rb ++ [gr]) n nc (M ++ [List.replicate nc false]) := by
  have hgr := hn.at_
  have hl : (rb ++ [gr]).length = rb.length + 1 := by simp
  have hMl : M.length = rb.length := h.sh.rows
  have e1 : ((rb.map (sl nc)) ++ List.replicate (n - rb.length) (Value.slice none 0 0)).set rb.length (sl nc gr) = ((rb ++ [gr]).map (sl nc)) ++ List.replicate (n - (rb ++ [gr]).length) (Value.slice none 0 0) := by
    rw [List.set_append_right _ _ (by simp), hl]
    rw [show n - rb.length = (n - (rb.length + 1)) + 1 by omega, List.replicate_succ]
    simp
  rw [e1] at hp
  have old : ∀ i, i < rb.length → rb[i]! < w.heap.size ∧ rb[i]! ≠ gm := fun i hi => ⟨(h.ge _ (mem_get hi)).2.1, (h.ge _ (mem_get hi)).2.2⟩
  refine ⟨hp.blk, by omega, ⟨by simp [hMl], fun i hi => ?_⟩, fun i hi => ?_, fun k hk => ?_, fun i j hi hj hij => ?_⟩
  · rw [get_snoc _ _ (by omega)]
    split
    · rename_i hi'; exact h.sh.cols i (by omega)
    · simp
  · rw [hl] at hi
    rw [get_snoc _ _ hi, get_snoc _ _ (by omega), hMl]
    by_cases hi' : i < rb.length
    · rw [if_pos hi', if_pos hi']
      exact hp.old (hn.old (h.blk i hi')) (old i hi').2
    · rw [if_neg hi', if_neg hi']
      have e2 : vb (List.replicate nc false) = (List.replicate nc [Value.bool false]).flatten := by simp [vb]
      rw [e2]
      exact hp.old hn.blk (by omega)
  · rw [hp.size, hn.size]
    rcases List.mem_append.1 hk with hk | hk
    · have := h.ge k hk; exact ⟨this.1, by omega, this.2.2⟩
    · simp only [List.mem_singleton] at hk
      subst hk
      exact ⟨by omega, by omega, by omega⟩
  · rw [hl] at hi hj
    rw [get_snoc _ _ hi, get_snoc _ _ hj]
    by_cases h1 : i < rb.length <;> by_cases h2 : j < rb.length
    · rw [if_pos h1, if_pos h2]; exact h.inj i j h1 h2 hij
    · rw [if_pos h1, if_neg h2]; have := (old i h1).1; omega
    · rw [if_neg h1, if_pos h2]; have := (old j h2).1; omega
    · omega
theorem MS.put (h : MS base gm w rb n nc M) {i o : Nat} (hi : i < rb.length) (hp : Put w w1 rb[i]! ((vb M[i]!).set o (.bool true)) 4) : MS base gm w1 rb n nc (setT M i o) := by
  have hb := (h.bmat h.notin).put hi hp
  exact ⟨hp.old h.out (fun e => (h.ge _ (mem_get hi)).2.2 e.symm), h.le, hb.sh, hb.blk, fun k hk => ⟨(h.ge k hk).1, by rw [hp.size]; exact (h.ge k hk).2.1, (h.ge k hk).2.2⟩, h.inj⟩
end
theorem rowOf_len (nc : Nat) (p : List Int) : (rowOf nc p).length = nc := by
  have : ∀ (l : List Int) (r : List Bool), (l.foldl (fun r o => r.set o.toNat true) r).length = r.length := by
    intro l
    induction l with
    | nil => intro r; rfl
    | cons o l ih => intro r; rw [List.foldl_cons, ih]; simp
  rw [rowOf, this]
  simp
theorem matOf_take (nc : Nat) (ps : List (List Int)) (v : Nat) : matOf (v + 1) nc ps = matOf v nc ps ++ [rowOf nc (ps.getD v [])] := by
  simp [matOf, List.range_succ]
theorem matOf_shape (n nc : Nat) (ps : List (List Int)) : Shape n nc (matOf n nc ps) := by
  refine ⟨by simp [matOf], fun i hi => ?_⟩
  rw [getElem!_pos _ i (by simpa [matOf] using hi)]
  simp [matOf, rowOf_len]
set_option maxHeartbeats 4000000 in
theorem leastMatrix (n nc : Nat) (ps : List (List Int)) (A1 A2 P : Option Addr) (m2 c1 c2 pc : Nat) (w : World) (hp : RRows w P ps) (hn : n ≤ 16384) (hnc : nc ≤ 16384) :
    Calls Try.prog 21 #[.agg #[.int .i64 n, .slice A1 nc c1, .slice A2 m2 c2], .slice P ps.length pc] w fun e w' => Below w.heap.size w w' ∧
      ((okPts n nc ps ∧ ∃ gm rb, e = .returned (.slice (some ⟨gm, 0, none⟩) n n) ∧ BMat w.heap.size w' (some ⟨gm, 0, none⟩) (matOf n nc ps) rb n nc ∧ w.heap.size ≤ gm ∧ gm ∉ rb) ∨ (¬ okPts n nc ps ∧ e = .returned (.slice none 0 0))) := by
  have hpl := hp.1
  refine enterR (args := [.agg #[.int .i64 n, .slice A1 nc c1, .slice A2 m2 c2], .slice P ps.length pc]) tabOk Try.func21 rfl Try.ntmps21 rfl ?_; conv => whnf
  refine wl_box rfl rfl rfl rfl rfl rfl ?_
  intro g1 w1 hn1
  have hb1 := hn1.blk
  refine run_l tabOk ?_
  conv => whnf
  (repeat' (first | (refine wl_Lg tabOk hb1 rfl rfl rfl rfl rfl rfl rfl (run_l tabOk ?_); conv => whnf) | (refine wl_add rfl rfl rfl rfl rfl rfl (by omega) (by omega) (run_l tabOk ?_); conv => whnf) | (refine wl_sub rfl rfl rfl rfl rfl rfl (by omega) (by omega) (run_l tabOk ?_); conv => whnf) | (refine wl_cvA tabOk rfl rfl rfl (by simp only [inK]; omega) rfl rfl rfl (run_l tabOk ?_); conv => whnf) | (refine wl_cvB tabOk rfl rfl rfl rfl rfl rfl (run_l tabOk ?_); conv => whnf) | (refine wl_rem rfl rfl rfl rfl rfl rfl (by omega) (by omega) (fun r hr hr0 hr1 hr2 => run_l tabOk ?_); conv => whnf) | (refine wl_quo rfl rfl rfl rfl rfl rfl (by omega) (by omega) (by simp only [inK]; omega) (run_l tabOk ?_); conv => whnf) | (refine wl_mul rfl rfl rfl rfl rfl rfl (by omega) (by omega) (run_l tabOk ?_); conv => whnf) | (refine gs_dt (by first | assumption | omega) ?_; conv => whnf) | (refine gs_df (by first | assumption | omega) ?_; conv => whnf) | (refine gs_t (by assumption) ?_; conv => whnf) | (refine gs_f (by assumption) ?_; conv => whnf) | (refine gs_d (fun hg => ?_) (fun hg => ?_) <;> conv => whnf) | (refine gs_n (fun hg => ?_) (fun hg => ?_) <;> conv => whnf) | (refine gs_nb (fun hg => ?_) (fun hg => ?_) <;> conv => whnf) | (refine gs_b (fun hg => ?_) (fun hg => ?_) <;> conv => whnf) | refine fin1 rfl rfl ?_))
  refine wl_mk (m := n) tabOk 35 1 24 rfl rfl rfl rfl rfl rfl rfl rfl rfl (by omega) (by omega) ?_
  intro gm w2 hn2
  have hb1 := hn2.old hb1
  have hB := hn2.up hn1.below
  have hgm : w.heap.size ≤ gm ∧ g1 < gm := by have := hn1.at_; have := hn1.size; have := hn2.at_; omega
  have hms : MS w.heap.size gm w2 [] n nc [] := by
    refine ⟨?_, by simp, ⟨rfl, by simp⟩, by simp, by simp, by simp⟩
    have e : (List.replicate n [Value.slice none 0 0]).flatten = ([].map (sl nc)) ++ List.replicate (n - ([] : List Nat).length) (Value.slice none 0 0) := by simp
    rw [← e]
    exact hn2.blk
  clear hn1 hn2
  refine run_l tabOk ?_
  conv => whnf
  refine lp_loop tabOk (X := Nat) (fun v => [(1, .slice P ps.length pc), (2, .pointer (some ⟨g1, 0, none⟩)), (5, .slice (some ⟨gm, 0, none⟩) n n), (13, .int .i64 n), (14, .int .i64 v)])
    (fun v wr => v ≤ n ∧ Below w.heap.size w wr ∧ wr.heap[g1]? = some (.cells #[.int .i64 n, .slice A1 nc c1, .slice A2 m2 c2] 30 (0, 0)) ∧ (∃ rb, rb.length = v ∧ MS w.heap.size gm wr rb n nc (matOf v nc ps) ∧ g1 ∉ rb) ∧ okPts v nc ps) (fun v => n - v) 0 ⟨rfl, rfl, rfl, rfl, rfl, trivial⟩ ⟨by omega, hB, hb1, ⟨[], rfl, by simpa [matOf] using hms, by simp⟩, fun v hv => by omega⟩ ?_
  clear hms hB hb1
  rintro v G wr ⟨hv, hBr, hb1, ⟨rb, hrl, hms, hg1⟩, hok⟩
  conv => whnf
  by_cases hlt : v < n
  · have hgml := blk_lt hms.out
    (repeat' (first | (refine wl_Lg tabOk hb1 rfl rfl rfl rfl rfl rfl rfl (run_l tabOk ?_); conv => whnf) | (refine wl_add rfl rfl rfl rfl rfl rfl (by omega) (by omega) (run_l tabOk ?_); conv => whnf) | (refine wl_sub rfl rfl rfl rfl rfl rfl (by omega) (by omega) (run_l tabOk ?_); conv => whnf) | (refine wl_cvA tabOk rfl rfl rfl (by simp only [inK]; omega) rfl rfl rfl (run_l tabOk ?_); conv => whnf) | (refine wl_cvB tabOk rfl rfl rfl rfl rfl rfl (run_l tabOk ?_); conv => whnf) | (refine wl_rem rfl rfl rfl rfl rfl rfl (by omega) (by omega) (fun r hr hr0 hr1 hr2 => run_l tabOk ?_); conv => whnf) | (refine wl_quo rfl rfl rfl rfl rfl rfl (by omega) (by omega) (by simp only [inK]; omega) (run_l tabOk ?_); conv => whnf) | (refine wl_mul rfl rfl rfl rfl rfl rfl (by omega) (by omega) (run_l tabOk ?_); conv => whnf) | (refine gs_dt (by first | assumption | omega) ?_; conv => whnf) | (refine gs_df (by first | assumption | omega) ?_; conv => whnf) | (refine gs_t (by assumption) ?_; conv => whnf) | (refine gs_f (by assumption) ?_; conv => whnf) | (refine gs_d (fun hg => ?_) (fun hg => ?_) <;> conv => whnf) | (refine gs_n (fun hg => ?_) (fun hg => ?_) <;> conv => whnf) | (refine gs_nb (fun hg => ?_) (fun hg => ?_) <;> conv => whnf) | (refine gs_b (fun hg => ?_) (fun hg => ?_) <;> conv => whnf) | refine fin1 rfl rfl ?_))
    refine wl_mk (m := nc) tabOk 4 1 1 rfl rfl rfl rfl rfl rfl rfl rfl rfl (by omega) (by omega) ?_
    intro gr w3 hn3
    refine run_l tabOk ?_
    conv => whnf
    (repeat' (first | (refine wl_Xn tabOk 35 1 rfl rfl rfl rfl rfl rfl rfl (by omega) (run_l tabOk ?_); conv => whnf) | (refine wl_add rfl rfl rfl rfl rfl rfl (by omega) (by omega) (run_l tabOk ?_); conv => whnf) | (refine wl_sub rfl rfl rfl rfl rfl rfl (by omega) (by omega) (run_l tabOk ?_); conv => whnf) | (refine wl_cvA tabOk rfl rfl rfl (by simp only [inK]; omega) rfl rfl rfl (run_l tabOk ?_); conv => whnf) | (refine wl_cvB tabOk rfl rfl rfl rfl rfl rfl (run_l tabOk ?_); conv => whnf) | (refine wl_rem rfl rfl rfl rfl rfl rfl (by omega) (by omega) (fun r hr hr0 hr1 hr2 => run_l tabOk ?_); conv => whnf) | (refine wl_quo rfl rfl rfl rfl rfl rfl (by omega) (by omega) (by simp only [inK]; omega) (run_l tabOk ?_); conv => whnf) | (refine wl_mul rfl rfl rfl rfl rfl rfl (by omega) (by omega) (run_l tabOk ?_); conv => whnf) | (refine gs_dt (by first | assumption | omega) ?_; conv => whnf) | (refine gs_df (by first | assumption | omega) ?_; conv => whnf) | (refine gs_t (by assumption) ?_; conv => whnf) | (refine gs_f (by assumption) ?_; conv => whnf) | (refine gs_d (fun hg => ?_) (fun hg => ?_) <;> conv => whnf) | (refine gs_n (fun hg => ?_) (fun hg => ?_) <;> conv => whnf) | (refine gs_nb (fun hg => ?_) (fun hg => ?_) <;> conv => whnf) | (refine gs_b (fun hg => ?_) (fun hg => ?_) <;> conv => whnf) | refine fin1 rfl rfl ?_))
    refine wl_Se (j := v * 1) (v := sl nc gr) tabOk (hn3.old hms.out) rfl rfl rfl rfl rfl rfl (by simp [hrl]; omega) rfl rfl ?_
    intro w4 hp4
    rw [Nat.mul_one, ← hrl] at hp4
    have hms4 := hms.snoc (by omega) hn3 hBr.size hgml hp4
    have hb1 := hp4.old (hn3.old hb1) (by omega)
    have hB4 : Below w.heap.size w w4 := hp4.below (hn3.below |> fun h => hBr.trans (h.mono hBr.size)) hgm.1 (by have := hBr.size; have := hn3.size; omega)
    have hg1' : g1 ∉ rb ++ [gr] := by
      simp only [List.mem_append, List.mem_singleton, not_or]
      exact ⟨hg1, by have := hn3.at_; omega⟩
    clear hp4 hn3
    refine run_l tabOk ?_
    conv => whnf
    (repeat' (first | (refine wl_add rfl rfl rfl rfl rfl rfl (by omega) (by omega) (run_l tabOk ?_); conv => whnf) | (refine wl_sub rfl rfl rfl rfl rfl rfl (by omega) (by omega) (run_l tabOk ?_); conv => whnf) | (refine wl_cvA tabOk rfl rfl rfl (by simp only [inK]; omega) rfl rfl rfl (run_l tabOk ?_); conv => whnf) | (refine wl_cvB tabOk rfl rfl rfl rfl rfl rfl (run_l tabOk ?_); conv => whnf) | (refine wl_rem rfl rfl rfl rfl rfl rfl (by omega) (by omega) (fun r hr hr0 hr1 hr2 => run_l tabOk ?_); conv => whnf) | (refine wl_quo rfl rfl rfl rfl rfl rfl (by omega) (by omega) (by simp only [inK]; omega) (run_l tabOk ?_); conv => whnf) | (refine wl_mul rfl rfl rfl rfl rfl rfl (by omega) (by omega) (run_l tabOk ?_); conv => whnf) | (refine gs_dt (by first | assumption | omega) ?_; conv => whnf) | (refine gs_df (by first | assumption | omega) ?_; conv => whnf) | (refine gs_t (by assumption) ?_; conv => whnf) | (refine gs_f (by assumption) ?_; conv => whnf) | (refine gs_d (fun hg => ?_) (fun hg => ?_) <;> conv => whnf) | (refine gs_n (fun hg => ?_) (fun hg => ?_) <;> conv => whnf) | (refine gs_nb (fun hg => ?_) (fun hg => ?_) <;> conv => whnf) | (refine gs_b (fun hg => ?_) (fun hg => ?_) <;> conv => whnf) | refine fin1 rfl rfl ?_))
    · -- nothing is said of it
      refine ⟨v + 1, ⟨rfl, rfl, rfl, rfl, rfl, trivial⟩, ⟨by omega, hB4, hb1, ⟨rb ++ [gr], by simp [hrl], ?_, hg1'⟩, fun u hu hul => ?_⟩, by omega⟩
      · rw [matOf_take, show ps.getD v [] = [] by rw [List.getD_eq_getElem?_getD, List.getElem?_eq_none (by omega)]; rfl]
        exact hms4
      · rcases Nat.lt_or_ge u v with h | h
        · exact hok u h hul
        · omega
    · have hvp : v < ps.length := by omega
      obtain ⟨p, ad, D, dc, hpp, rfl, e0, _, er⟩ := rowsE hp v hvp
      have e0 := cell_up hB4 e0
      have hpl2 := er.out.1
      (repeat' (first | (refine wl_L tabOk rfl rfl rfl rfl rfl rfl e0 (run_l tabOk ?_); conv => whnf) | (refine wl_Xn tabOk 32 1 rfl rfl rfl rfl rfl rfl rfl (by omega) (run_l tabOk ?_); conv => whnf) | (refine wl_add rfl rfl rfl rfl rfl rfl (by omega) (by omega) (run_l tabOk ?_); conv => whnf) | (refine wl_sub rfl rfl rfl rfl rfl rfl (by omega) (by omega) (run_l tabOk ?_); conv => whnf) | (refine wl_cvA tabOk rfl rfl rfl (by simp only [inK]; omega) rfl rfl rfl (run_l tabOk ?_); conv => whnf) | (refine wl_cvB tabOk rfl rfl rfl rfl rfl rfl (run_l tabOk ?_); conv => whnf) | (refine wl_rem rfl rfl rfl rfl rfl rfl (by omega) (by omega) (fun r hr hr0 hr1 hr2 => run_l tabOk ?_); conv => whnf) | (refine wl_quo rfl rfl rfl rfl rfl rfl (by omega) (by omega) (by simp only [inK]; omega) (run_l tabOk ?_); conv => whnf) | (refine wl_mul rfl rfl rfl rfl rfl rfl (by omega) (by omega) (run_l tabOk ?_); conv => whnf) | (refine gs_dt (by first | assumption | omega) ?_; conv => whnf) | (refine gs_df (by first | assumption | omega) ?_; conv => whnf) | (refine gs_t (by assumption) ?_; conv => whnf) | (refine gs_f (by assumption) ?_; conv => whnf) | (refine gs_d (fun hg => ?_) (fun hg => ?_) <;> conv => whnf) | (refine gs_n (fun hg => ?_) (fun hg => ?_) <;> conv => whnf) | (refine gs_nb (fun hg => ?_) (fun hg => ?_) <;> conv => whnf) | (refine gs_b (fun hg => ?_) (fun hg => ?_) <;> conv => whnf) | refine fin1 rfl rfl ?_))
      refine lp_loop tabOk (X := Nat) (fun k => [(1, .slice (some ad) ps.length pc), (2, .pointer (some ⟨g1, 0, none⟩)), (5, .slice (some ⟨gm, 0, none⟩) n n), (6, .int .i64 v), (13, .int .i64 n), (14, .int .i64 v), (31, .slice D p.length dc), (32, .int .i64 p.length), (33, .int .i64 k)])
        (fun k wk => k ≤ p.length ∧ Below w.heap.size w wk ∧ w4.heap.size ≤ wk.heap.size ∧ wk.heap[g1]? = some (.cells #[.int .i64 n, .slice A1 nc c1, .slice A2 m2 c2] 30 (0, 0)) ∧ MS w.heap.size gm wk (rb ++ [gr]) n nc (matOf v nc ps ++ [rowOf nc (p.take k)]) ∧ (∀ j, j < k → 0 ≤ p[j]! ∧ p[j]! < nc)) (fun k => p.length - k) 0 ⟨rfl, rfl, rfl, rfl, rfl, rfl, rfl, rfl, rfl, trivial⟩ ⟨by omega, hB4, Nat.le_refl _, hb1, by simpa [rowOf] using hms4, by omega⟩ ?_
      rintro k G2 wk ⟨hk, hBk, hszk, hb1k, hmk, hokk⟩
      conv => whnf
      have hvl : (matOf v nc ps).length = v := by simp [matOf]
      by_cases hkl : k < p.length
      · obtain ⟨o, ad2, ho, rfl, f0, _⟩ := intsE (er.out.up (stays_I _) hBk) k hkl
        have hcell := hmk.cell (i := v) (by simp [hrl])
        (repeat' (first | (refine wl_Lg tabOk hb1k rfl rfl rfl rfl rfl rfl rfl (run_l tabOk ?_); conv => whnf) | (refine wl_L tabOk rfl rfl rfl rfl rfl rfl f0 (run_l tabOk ?_); conv => whnf) | (refine wl_Xn tabOk 3 1 rfl rfl rfl rfl rfl rfl rfl (by omega) (run_l tabOk ?_); conv => whnf) | (refine wl_add rfl rfl rfl rfl rfl rfl (by omega) (by omega) (run_l tabOk ?_); conv => whnf) | (refine wl_sub rfl rfl rfl rfl rfl rfl (by omega) (by omega) (run_l tabOk ?_); conv => whnf) | (refine wl_cvA tabOk rfl rfl rfl (by simp only [inK]; omega) rfl rfl rfl (run_l tabOk ?_); conv => whnf) | (refine wl_cvB tabOk rfl rfl rfl rfl rfl rfl (run_l tabOk ?_); conv => whnf) | (refine wl_rem rfl rfl rfl rfl rfl rfl (by omega) (by omega) (fun r hr hr0 hr1 hr2 => run_l tabOk ?_); conv => whnf) | (refine wl_quo rfl rfl rfl rfl rfl rfl (by omega) (by omega) (by simp only [inK]; omega) (run_l tabOk ?_); conv => whnf) | (refine wl_mul rfl rfl rfl rfl rfl rfl (by omega) (by omega) (run_l tabOk ?_); conv => whnf) | (refine gs_dt (by first | assumption | omega) ?_; conv => whnf) | (refine gs_df (by first | assumption | omega) ?_; conv => whnf) | (refine gs_t (by assumption) ?_; conv => whnf) | (refine gs_f (by assumption) ?_; conv => whnf) | (refine gs_d (fun hg => ?_) (fun hg => ?_) <;> conv => whnf) | (refine gs_n (fun hg => ?_) (fun hg => ?_) <;> conv => whnf) | (refine gs_nb (fun hg => ?_) (fun hg => ?_) <;> conv => whnf) | (refine gs_b (fun hg => ?_) (fun hg => ?_) <;> conv => whnf) | refine fin1 rfl rfl ?_))
        all_goals try (
          refine ⟨hBk, .inr ⟨fun h => ?_, rfl⟩⟩
          have h5 := h v hlt hvp
          rw [hpp.out] at h5
          have h6 := h5 k hkl
          rw [ho.out] at h6
          omega)
        have ho0 : 0 ≤ o ∧ o < nc := by omega
        have hcols := hmk.sh.cols v (by simp [hrl])
        (repeat' (first | (refine wl_L tabOk rfl rfl rfl rfl rfl rfl hcell (run_l tabOk ?_); conv => whnf) | (refine wl_Xn tabOk 35 1 rfl rfl rfl rfl rfl rfl rfl (by omega) (run_l tabOk ?_); conv => whnf) | (refine wl_X tabOk 4 1 rfl rfl rfl rfl rfl rfl rfl (by omega) (by omega) (run_l tabOk ?_); conv => whnf) | (refine wl_add rfl rfl rfl rfl rfl rfl (by omega) (by omega) (run_l tabOk ?_); conv => whnf) | (refine wl_sub rfl rfl rfl rfl rfl rfl (by omega) (by omega) (run_l tabOk ?_); conv => whnf) | (refine wl_cvA tabOk rfl rfl rfl (by simp only [inK]; omega) rfl rfl rfl (run_l tabOk ?_); conv => whnf) | (refine wl_cvB tabOk rfl rfl rfl rfl rfl rfl (run_l tabOk ?_); conv => whnf) | (refine wl_rem rfl rfl rfl rfl rfl rfl (by omega) (by omega) (fun r hr hr0 hr1 hr2 => run_l tabOk ?_); conv => whnf) | (refine wl_quo rfl rfl rfl rfl rfl rfl (by omega) (by omega) (by simp only [inK]; omega) (run_l tabOk ?_); conv => whnf) | (refine wl_mul rfl rfl rfl rfl rfl rfl (by omega) (by omega) (run_l tabOk ?_); conv => whnf) | (refine gs_dt (by first | assumption | omega) ?_; conv => whnf) | (refine gs_df (by first | assumption | omega) ?_; conv => whnf) | (refine gs_t (by assumption) ?_; conv => whnf) | (refine gs_f (by assumption) ?_; conv => whnf) | (refine gs_d (fun hg => ?_) (fun hg => ?_) <;> conv => whnf) | (refine gs_n (fun hg => ?_) (fun hg => ?_) <;> conv => whnf) | (refine gs_nb (fun hg => ?_) (fun hg => ?_) <;> conv => whnf) | (refine gs_b (fun hg => ?_) (fun hg => ?_) <;> conv => whnf) | refine fin1 rfl rfl ?_))
        refine wl_Se (j := o.toNat * 1) (v := .bool true) tabOk (hmk.blk v (by simp [hrl])) rfl rfl rfl rfl rfl rfl (by unfold vb; rw [List.length_map, hcols]; omega) rfl rfl ?_
        intro w5 hp5
        rw [Nat.mul_one] at hp5
        have hm5 := hmk.put (by simp [hrl]) hp5
        have hset : setT (matOf v nc ps ++ [rowOf nc (p.take k)]) v o.toNat = matOf v nc ps ++ [rowOf nc (p.take (k + 1))] := by
          have e1 : (matOf v nc ps ++ [rowOf nc (p.take k)])[v]! = rowOf nc (p.take k) := by rw [get_snoc _ _ (by omega), if_neg (by omega)]
          unfold setT
          rw [e1, List.set_append_right _ _ (by omega), hvl, Nat.sub_self]
          simp only [rowOf]
          rw [fold_take _ _ hkl, ho.out]
          rfl
        rw [hset] at hm5
        have hmem : (rb ++ [gr])[v]! ∈ rb ++ [gr] := mem_get (by simp [hrl])
        refine run_l tabOk ?_
        conv => whnf
        (repeat' (first | (refine wl_add rfl rfl rfl rfl rfl rfl (by omega) (by omega) (run_l tabOk ?_); conv => whnf) | (refine wl_sub rfl rfl rfl rfl rfl rfl (by omega) (by omega) (run_l tabOk ?_); conv => whnf) | (refine wl_cvA tabOk rfl rfl rfl (by simp only [inK]; omega) rfl rfl rfl (run_l tabOk ?_); conv => whnf) | (refine wl_cvB tabOk rfl rfl rfl rfl rfl rfl (run_l tabOk ?_); conv => whnf) | (refine wl_rem rfl rfl rfl rfl rfl rfl (by omega) (by omega) (fun r hr hr0 hr1 hr2 => run_l tabOk ?_); conv => whnf) | (refine wl_quo rfl rfl rfl rfl rfl rfl (by omega) (by omega) (by simp only [inK]; omega) (run_l tabOk ?_); conv => whnf) | (refine wl_mul rfl rfl rfl rfl rfl rfl (by omega) (by omega) (run_l tabOk ?_); conv => whnf) | (refine gs_dt (by first | assumption | omega) ?_; conv => whnf) | (refine gs_df (by first | assumption | omega) ?_; conv => whnf) | (refine gs_t (by assumption) ?_; conv => whnf) | (refine gs_f (by assumption) ?_; conv => whnf) | (refine gs_d (fun hg => ?_) (fun hg => ?_) <;> conv => whnf) | (refine gs_n (fun hg => ?_) (fun hg => ?_) <;> conv => whnf) | (refine gs_nb (fun hg => ?_) (fun hg => ?_) <;> conv => whnf) | (refine gs_b (fun hg => ?_) (fun hg => ?_) <;> conv => whnf) | refine fin1 rfl rfl ?_))
        refine ⟨k + 1, ⟨rfl, rfl, rfl, rfl, rfl, rfl, rfl, rfl, rfl, trivial⟩, ⟨by omega, hp5.below hBk (hmk.ge _ hmem).1 hBk.size, by rw [hp5.size]; exact hszk, hp5.old hb1k (fun e => hg1' (by rw [e]; exact hmem)), hm5, all_succ hokk (by rw [ho.out]; exact ho0)⟩, by omega⟩
      · have hkp : k = p.length := by omega
        subst hkp
        rw [List.take_of_length_le (Nat.le_refl _)] at hmk
        (repeat' (first | (refine wl_add rfl rfl rfl rfl rfl rfl (by omega) (by omega) (run_l tabOk ?_); conv => whnf) | (refine wl_sub rfl rfl rfl rfl rfl rfl (by omega) (by omega) (run_l tabOk ?_); conv => whnf) | (refine wl_cvA tabOk rfl rfl rfl (by simp only [inK]; omega) rfl rfl rfl (run_l tabOk ?_); conv => whnf) | (refine wl_cvB tabOk rfl rfl rfl rfl rfl rfl (run_l tabOk ?_); conv => whnf) | (refine wl_rem rfl rfl rfl rfl rfl rfl (by omega) (by omega) (fun r hr hr0 hr1 hr2 => run_l tabOk ?_); conv => whnf) | (refine wl_quo rfl rfl rfl rfl rfl rfl (by omega) (by omega) (by simp only [inK]; omega) (run_l tabOk ?_); conv => whnf) | (refine wl_mul rfl rfl rfl rfl rfl rfl (by omega) (by omega) (run_l tabOk ?_); conv => whnf) | (refine gs_dt (by first | assumption | omega) ?_; conv => whnf) | (refine gs_df (by first | assumption | omega) ?_; conv => whnf) | (refine gs_t (by assumption) ?_; conv => whnf) | (refine gs_f (by assumption) ?_; conv => whnf) | (refine gs_d (fun hg => ?_) (fun hg => ?_) <;> conv => whnf) | (refine gs_n (fun hg => ?_) (fun hg => ?_) <;> conv => whnf) | (refine gs_nb (fun hg => ?_) (fun hg => ?_) <;> conv => whnf) | (refine gs_b (fun hg => ?_) (fun hg => ?_) <;> conv => whnf) | refine fin1 rfl rfl ?_))
        refine ⟨v + 1, ⟨rfl, rfl, rfl, rfl, rfl, trivial⟩, ⟨by omega, hBk, hb1k, ⟨rb ++ [gr], by simp [hrl], ?_, hg1'⟩, fun u hu hul => ?_⟩, by omega⟩
        · rw [matOf_take, show ps.getD v [] = p by rw [← hpp.out, getElem!_pos ps v hvp, List.getD_eq_getElem?_getD, List.getElem?_eq_getElem hvp]; rfl]
          exact hmk
        · rcases Nat.lt_or_ge u v with h | h
          · exact hok u h hul
          · have : u = v := by omega
            subst this
            rw [hpp.out]
            exact hokk
  · have hvn : v = n := by omega
    subst hvn
    (repeat' (first | (refine wl_add rfl rfl rfl rfl rfl rfl (by omega) (by omega) (run_l tabOk ?_); conv => whnf) | (refine wl_sub rfl rfl rfl rfl rfl rfl (by omega) (by omega) (run_l tabOk ?_); conv => whnf) | (refine wl_cvA tabOk rfl rfl rfl (by simp only [inK]; omega) rfl rfl rfl (run_l tabOk ?_); conv => whnf) | (refine wl_cvB tabOk rfl rfl rfl rfl rfl rfl (run_l tabOk ?_); conv => whnf) | (refine wl_rem rfl rfl rfl rfl rfl rfl (by omega) (by omega) (fun r hr hr0 hr1 hr2 => run_l tabOk ?_); conv => whnf) | (refine wl_quo rfl rfl rfl rfl rfl rfl (by omega) (by omega) (by simp only [inK]; omega) (run_l tabOk ?_); conv => whnf) | (refine wl_mul rfl rfl rfl rfl rfl rfl (by omega) (by omega) (run_l tabOk ?_); conv => whnf) | (refine gs_dt (by first | assumption | omega) ?_; conv => whnf) | (refine gs_df (by first | assumption | omega) ?_; conv => whnf) | (refine gs_t (by assumption) ?_; conv => whnf) | (refine gs_f (by assumption) ?_; conv => whnf) | (refine gs_d (fun hg => ?_) (fun hg => ?_) <;> conv => whnf) | (refine gs_n (fun hg => ?_) (fun hg => ?_) <;> conv => whnf) | (refine gs_nb (fun hg => ?_) (fun hg => ?_) <;> conv => whnf) | (refine gs_b (fun hg => ?_) (fun hg => ?_) <;> conv => whnf) | refine fin1 rfl rfl ?_))
    refine ⟨hBr, .inl ⟨hok, gm, rb, rfl, ?_, hgm.1, hms.notin⟩⟩
    have := hms.bmat hms.notin
    rwa [hrl] at this
end Go.Proofs.Ytkmnhkfgjadppaa
