/- Several texts of one claim in one file: M12. -/
import Derived.Test.YtjggjhgbobmkhaaC9
import Derived.Test.YtjggjhgbobmkhaaC4
import Derived.Test.YtjggjhgbobmkhaaC5
/- The reference's Make: what it makes is a system that may be, in rows of its own. -/
namespace Go.Proofs.Ytjggjhgbobmkhaa
open Go.RowKit
set_option linter.unusedVariables false
set_option linter.unusedSimpArgs false
set_option maxRecDepth 100000
/-- Rows of its own, and good. -/
structure Made (base : Nat) (w : World) (s : Sys) (va vb : Value) (bs cs : List Nat) : Prop where
  cells : GRow 3 dCell 44 base w va s.cells bs
  cons : GRow 4 dCon 46 base w vb s.cons cs
  ab : ∀ k, va.ownBlock = some k → vb.ownBlock ≠ some k ∧ k ∉ cs
  ba : ∀ k, vb.ownBlock = some k → k ∉ bs
  bc : ∀ k ∈ bs, k ∉ cs
  vars : 1 ≤ s.vars ∧ s.vars ≤ 12
  ncells : s.cells.length ≤ 7
  ncons : s.cons.length ≤ 40
  gcells : ∀ k, k < s.cells.length → cellOk s.vars s.cells[k]! = true
  gcons : ∀ k, k < s.cons.length → conOk s.vars s.cells.length s.cons[k]! = true
theorem Made.right {base : Nat} {w : World} {s : Sys} {va vb : Value} {bs cs : List Nat} (h : Made base w s va vb bs cs) : rightB s = true :=
  right_all (by have := h.vars; omega) (by have := h.vars; omega) (by have := h.ncells; omega) (by have := h.ncons; omega) h.gcells h.gcons
/-- In the loop that makes the cells. -/
structure M1 (w0 w : World) (B g1 g2 g3 : Nat) (c1 : List Value) (V : Int) (i : Nat) (va vb : Value) (xs : List Cell) (bs : List Nat) : Prop where
  below : Below w0.heap.size w0 w
  b1 : w.heap[g1]? = some (.cells c1.toArray 24 (0, 0))
  b2 : w.heap[g2]? = some (.cells #[.int .i64 0, .slice none 0 0, .slice none 0 0] 29 (0, 0))
  b3 : w.heap[g3]? = some (.cells #[.int .i64 V, va, vb] 29 (0, 0))
  row : GRow 3 dCell 44 B w va xs bs
  len : xs.length = i
  good : ∀ k, k < xs.length → cellOk V xs[k]! = true
  size : B ≤ w.heap.size
/-- In the loop that makes a cell's arguments: gr: the blocks that may have been written. -/
structure M2 (w6 w : World) (B6 g6 : Nat) (fn : Bool) (v : Int) (V : Int) (k : Nat) (vs : Value) (ys : List Int) : Prop where
  grown : w6.grownBy w (some g6)
  blk : w.heap[g6]? = some (.cells #[.bool fn, .int .i64 v, vs] 44 (0, 0))
  row : GInts B6 w vs ys
  len : ys.length = k
  good : ∀ y ∈ ys, 0 ≤ y ∧ y < V
  nil : fn = true ∨ k = 0
theorem grown_cut {w w1 w2 : World} {row row' : Option Nat} (h : w.grownBy w1 row) (h' : w1.grownBy w2 row') (hb : ∀ k, row' = some k → w.heap.size ≤ k ∨ row = some k) : w.grownBy w2 row :=
  ⟨h'.os.trans h.os, h'.tape.trans h.tape, h'.output.trans h.output, Nat.le_trans h.size h'.size, fun k hk hne =>
    (h'.block k (Nat.lt_of_lt_of_le hk h.size) (fun e => (hb k e.symm).elim (fun h1 => absurd hk (by omega)) (fun h1 => hne h1.symm))).trans (h.block k hk hne)⟩
theorem good_push {α : Type} [Inhabited α] {p : α → Bool} {xs : List α} {x : α} (h : ∀ k, k < xs.length → p xs[k]! = true) (hx : p x = true) : ∀ k, k < (xs ++ [x]).length → p (xs ++ [x])[k]! = true := by
  intro k hk
  have hm := mem_get hk
  rcases List.mem_append.1 hm with hm | hm
  · obtain ⟨j, hj, e⟩ := List.getElem_of_mem hm
    rw [← e, ← getElem!_pos xs j hj]
    exact h j hj
  · rw [List.mem_singleton.1 hm]; exact hx
/-- In the loop that makes the constraints: wB: the world when it began. -/
structure M3 (wB w : World) (B g3 : Nat) (V : Int) (N : Nat) (i : Nat) (va vb : Value) (ys : List Con) (cs : List Nat) : Prop where
  grown : wB.grownBy w (some g3)
  b3 : w.heap[g3]? = some (.cells #[.int .i64 V, va, vb] 29 (0, 0))
  row : GRow 4 dCon 46 B w vb ys cs
  len : ys.length ≤ i
  good : ∀ k, k < ys.length → conOk V N ys[k]! = true
/-- In the loop that makes what is applied. -/
structure M4 (w6 w : World) (B6 g6 : Nat) (a b : Int) (V : Int) (k : Nat) (vs : Value) (ys : List Int) : Prop where
  grown : w6.grownBy w (some g6)
  blk : w.heap[g6]? = some (.cells #[.int .u8 5, .int .i64 a, .int .i64 b, vs] 46 (0, 0))
  row : GInts B6 w vs ys
  len : ys.length = k
  good : ∀ y ∈ ys, -1 ≤ y ∧ y < V
set_option maxHeartbeats 4000000 in
theorem refMake (dr : Draft) (A : Option Addr) (c : Nat) (w : World) (h : RActs w A dr.acts) (hv : 0 ≤ dr.vars ∧ dr.vars ≤ 255) (hcl : 0 ≤ dr.cells ∧ dr.cells ≤ 255) :
    Calls Try.prog 15 #[.agg #[.int .u8 dr.vars, .int .u8 dr.cells, .slice A dr.acts.length c]] w fun e w' => ∃ s va vb bs cs, e = .returned (.agg #[.int .i64 s.vars, va, vb]) ∧ Below w.heap.size w w' ∧ Made w.heap.size w' s va vb bs cs := by
  refine enterR (args := [.agg #[.int .u8 dr.vars, .int .u8 dr.cells, .slice A dr.acts.length c]]) tabOk Try.func15 rfl Try.ntmps15 rfl ?_; conv => whnf
  refine wl_box rfl rfl rfl rfl rfl rfl ?_
  intro g1 w1 hn1
  refine run_l tabOk ?_
  conv => whnf
  refine wl_alloc tabOk rfl rfl rfl rfl rfl rfl ?_
  intro g2 w2 hn2
  have hb1 := hn2.old hn1.blk
  refine run_l tabOk ?_
  conv => whnf
  (repeat' (first | (refine wl_Lg tabOk hb1 rfl rfl rfl rfl rfl rfl rfl (run_l tabOk ?_); conv => whnf) | ((first | refine wl_add rfl rfl rfl rfl rfl rfl (by omega) (by omega) (run_l tabOk ?_) | refine wl_sub rfl rfl rfl rfl rfl rfl (by omega) (by omega) (run_l tabOk ?_) | refine wl_cvA tabOk rfl rfl rfl (by simp only [inK]; omega) rfl rfl rfl (run_l tabOk ?_) | refine wl_cvB tabOk rfl rfl rfl rfl rfl rfl (run_l tabOk ?_) | refine wl_rem rfl rfl rfl rfl rfl rfl (by omega) (by omega) (fun r hr hr0 hr1 hr2 => run_l tabOk ?_) | refine wl_quo rfl rfl rfl rfl rfl rfl (by omega) (by omega) (by simp only [inK]; omega) (run_l tabOk ?_) | refine wl_mul rfl rfl rfl rfl rfl rfl (by omega) (by omega) (run_l tabOk ?_) | refine gs_dt (by first | assumption | omega) ?_ | refine gs_df (by first | assumption | omega) ?_ | refine gs_t (by assumption) ?_ | refine gs_f (by assumption) ?_ | refine gs_d (fun hg => ?_) (fun hg => ?_) | refine gs_n (fun hg => ?_) (fun hg => ?_) | refine gs_nb (fun hg => ?_) (fun hg => ?_) | refine gs_b (fun hg => ?_) (fun hg => ?_)) <;> conv => whnf) | refine fin1 rfl rfl ?_))
  refine wl_alloc tabOk rfl rfl rfl rfl rfl rfl ?_
  intro g3 w3 hn3
  refine wl_Sa tabOk hn3.blk rfl rfl rfl rfl rfl (by simp [Value.oneCell']) rfl rfl ?_
  intro w4 hp4
  refine run_l tabOk ?_
  conv => whnf
  have hb14 := hp4.old (hn3.old hb1) (by have := hn1.at_; have := hn2.at_; have := hn1.size; have := hn2.size; have := hn3.at_; omega)
  obtain ⟨V, hV⟩ : ∃ V : Int, V = 1 + r := ⟨_, rfl⟩
  have hVr : 1 ≤ V ∧ V ≤ 12 := by omega
  (repeat' (first | (refine wl_Lg tabOk hb14 rfl rfl rfl rfl rfl rfl rfl (run_l tabOk ?_); conv => whnf) | ((first | refine wl_add rfl rfl rfl rfl rfl rfl (by omega) (by omega) (run_l tabOk ?_) | refine wl_sub rfl rfl rfl rfl rfl rfl (by omega) (by omega) (run_l tabOk ?_) | refine wl_cvA tabOk rfl rfl rfl (by simp only [inK]; omega) rfl rfl rfl (run_l tabOk ?_) | refine wl_cvB tabOk rfl rfl rfl rfl rfl rfl (run_l tabOk ?_) | refine wl_rem rfl rfl rfl rfl rfl rfl (by omega) (by omega) (fun r hr hr0 hr1 hr2 => run_l tabOk ?_) | refine wl_quo rfl rfl rfl rfl rfl rfl (by omega) (by omega) (by simp only [inK]; omega) (run_l tabOk ?_) | refine wl_mul rfl rfl rfl rfl rfl rfl (by omega) (by omega) (run_l tabOk ?_) | refine gs_dt (by first | assumption | omega) ?_ | refine gs_df (by first | assumption | omega) ?_ | refine gs_t (by assumption) ?_ | refine gs_f (by assumption) ?_ | refine gs_d (fun hg => ?_) (fun hg => ?_) | refine gs_n (fun hg => ?_) (fun hg => ?_) | refine gs_nb (fun hg => ?_) (fun hg => ?_) | refine gs_b (fun hg => ?_) (fun hg => ?_)) <;> conv => whnf) | refine fin1 rfl rfl ?_))
  have hz1 : w.heap.size = g1 := by have := hn1.at_; omega
  have hz2 : g1 < g2 := by have := hn1.at_; have := hn1.size; have := hn2.at_; omega
  have hz3 : g2 < g3 := by have := hn2.at_; have := hn2.size; have := hn3.at_; omega
  have hz4 : g3 < w4.heap.size := blk_lt hp4.blk
  obtain ⟨N, hN⟩ : ∃ N : Int, N = r := ⟨_, rfl⟩
  have hNr : 0 ≤ N ∧ N < 8 := by omega
  have hI : ∃ va xs bs, M1 w w4 w4.heap.size g1 g2 g3 [.int .u8 dr.vars, .int .u8 dr.cells, .slice A dr.acts.length c] V 0 va (.slice none 0 0) xs bs := ⟨.slice none 0 0, [], [],
    hp4.below (hn3.up (hn2.up hn1.below)) (by omega) (by have := hn3.size; have := hn2.size; have := hn1.size; omega), hb14, hp4.old (hn3.old hn2.blk) (by omega), by rw [hV]; exact hp4.blk, GRow.nil .., rfl, by simp, Nat.le_refl _⟩
  have hV1 : 1 ≤ V ∧ V ≤ 12 := by omega
  refine lp_loop tabOk (X := Nat) (fun i => [(1, .pointer (some ⟨g1, 0, none⟩)), (2, .pointer (some ⟨g2, 0, none⟩)), (3, .pointer (some ⟨g3, 0, none⟩)), (4, .int .i64 N), (5, .int .i64 i)])
    (fun i wr => i ≤ N.toNat ∧ ∃ va xs bs, M1 w wr w4.heap.size g1 g2 g3 [.int .u8 dr.vars, .int .u8 dr.cells, .slice A dr.acts.length c] V i va (.slice none 0 0) xs bs) (fun i => 8 - i) 0 ⟨rfl, rfl, rfl, by rw [hN]; rfl, rfl, trivial⟩ ⟨by omega, hI⟩ ?_
  clear hI hp4 hn1 hn2 hn3 hb1 hb14 hV hN hr hr0 hr1 hr2 r
  intro i G wr ⟨hi, va, xs, bs, h1⟩
  conv => whnf
  have hb1 := h1.b1
  have hb3 := h1.b3
  by_cases hlt : (i : Int) < N
  · (repeat' (first | (refine wl_Lg tabOk hb1 rfl rfl rfl rfl rfl rfl rfl (run_l tabOk ?_); conv => whnf) | (refine wl_Lg tabOk hb3 rfl rfl rfl rfl rfl rfl rfl (run_l tabOk ?_); conv => whnf) | ((first | refine wl_add rfl rfl rfl rfl rfl rfl (by omega) (by omega) (run_l tabOk ?_) | refine wl_sub rfl rfl rfl rfl rfl rfl (by omega) (by omega) (run_l tabOk ?_) | refine wl_cvA tabOk rfl rfl rfl (by simp only [inK]; omega) rfl rfl rfl (run_l tabOk ?_) | refine wl_cvB tabOk rfl rfl rfl rfl rfl rfl (run_l tabOk ?_) | refine wl_rem rfl rfl rfl rfl rfl rfl (by omega) (by omega) (fun r hr hr0 hr1 hr2 => run_l tabOk ?_) | refine wl_quo rfl rfl rfl rfl rfl rfl (by omega) (by omega) (by simp only [inK]; omega) (run_l tabOk ?_) | refine wl_mul rfl rfl rfl rfl rfl rfl (by omega) (by omega) (run_l tabOk ?_) | refine gs_dt (by first | assumption | omega) ?_ | refine gs_df (by first | assumption | omega) ?_ | refine gs_t (by assumption) ?_ | refine gs_f (by assumption) ?_ | refine gs_d (fun hg => ?_) (fun hg => ?_) | refine gs_n (fun hg => ?_) (fun hg => ?_) | refine gs_nb (fun hg => ?_) (fun hg => ?_) | refine gs_b (fun hg => ?_) (fun hg => ?_)) <;> conv => whnf) | refine fin1 rfl rfl ?_))
    refine wc_qt 19 20 (stable_Bw _) tabOk mixed (by kernel_rfl) rfl (Below.refl _ _) ?_; conv => whnf
    (repeat' (first | (refine wq_Lg tabOk hb1 rfl rfl rfl rfl rfl rfl rfl (run_q tabOk ?_); conv => whnf) | (refine wq_Lg tabOk hb3 rfl rfl rfl rfl rfl rfl rfl (run_q tabOk ?_); conv => whnf) | ((first | refine wq_add rfl rfl rfl rfl rfl rfl (by omega) (by omega) (run_q tabOk ?_) | refine wq_sub rfl rfl rfl rfl rfl rfl (by omega) (by omega) (run_q tabOk ?_) | refine wq_cvA tabOk rfl rfl rfl (by simp only [inK]; omega) rfl rfl rfl (run_q tabOk ?_) | refine wq_cvB tabOk rfl rfl rfl rfl rfl rfl (run_q tabOk ?_) | refine wq_rem rfl rfl rfl rfl rfl rfl (by omega) (by omega) (fun r hr hr0 hr1 hr2 => run_q tabOk ?_) | refine wq_quo rfl rfl rfl rfl rfl rfl (by omega) (by omega) (by simp only [inK]; omega) (run_q tabOk ?_) | refine wq_mul rfl rfl rfl rfl rfl rfl (by omega) (by omega) (run_q tabOk ?_) | refine gs_dt (by first | assumption | omega) ?_ | refine gs_df (by first | assumption | omega) ?_ | refine gs_t (by assumption) ?_ | refine gs_f (by assumption) ?_ | refine gs_d (fun hg => ?_) (fun hg => ?_) | refine gs_n (fun hg => ?_) (fun hg => ?_) | refine gs_nb (fun hg => ?_) (fun hg => ?_) | refine gs_b (fun hg => ?_) (fun hg => ?_)) <;> conv => whnf)))
    intro W1 _ hW1
    conv => whnf
    refine wa_alloc tabOk rfl rfl rfl rfl rfl ?_
    intro g6 W2 hn6
    refine ⟨hn6.up hW1, fun W3 hW3 hC3 => ?_⟩
    conv => whnf
    refine wl_Sa tabOk (blk_up hW3 hn6.blk) rfl rfl rfl rfl rfl (by simp [Value.oneCell']) rfl rfl ?_
    intro W4 hp6
    refine run_l tabOk ?_
    conv => whnf
    (repeat' (first | ((first | refine wl_add rfl rfl rfl rfl rfl rfl (by omega) (by omega) (run_l tabOk ?_) | refine wl_sub rfl rfl rfl rfl rfl rfl (by omega) (by omega) (run_l tabOk ?_) | refine wl_cvA tabOk rfl rfl rfl (by simp only [inK]; omega) rfl rfl rfl (run_l tabOk ?_) | refine wl_cvB tabOk rfl rfl rfl rfl rfl rfl (run_l tabOk ?_) | refine wl_rem rfl rfl rfl rfl rfl rfl (by omega) (by omega) (fun r hr hr0 hr1 hr2 => run_l tabOk ?_) | refine wl_quo rfl rfl rfl rfl rfl rfl (by omega) (by omega) (by simp only [inK]; omega) (run_l tabOk ?_) | refine wl_mul rfl rfl rfl rfl rfl rfl (by omega) (by omega) (run_l tabOk ?_) | refine gs_dt (by first | assumption | omega) ?_ | refine gs_df (by first | assumption | omega) ?_ | refine gs_t (by assumption) ?_ | refine gs_f (by assumption) ?_ | refine gs_d (fun hg => ?_) (fun hg => ?_) | refine gs_n (fun hg => ?_) (fun hg => ?_) | refine gs_nb (fun hg => ?_) (fun hg => ?_) | refine gs_b (fun hg => ?_) (fun hg => ?_)) <;> conv => whnf) | refine fin1 rfl rfl ?_))
    have hB4 : Below wr.heap.size wr W4 := hp6.below (bup (hn6.up hW1) hW3) (by have := hn6.at_; have := hW1.size; omega) (by have := hn6.size; have := hW1.size; have := hW3.size; omega)
    have hg6 : wr.heap.size ≤ g6 := by have := hn6.at_; have := hW1.size; omega
    have hg64 : g6 < W4.heap.size := blk_lt hp6.blk
    have hI2 : ∃ fn v, (0 ≤ v ∧ v < V) ∧ M2 W4 W4 W4.heap.size g6 fn v V 0 (.slice none 0 0) [] := ⟨_, _, ⟨by assumption, by assumption⟩, grown_refl _ _, hp6.blk, GRow.nil .., rfl, by simp, .inr rfl⟩
    obtain ⟨fn, v, hv01, hI2⟩ := hI2
    have hc1 := blk_up hB4 hb1
    have hc3 := blk_up hB4 hb3
    have hz0 := h1.size
    refine lp_loop tabOk (X := Nat) (fun k => [(1, .pointer (some ⟨g1, 0, none⟩)), (2, .pointer (some ⟨g2, 0, none⟩)), (3, .pointer (some ⟨g3, 0, none⟩)), (4, .int .i64 N), (5, .int .i64 i), (6, .pointer (some ⟨g6, 0, none⟩)), (7, .int .i64 k)])
      (fun k wk => k ≤ 2 ∧ ∃ vs ys, M2 W4 wk W4.heap.size g6 fn v V k vs ys) (fun k => 2 - k) 0 ⟨rfl, rfl, rfl, rfl, rfl, rfl, rfl, trivial⟩ ⟨by omega, _, _, hI2⟩ ?_
    clear hI2 hp6 hn6 hW3 hC3 hW1
    intro k G2 wk ⟨hk2, vs, ys, m2⟩
    conv => whnf
    have hd1 := (m2.grown.block g1 (by omega) (by simp; omega)).trans hc1
    have hd3 := (m2.grown.block g3 (by omega) (by simp; omega)).trans hc3
    have hd6 := m2.blk
    (repeat' (first | (refine wl_Lg tabOk hd1 rfl rfl rfl rfl rfl rfl rfl (run_l tabOk ?_); conv => whnf) | (refine wl_Lg tabOk hd3 rfl rfl rfl rfl rfl rfl rfl (run_l tabOk ?_); conv => whnf) | (refine wl_Lg tabOk hd6 rfl rfl rfl rfl rfl rfl rfl (run_l tabOk ?_); conv => whnf) | ((first | refine wl_add rfl rfl rfl rfl rfl rfl (by omega) (by omega) (run_l tabOk ?_) | refine wl_sub rfl rfl rfl rfl rfl rfl (by omega) (by omega) (run_l tabOk ?_) | refine wl_cvA tabOk rfl rfl rfl (by simp only [inK]; omega) rfl rfl rfl (run_l tabOk ?_) | refine wl_cvB tabOk rfl rfl rfl rfl rfl rfl (run_l tabOk ?_) | refine wl_rem rfl rfl rfl rfl rfl rfl (by omega) (by omega) (fun r hr hr0 hr1 hr2 => run_l tabOk ?_) | refine wl_quo rfl rfl rfl rfl rfl rfl (by omega) (by omega) (by simp only [inK]; omega) (run_l tabOk ?_) | refine wl_mul rfl rfl rfl rfl rfl rfl (by omega) (by omega) (run_l tabOk ?_) | refine gs_dt (by first | assumption | omega) ?_ | refine gs_df (by first | assumption | omega) ?_ | refine gs_t (by assumption) ?_ | refine gs_f (by assumption) ?_ | refine gs_d (fun hg => ?_) (fun hg => ?_) | refine gs_n (fun hg => ?_) (fun hg => ?_) | refine gs_nb (fun hg => ?_) (fun hg => ?_) | refine gs_b (fun hg => ?_) (fun hg => ?_)) <;> conv => whnf) | refine fin1 rfl rfl ?_))
    · refine wc_qt 14 15 (stable_Bw _) tabOk mixed (by kernel_rfl) rfl (Below.refl _ _) ?_; conv => whnf
      (repeat' (first | (refine wq_Lg tabOk hd1 rfl rfl rfl rfl rfl rfl rfl (run_q tabOk ?_); conv => whnf) | (refine wq_Lg tabOk hd3 rfl rfl rfl rfl rfl rfl rfl (run_q tabOk ?_); conv => whnf) | (refine wq_Lg tabOk hd6 rfl rfl rfl rfl rfl rfl rfl (run_q tabOk ?_); conv => whnf) | ((first | refine wq_add rfl rfl rfl rfl rfl rfl (by omega) (by omega) (run_q tabOk ?_) | refine wq_sub rfl rfl rfl rfl rfl rfl (by omega) (by omega) (run_q tabOk ?_) | refine wq_cvA tabOk rfl rfl rfl (by simp only [inK]; omega) rfl rfl rfl (run_q tabOk ?_) | refine wq_cvB tabOk rfl rfl rfl rfl rfl rfl (run_q tabOk ?_) | refine wq_rem rfl rfl rfl rfl rfl rfl (by omega) (by omega) (fun r hr hr0 hr1 hr2 => run_q tabOk ?_) | refine wq_quo rfl rfl rfl rfl rfl rfl (by omega) (by omega) (by simp only [inK]; omega) (run_q tabOk ?_) | refine wq_mul rfl rfl rfl rfl rfl rfl (by omega) (by omega) (run_q tabOk ?_) | refine gs_dt (by first | assumption | omega) ?_ | refine gs_df (by first | assumption | omega) ?_ | refine gs_t (by assumption) ?_ | refine gs_f (by assumption) ?_ | refine gs_d (fun hg => ?_) (fun hg => ?_) | refine gs_n (fun hg => ?_) (fun hg => ?_) | refine gs_nb (fun hg => ?_) (fun hg => ?_) | refine gs_b (fun hg => ?_) (fun hg => ?_)) <;> conv => whnf)))
      intro U1 _ hU1
      conv => whnf
      refine wa_bs tabOk 3 1 rfl rfl rfl rfl rfl rfl rfl rfl rfl ?_
      intro g7 U2 hn7
      refine ⟨hn7.up hU1, fun U3 hU3 _ => ?_⟩
      conv => whnf
      have hU13 := bup (hn7.up hU1) hU3
      have hr3 := m2.row.below hU13
      obtain ⟨flat, hfl, hel⟩ := hr3.own
      have hk3 := m2.len
      have hU3s := hU13.size
      have hks := m2.grown.size
      refine wl_ap tabOk 3 1 8 hfl (blk_up hU3 hn7.blk) rfl rfl rfl rfl rfl rfl rfl rfl rfl rfl rfl rfl (by simp [Value.oneCell']) (by omega) (by omega) (by omega) ?_
      intro A7 cap7 U4 hown hgr hob
      refine run_l tabOk ?_
      conv => whnf
      have hne6 : some g6 ≠ vs.ownBlock := fun e => by have := (hr3.olt g6 e.symm).1; omega
      refine wl_S (off := 2) tabOk ((hgr.block g6 (by omega) hne6).trans (blk_up hU13 hd6)) rfl rfl rfl rfl rfl rfl (by simp) rfl rfl ?_
      intro U5 hp7
      refine run_l tabOk ?_
      conv => whnf
      (repeat' (first | ((first | refine wl_add rfl rfl rfl rfl rfl rfl (by omega) (by omega) (run_l tabOk ?_) | refine wl_sub rfl rfl rfl rfl rfl rfl (by omega) (by omega) (run_l tabOk ?_) | refine wl_cvA tabOk rfl rfl rfl (by simp only [inK]; omega) rfl rfl rfl (run_l tabOk ?_) | refine wl_cvB tabOk rfl rfl rfl rfl rfl rfl (run_l tabOk ?_) | refine wl_rem rfl rfl rfl rfl rfl rfl (by omega) (by omega) (fun r hr hr0 hr1 hr2 => run_l tabOk ?_) | refine wl_quo rfl rfl rfl rfl rfl rfl (by omega) (by omega) (by simp only [inK]; omega) (run_l tabOk ?_) | refine wl_mul rfl rfl rfl rfl rfl rfl (by omega) (by omega) (run_l tabOk ?_) | refine gs_dt (by first | assumption | omega) ?_ | refine gs_df (by first | assumption | omega) ?_ | refine gs_t (by assumption) ?_ | refine gs_f (by assumption) ?_ | refine gs_d (fun hg => ?_) (fun hg => ?_) | refine gs_n (fun hg => ?_) (fun hg => ?_) | refine gs_nb (fun hg => ?_) (fun hg => ?_) | refine gs_b (fun hg => ?_) (fun hg => ?_)) <;> conv => whnf) | refine fin1 rfl rfl ?_))
      have hnew := gints_push hr3 hel hown hgr hob (y := _) ⟨by omega, by omega⟩
      refine ⟨k + 1, ⟨rfl, rfl, rfl, rfl, rfl, rfl, rfl, trivial⟩, ⟨by omega, _, _, ⟨?_, hp7.blk, hnew.other hp7.grown (by simp) (fun k hk => by have := (hnew.olt k hk).1; omega), ?_, ?_, .inl (by assumption)⟩⟩, by omega⟩
      · exact grown_cut (grown_cut (grown_cut m2.grown (grown_of (row := none) hU13) nofun) hgr (fun k hk => .inl (hr3.olt k hk).1)) hp7.grown (fun k hk => .inr hk)
      · simp [hk3]
      · intro y hy
        rcases List.mem_append.1 hy with hy | hy
        · exact m2.good y hy
        · have := List.mem_singleton.1 hy
          omega
    all_goals
      obtain ⟨Av, cv, rfl, hlc, _⟩ := m2.row.row
      have hky := m2.len
      have hnil := m2.nil
      have hks := m2.grown.size
      have hd2 := (m2.grown.block g2 (by omega) (by simp; omega)).trans (blk_up hB4 h1.b2)
      have hrow : GRow 3 dCell 44 w4.heap.size wk va xs bs := (h1.row.below hB4).other m2.grown (fun b hb => by have := (h1.row.lt b hb).2; omega) (fun k hk => by have := (h1.row.olt k hk).2; omega)
      (repeat' (first | (refine wl_Lg tabOk hd3 rfl rfl rfl rfl rfl rfl rfl (run_l tabOk ?_); conv => whnf) | (refine wl_Lag tabOk hd6 rfl rfl rfl rfl rfl rfl (run_l tabOk ?_); conv => whnf) | ((first | refine wl_add rfl rfl rfl rfl rfl rfl (by omega) (by omega) (run_l tabOk ?_) | refine wl_sub rfl rfl rfl rfl rfl rfl (by omega) (by omega) (run_l tabOk ?_) | refine wl_cvA tabOk rfl rfl rfl (by simp only [inK]; omega) rfl rfl rfl (run_l tabOk ?_) | refine wl_cvB tabOk rfl rfl rfl rfl rfl rfl (run_l tabOk ?_) | refine wl_rem rfl rfl rfl rfl rfl rfl (by omega) (by omega) (fun r hr hr0 hr1 hr2 => run_l tabOk ?_) | refine wl_quo rfl rfl rfl rfl rfl rfl (by omega) (by omega) (by simp only [inK]; omega) (run_l tabOk ?_) | refine wl_mul rfl rfl rfl rfl rfl rfl (by omega) (by omega) (run_l tabOk ?_) | refine gs_dt (by first | assumption | omega) ?_ | refine gs_df (by first | assumption | omega) ?_ | refine gs_t (by assumption) ?_ | refine gs_f (by assumption) ?_ | refine gs_d (fun hg => ?_) (fun hg => ?_) | refine gs_n (fun hg => ?_) (fun hg => ?_) | refine gs_nb (fun hg => ?_) (fun hg => ?_) | refine gs_b (fun hg => ?_) (fun hg => ?_)) <;> conv => whnf) | refine fin1 rfl rfl ?_))
      refine wl_bs tabOk 44 3 rfl rfl rfl rfl rfl rfl rfl rfl rfl rfl ?_
      intro g8 X1 hn8
      refine run_l tabOk ?_
      conv => whnf
      have hrowX := hrow.below hn8.below
      have hargX := m2.row.below hn8.below
      obtain ⟨flat, hfl, hel⟩ := hrowX.own
      have hxl := h1.len
      have hXs := hn8.size
      refine wl_ap tabOk 44 3 40 hfl hn8.blk rfl rfl rfl rfl rfl rfl rfl rfl rfl rfl rfl rfl (by simp [Value.oneCell']) (by omega) (by omega) (by omega) ?_
      intro A8 cap8 X2 hown hgr hob
      refine run_l tabOk ?_
      conv => whnf
      have hne : ∀ g, g < w4.heap.size → some g ≠ va.ownBlock := fun g hg e => by have := (h1.row.olt g e.symm).1; omega
      refine wl_S (off := 1) tabOk ((hgr.block g3 (by omega) (hne g3 hz4)).trans (hn8.old hd3)) rfl rfl rfl rfl rfl rfl (by simp) rfl rfl ?_
      intro X3 hp8
      refine run_l tabOk ?_
      conv => whnf
      (repeat' (first | ((first | refine wl_add rfl rfl rfl rfl rfl rfl (by omega) (by omega) (run_l tabOk ?_) | refine wl_sub rfl rfl rfl rfl rfl rfl (by omega) (by omega) (run_l tabOk ?_) | refine wl_cvA tabOk rfl rfl rfl (by simp only [inK]; omega) rfl rfl rfl (run_l tabOk ?_) | refine wl_cvB tabOk rfl rfl rfl rfl rfl rfl (run_l tabOk ?_) | refine wl_rem rfl rfl rfl rfl rfl rfl (by omega) (by omega) (fun r hr hr0 hr1 hr2 => run_l tabOk ?_) | refine wl_quo rfl rfl rfl rfl rfl rfl (by omega) (by omega) (by simp only [inK]; omega) (run_l tabOk ?_) | refine wl_mul rfl rfl rfl rfl rfl rfl (by omega) (by omega) (run_l tabOk ?_) | refine gs_dt (by first | assumption | omega) ?_ | refine gs_df (by first | assumption | omega) ?_ | refine gs_t (by assumption) ?_ | refine gs_f (by assumption) ?_ | refine gs_d (fun hg => ?_) (fun hg => ?_) | refine gs_n (fun hg => ?_) (fun hg => ?_) | refine gs_nb (fun hg => ?_) (fun hg => ?_) | refine gs_b (fun hg => ?_) (fun hg => ?_)) <;> conv => whnf) | refine fin1 rfl rfl ?_))
      have hE1 : Below w.heap.size w wk := (bup h1.below hB4).grown m2.grown (by have := h1.below.size; have := hB4.size; omega) (fun k hk => by cases hk; have := h1.below.size; omega)
      have hE3 : Below w.heap.size w X2 := (hn8.up hE1).grown hgr (by have := hE1.size; omega) (fun k hk => by have := (h1.row.olt k hk).1; omega)
      have hnew := hrowX.push hel hown hgr hob rfl (bs' := (Value.slice Av ys.length cv).ownBlock.toList) (x := ⟨fn, v, ys⟩) (fun w' hw' => dCell_of hargX fn v ⟨by omega, by omega⟩ w' hw')
        (fun b hb => by have := hargX.olt b (mem_own hb); omega) (fun b hb e => by have := hargX.olt b (mem_own hb); have := h1.row.olt b e.symm; have := hB4.size; omega)
      refine ⟨i + 1, ⟨rfl, rfl, rfl, rfl, rfl, trivial⟩, ⟨by omega, .slice A8 (xs.length + 1) cap8, xs ++ [⟨fn, v, ys⟩], _, ⟨hp8.below hE3 (by omega) (by have := hE3.size; omega), hp8.old ((hgr.block g1 (by omega) (hne g1 (by omega))).trans (hn8.old hd1)) (by omega), hp8.old ((hgr.block g2 (by omega) (hne g2 (by omega))).trans (hn8.old hd2)) (by omega), hp8.blk, hnew.other hp8.grown ?_ ?_, by simp [hxl], good_push h1.good ?_, by have := hgr.size; have := hp8.size; omega⟩⟩, by omega⟩
      · intro b hb
        have := (hnew.lt b hb).1
        omega
      · intro k hk
        have := (hnew.olt k hk).1
        omega
      · refine cell_ok (by simp [inR]; omega) (by simp; omega) ?_ (fun j hj => ?_)
        · rcases hnil with h' | h'
          · exact .inl h'
          · exact .inr (show ys.length = 0 by omega)
        · have := m2.good _ (mem_get hj)
          show inR ys[j]! 0 V = true
          simp only [inR, Bool.and_eq_true, decide_eq_true_eq]
          exact this
  · have hiN : i = N.toNat := by omega
    (repeat' (first | ((first | refine wl_add rfl rfl rfl rfl rfl rfl (by omega) (by omega) (run_l tabOk ?_) | refine wl_sub rfl rfl rfl rfl rfl rfl (by omega) (by omega) (run_l tabOk ?_) | refine wl_cvA tabOk rfl rfl rfl (by simp only [inK]; omega) rfl rfl rfl (run_l tabOk ?_) | refine wl_cvB tabOk rfl rfl rfl rfl rfl rfl (run_l tabOk ?_) | refine wl_rem rfl rfl rfl rfl rfl rfl (by omega) (by omega) (fun r hr hr0 hr1 hr2 => run_l tabOk ?_) | refine wl_quo rfl rfl rfl rfl rfl rfl (by omega) (by omega) (by simp only [inK]; omega) (run_l tabOk ?_) | refine wl_mul rfl rfl rfl rfl rfl rfl (by omega) (by omega) (run_l tabOk ?_) | refine gs_dt (by first | assumption | omega) ?_ | refine gs_df (by first | assumption | omega) ?_ | refine gs_t (by assumption) ?_ | refine gs_f (by assumption) ?_ | refine gs_d (fun hg => ?_) (fun hg => ?_) | refine gs_n (fun hg => ?_) (fun hg => ?_) | refine gs_nb (fun hg => ?_) (fun hg => ?_) | refine gs_b (fun hg => ?_) (fun hg => ?_)) <;> conv => whnf) | refine fin1 rfl rfl ?_))
    have hB := h1.below
    have hz0 := h1.size
    have hg3 : g3 < wr.heap.size := by omega
    have hI3 : M3 wr wr wr.heap.size g3 V N.toNat 0 va (.slice none 0 0) [] [] := ⟨grown_refl _ _, hb3, GRow.nil .., Nat.le_refl _, by simp⟩
    refine lp_loop tabOk (X := Nat) (fun i => [(1, .pointer (some ⟨g1, 0, none⟩)), (2, .pointer (some ⟨g2, 0, none⟩)), (3, .pointer (some ⟨g3, 0, none⟩)), (4, .int .i64 N), (8, .int .i64 i)])
      (fun i w3 => i ≤ dr.acts.length ∧ i ≤ 40 ∧ ∃ vb ys cs, M3 wr w3 wr.heap.size g3 V N.toNat i va vb ys cs) (fun i => 40 - i) 0 ⟨rfl, rfl, rfl, rfl, rfl, trivial⟩ ⟨by omega, by omega, _, _, _, hI3⟩ ?_
    clear hI3
    intro j G3 wk ⟨hj1, hj2, vb, ys, cs, m3⟩
    conv => whnf
    have hc1 := (m3.grown.block g1 (by omega) (by simp; omega)).trans hb1
    have hc3 := m3.b3
    have hBk : Below w.heap.size w wk := hB.grown m3.grown hB.size (fun k hk => by cases hk; omega)
    have hc2 := (m3.grown.block g2 (by omega) (by simp; omega)).trans h1.b2
    (repeat' (first | (refine wl_Lg tabOk hc1 rfl rfl rfl rfl rfl rfl rfl (run_l tabOk ?_); conv => whnf) | (refine wl_Lg tabOk hc3 rfl rfl rfl rfl rfl rfl rfl (run_l tabOk ?_); conv => whnf) | ((first | refine wl_add rfl rfl rfl rfl rfl rfl (by omega) (by omega) (run_l tabOk ?_) | refine wl_sub rfl rfl rfl rfl rfl rfl (by omega) (by omega) (run_l tabOk ?_) | refine wl_cvA tabOk rfl rfl rfl (by simp only [inK]; omega) rfl rfl rfl (run_l tabOk ?_) | refine wl_cvB tabOk rfl rfl rfl rfl rfl rfl (run_l tabOk ?_) | refine wl_rem rfl rfl rfl rfl rfl rfl (by omega) (by omega) (fun r hr hr0 hr1 hr2 => run_l tabOk ?_) | refine wl_quo rfl rfl rfl rfl rfl rfl (by omega) (by omega) (by simp only [inK]; omega) (run_l tabOk ?_) | refine wl_mul rfl rfl rfl rfl rfl rfl (by omega) (by omega) (run_l tabOk ?_) | refine gs_dt (by first | assumption | omega) ?_ | refine gs_df (by first | assumption | omega) ?_ | refine gs_t (by assumption) ?_ | refine gs_f (by assumption) ?_ | refine gs_d (fun hg => ?_) (fun hg => ?_) | refine gs_n (fun hg => ?_) (fun hg => ?_) | refine gs_nb (fun hg => ?_) (fun hg => ?_) | refine gs_b (fun hg => ?_) (fun hg => ?_)) <;> conv => whnf) | refine fin1 rfl rfl ?_))
    · have hjl : j < dr.acts.length := by omega
      obtain ⟨x, ad, hx, rfl, e0, x1, x2, x3, x4⟩ := actsE (h.up stays_Act hBk) j hjl
      (repeat' (first | (refine wl_Lg tabOk hc1 rfl rfl rfl rfl rfl rfl rfl (run_l tabOk ?_); conv => whnf) | (refine wl_Lg tabOk hc3 rfl rfl rfl rfl rfl rfl rfl (run_l tabOk ?_); conv => whnf) | (refine wl_Xn tabOk 66 4 rfl rfl rfl rfl rfl rfl rfl (by omega) (run_l tabOk ?_); conv => whnf) | (refine wl_La tabOk e0 rfl rfl rfl rfl rfl rfl (run_l tabOk ?_); conv => whnf) | ((first | refine wl_add rfl rfl rfl rfl rfl rfl (by omega) (by omega) (run_l tabOk ?_) | refine wl_sub rfl rfl rfl rfl rfl rfl (by omega) (by omega) (run_l tabOk ?_) | refine wl_cvA tabOk rfl rfl rfl (by simp only [inK]; omega) rfl rfl rfl (run_l tabOk ?_) | refine wl_cvB tabOk rfl rfl rfl rfl rfl rfl (run_l tabOk ?_) | refine wl_rem rfl rfl rfl rfl rfl rfl (by omega) (by omega) (fun r hr hr0 hr1 hr2 => run_l tabOk ?_) | refine wl_quo rfl rfl rfl rfl rfl rfl (by omega) (by omega) (by simp only [inK]; omega) (run_l tabOk ?_) | refine wl_mul rfl rfl rfl rfl rfl rfl (by omega) (by omega) (run_l tabOk ?_) | refine gs_dt (by first | assumption | omega) ?_ | refine gs_df (by first | assumption | omega) ?_ | refine gs_t (by assumption) ?_ | refine gs_f (by assumption) ?_ | refine gs_d (fun hg => ?_) (fun hg => ?_) | refine gs_n (fun hg => ?_) (fun hg => ?_) | refine gs_nb (fun hg => ?_) (fun hg => ?_) | refine gs_b (fun hg => ?_) (fun hg => ?_)) <;> conv => whnf) | refine fin1 rfl rfl ?_))
      refine wl_alloc tabOk rfl rfl rfl rfl rfl rfl ?_
      intro g9 U1 hn9
      refine wl_Sa tabOk hn9.blk rfl rfl rfl rfl rfl (by simp [Value.oneCell']) rfl rfl ?_
      intro U2 hp9
      refine run_l tabOk ?_
      conv => whnf
      have hU2 : Below wk.heap.size wk U2 := hp9.below hn9.below (by have := hn9.at_; omega) (by have := hn9.size; omega)
      have hd3 := blk_up hU2 hc3
      have hd9 := hp9.blk
      have hg9 : wk.heap.size ≤ g9 := by have := hn9.at_; omega
      clear hn9 hp9
      (repeat' (first | (refine wl_Lg tabOk hd3 rfl rfl rfl rfl rfl rfl rfl (run_l tabOk ?_); conv => whnf) | (refine wl_Lg tabOk hd9 rfl rfl rfl rfl rfl rfl rfl (run_l tabOk ?_); conv => whnf) | ((first | refine wl_add rfl rfl rfl rfl rfl rfl (by omega) (by omega) (run_l tabOk ?_) | refine wl_sub rfl rfl rfl rfl rfl rfl (by omega) (by omega) (run_l tabOk ?_) | refine wl_cvA tabOk rfl rfl rfl (by simp only [inK]; omega) rfl rfl rfl (run_l tabOk ?_) | refine wl_cvB tabOk rfl rfl rfl rfl rfl rfl (run_l tabOk ?_) | refine wl_rem rfl rfl rfl rfl rfl rfl (by omega) (by omega) (fun r hr hr0 hr1 hr2 => run_l tabOk ?_) | refine wl_quo rfl rfl rfl rfl rfl rfl (by omega) (by omega) (by simp only [inK]; omega) (run_l tabOk ?_) | refine wl_mul rfl rfl rfl rfl rfl rfl (by omega) (by omega) (run_l tabOk ?_) | refine gs_dt (by first | assumption | omega) ?_ | refine gs_df (by first | assumption | omega) ?_ | refine gs_t (by assumption) ?_ | refine gs_f (by assumption) ?_ | refine gs_d (fun hg => ?_) (fun hg => ?_) | refine gs_n (fun hg => ?_) (fun hg => ?_) | refine gs_nb (fun hg => ?_) (fun hg => ?_) | refine gs_b (fun hg => ?_) (fun hg => ?_)) <;> conv => whnf) | refine fin1 rfl rfl ?_))
      · refine wc_qt 9 10 (stable_Bw _) tabOk mixed (by kernel_rfl) rfl (Below.refl _ _) ?_; conv => whnf
        (repeat' (first | (refine wq_Lg tabOk hd3 rfl rfl rfl rfl rfl rfl rfl (run_q tabOk ?_); conv => whnf) | (refine wq_Lg tabOk hd9 rfl rfl rfl rfl rfl rfl rfl (run_q tabOk ?_); conv => whnf) | ((first | refine wq_add rfl rfl rfl rfl rfl rfl (by omega) (by omega) (run_q tabOk ?_) | refine wq_sub rfl rfl rfl rfl rfl rfl (by omega) (by omega) (run_q tabOk ?_) | refine wq_cvA tabOk rfl rfl rfl (by simp only [inK]; omega) rfl rfl rfl (run_q tabOk ?_) | refine wq_cvB tabOk rfl rfl rfl rfl rfl rfl (run_q tabOk ?_) | refine wq_rem rfl rfl rfl rfl rfl rfl (by omega) (by omega) (fun r hr hr0 hr1 hr2 => run_q tabOk ?_) | refine wq_quo rfl rfl rfl rfl rfl rfl (by omega) (by omega) (by simp only [inK]; omega) (run_q tabOk ?_) | refine wq_mul rfl rfl rfl rfl rfl rfl (by omega) (by omega) (run_q tabOk ?_) | refine gs_dt (by first | assumption | omega) ?_ | refine gs_df (by first | assumption | omega) ?_ | refine gs_t (by assumption) ?_ | refine gs_f (by assumption) ?_ | refine gs_d (fun hg => ?_) (fun hg => ?_) | refine gs_n (fun hg => ?_) (fun hg => ?_) | refine gs_nb (fun hg => ?_) (fun hg => ?_) | refine gs_b (fun hg => ?_) (fun hg => ?_)) <;> conv => whnf)))
        intro Y0 _ hY0
        conv => whnf
        refine wa_bs tabOk 46 4 rfl rfl rfl rfl rfl rfl rfl rfl rfl ?_
        intro g8 Y1' hn8
        refine ⟨hn8.up hY0, fun Y1 hY1' _ => ?_⟩
        conv => whnf
        have hY1 : Below wk.heap.size wk Y1 := bup hU2 (bup (hn8.up hY0) hY1')
        have hd31 := blk_up (bup (hn8.up hY0) hY1') hd3
        have hrowY := m3.row.below (hY1)
        have hargY := (GRow.nil 1 (dI .i64) 3 wr.heap.size Y1)
        obtain ⟨flat, hfl, hel⟩ := hrowY.own
        have hyl := m3.len
        have hYs := Below.size (hY1)
        have hws := m3.grown.size
        refine wl_ap tabOk 46 4 48 hfl (blk_up hY1' hn8.blk) rfl rfl rfl rfl rfl rfl rfl rfl rfl rfl rfl rfl (by simp [Value.oneCell']) (by omega) (by omega) (by omega) ?_
        intro A8 cap8 Y2 hown hgr hob
        refine run_l tabOk ?_
        conv => whnf
        have hne3 : some g3 ≠ vb.ownBlock := fun e => by have := (m3.row.olt g3 e.symm).1; omega
        refine wl_S (off := 2) tabOk ((hgr.block g3 (by omega) hne3).trans (hd31)) rfl rfl rfl rfl rfl rfl (by simp) rfl rfl ?_
        intro Y3 hp8
        refine run_l tabOk ?_
        conv => whnf
        (repeat' (first | ((first | refine wl_add rfl rfl rfl rfl rfl rfl (by omega) (by omega) (run_l tabOk ?_) | refine wl_sub rfl rfl rfl rfl rfl rfl (by omega) (by omega) (run_l tabOk ?_) | refine wl_cvA tabOk rfl rfl rfl (by simp only [inK]; omega) rfl rfl rfl (run_l tabOk ?_) | refine wl_cvB tabOk rfl rfl rfl rfl rfl rfl (run_l tabOk ?_) | refine wl_rem rfl rfl rfl rfl rfl rfl (by omega) (by omega) (fun r hr hr0 hr1 hr2 => run_l tabOk ?_) | refine wl_quo rfl rfl rfl rfl rfl rfl (by omega) (by omega) (by simp only [inK]; omega) (run_l tabOk ?_) | refine wl_mul rfl rfl rfl rfl rfl rfl (by omega) (by omega) (run_l tabOk ?_) | refine gs_dt (by first | assumption | omega) ?_ | refine gs_df (by first | assumption | omega) ?_ | refine gs_t (by assumption) ?_ | refine gs_f (by assumption) ?_ | refine gs_d (fun hg => ?_) (fun hg => ?_) | refine gs_n (fun hg => ?_) (fun hg => ?_) | refine gs_nb (fun hg => ?_) (fun hg => ?_) | refine gs_b (fun hg => ?_) (fun hg => ?_)) <;> conv => whnf) | refine fin1 rfl rfl ?_))
        have hnew := hrowY.push hel hown hgr hob rfl (bs' := (Value.slice none 0 0).ownBlock.toList) (x := ⟨_, _, _, _⟩) (fun w' hw' => dCon_of hargY _ _ _ ⟨by omega, by omega⟩ ⟨by omega, by omega⟩ ⟨by omega, by omega⟩ w' hw')
          (fun b hb => by have := hargY.olt b (mem_own hb); omega) (fun b hb => absurd hb (by simp [Value.ownBlock]))
        refine ⟨j + 1, ⟨rfl, rfl, rfl, rfl, rfl, trivial⟩, ⟨by omega, by omega, .slice A8 (ys.length + 1) cap8, _, _, ⟨grown_cut (grown_cut (grown_cut m3.grown (grown_of (row := none) (hY1)) nofun) hgr (fun k hk => .inl (m3.row.olt k hk).1)) hp8.grown (fun k hk => .inr hk), hp8.blk, hnew.other hp8.grown ?_ ?_, by simp; omega, good_push m3.good (by simp [conOk, inR]; omega)⟩⟩, by omega⟩
        · intro b hb
          have := (hnew.lt b hb).1
          omega
        · intro k hk
          have := (hnew.olt k hk).1
          omega
      · exact ⟨j + 1, ⟨rfl, rfl, rfl, rfl, rfl, trivial⟩, ⟨by omega, by omega, vb, ys, cs, ⟨grown_cut m3.grown (grown_of (row := none) hU2) nofun, hd3, m3.row.below hU2, by have := m3.len; omega, m3.good⟩⟩, by omega⟩
      · refine wc_qt 9 10 (stable_Bw _) tabOk mixed (by kernel_rfl) rfl (Below.refl _ _) ?_; conv => whnf
        (repeat' (first | (refine wq_Lg tabOk hd3 rfl rfl rfl rfl rfl rfl rfl (run_q tabOk ?_); conv => whnf) | (refine wq_Lg tabOk hd9 rfl rfl rfl rfl rfl rfl rfl (run_q tabOk ?_); conv => whnf) | ((first | refine wq_add rfl rfl rfl rfl rfl rfl (by omega) (by omega) (run_q tabOk ?_) | refine wq_sub rfl rfl rfl rfl rfl rfl (by omega) (by omega) (run_q tabOk ?_) | refine wq_cvA tabOk rfl rfl rfl (by simp only [inK]; omega) rfl rfl rfl (run_q tabOk ?_) | refine wq_cvB tabOk rfl rfl rfl rfl rfl rfl (run_q tabOk ?_) | refine wq_rem rfl rfl rfl rfl rfl rfl (by omega) (by omega) (fun r hr hr0 hr1 hr2 => run_q tabOk ?_) | refine wq_quo rfl rfl rfl rfl rfl rfl (by omega) (by omega) (by simp only [inK]; omega) (run_q tabOk ?_) | refine wq_mul rfl rfl rfl rfl rfl rfl (by omega) (by omega) (run_q tabOk ?_) | refine gs_dt (by first | assumption | omega) ?_ | refine gs_df (by first | assumption | omega) ?_ | refine gs_t (by assumption) ?_ | refine gs_f (by assumption) ?_ | refine gs_d (fun hg => ?_) (fun hg => ?_) | refine gs_n (fun hg => ?_) (fun hg => ?_) | refine gs_nb (fun hg => ?_) (fun hg => ?_) | refine gs_b (fun hg => ?_) (fun hg => ?_)) <;> conv => whnf)))
        intro Y0 _ hY0
        conv => whnf
        refine wa_bs tabOk 46 4 rfl rfl rfl rfl rfl rfl rfl rfl rfl ?_
        intro g8 Y1' hn8
        refine ⟨hn8.up hY0, fun Y1 hY1' _ => ?_⟩
        conv => whnf
        have hY1 : Below wk.heap.size wk Y1 := bup hU2 (bup (hn8.up hY0) hY1')
        have hd31 := blk_up (bup (hn8.up hY0) hY1') hd3
        have hrowY := m3.row.below (hY1)
        have hargY := (GRow.nil 1 (dI .i64) 3 wr.heap.size Y1)
        obtain ⟨flat, hfl, hel⟩ := hrowY.own
        have hyl := m3.len
        have hYs := Below.size (hY1)
        have hws := m3.grown.size
        refine wl_ap tabOk 46 4 48 hfl (blk_up hY1' hn8.blk) rfl rfl rfl rfl rfl rfl rfl rfl rfl rfl rfl rfl (by simp [Value.oneCell']) (by omega) (by omega) (by omega) ?_
        intro A8 cap8 Y2 hown hgr hob
        refine run_l tabOk ?_
        conv => whnf
        have hne3 : some g3 ≠ vb.ownBlock := fun e => by have := (m3.row.olt g3 e.symm).1; omega
        refine wl_S (off := 2) tabOk ((hgr.block g3 (by omega) hne3).trans (hd31)) rfl rfl rfl rfl rfl rfl (by simp) rfl rfl ?_
        intro Y3 hp8
        refine run_l tabOk ?_
        conv => whnf
        (repeat' (first | ((first | refine wl_add rfl rfl rfl rfl rfl rfl (by omega) (by omega) (run_l tabOk ?_) | refine wl_sub rfl rfl rfl rfl rfl rfl (by omega) (by omega) (run_l tabOk ?_) | refine wl_cvA tabOk rfl rfl rfl (by simp only [inK]; omega) rfl rfl rfl (run_l tabOk ?_) | refine wl_cvB tabOk rfl rfl rfl rfl rfl rfl (run_l tabOk ?_) | refine wl_rem rfl rfl rfl rfl rfl rfl (by omega) (by omega) (fun r hr hr0 hr1 hr2 => run_l tabOk ?_) | refine wl_quo rfl rfl rfl rfl rfl rfl (by omega) (by omega) (by simp only [inK]; omega) (run_l tabOk ?_) | refine wl_mul rfl rfl rfl rfl rfl rfl (by omega) (by omega) (run_l tabOk ?_) | refine gs_dt (by first | assumption | omega) ?_ | refine gs_df (by first | assumption | omega) ?_ | refine gs_t (by assumption) ?_ | refine gs_f (by assumption) ?_ | refine gs_d (fun hg => ?_) (fun hg => ?_) | refine gs_n (fun hg => ?_) (fun hg => ?_) | refine gs_nb (fun hg => ?_) (fun hg => ?_) | refine gs_b (fun hg => ?_) (fun hg => ?_)) <;> conv => whnf) | refine fin1 rfl rfl ?_))
        have hnew := hrowY.push hel hown hgr hob rfl (bs' := (Value.slice none 0 0).ownBlock.toList) (x := ⟨_, _, _, _⟩) (fun w' hw' => dCon_of hargY _ _ _ ⟨by omega, by omega⟩ ⟨by omega, by omega⟩ ⟨by omega, by omega⟩ w' hw')
          (fun b hb => by have := hargY.olt b (mem_own hb); omega) (fun b hb => absurd hb (by simp [Value.ownBlock]))
        refine ⟨j + 1, ⟨rfl, rfl, rfl, rfl, rfl, trivial⟩, ⟨by omega, by omega, .slice A8 (ys.length + 1) cap8, _, _, ⟨grown_cut (grown_cut (grown_cut m3.grown (grown_of (row := none) (hY1)) nofun) hgr (fun k hk => .inl (m3.row.olt k hk).1)) hp8.grown (fun k hk => .inr hk), hp8.blk, hnew.other hp8.grown ?_ ?_, by simp; omega, good_push m3.good (by simp [conOk, inR]; omega)⟩⟩, by omega⟩
        · intro b hb
          have := (hnew.lt b hb).1
          omega
        · intro k hk
          have := (hnew.olt k hk).1
          omega
      · exact ⟨j + 1, ⟨rfl, rfl, rfl, rfl, rfl, trivial⟩, ⟨by omega, by omega, vb, ys, cs, ⟨grown_cut m3.grown (grown_of (row := none) hU2) nofun, hd3, m3.row.below hU2, by have := m3.len; omega, m3.good⟩⟩, by omega⟩
      · refine wc_qt 9 10 (stable_Bw _) tabOk mixed (by kernel_rfl) rfl (Below.refl _ _) ?_; conv => whnf
        (repeat' (first | (refine wq_Lg tabOk hd3 rfl rfl rfl rfl rfl rfl rfl (run_q tabOk ?_); conv => whnf) | (refine wq_Lg tabOk hd9 rfl rfl rfl rfl rfl rfl rfl (run_q tabOk ?_); conv => whnf) | ((first | refine wq_add rfl rfl rfl rfl rfl rfl (by omega) (by omega) (run_q tabOk ?_) | refine wq_sub rfl rfl rfl rfl rfl rfl (by omega) (by omega) (run_q tabOk ?_) | refine wq_cvA tabOk rfl rfl rfl (by simp only [inK]; omega) rfl rfl rfl (run_q tabOk ?_) | refine wq_cvB tabOk rfl rfl rfl rfl rfl rfl (run_q tabOk ?_) | refine wq_rem rfl rfl rfl rfl rfl rfl (by omega) (by omega) (fun r hr hr0 hr1 hr2 => run_q tabOk ?_) | refine wq_quo rfl rfl rfl rfl rfl rfl (by omega) (by omega) (by simp only [inK]; omega) (run_q tabOk ?_) | refine wq_mul rfl rfl rfl rfl rfl rfl (by omega) (by omega) (run_q tabOk ?_) | refine gs_dt (by first | assumption | omega) ?_ | refine gs_df (by first | assumption | omega) ?_ | refine gs_t (by assumption) ?_ | refine gs_f (by assumption) ?_ | refine gs_d (fun hg => ?_) (fun hg => ?_) | refine gs_n (fun hg => ?_) (fun hg => ?_) | refine gs_nb (fun hg => ?_) (fun hg => ?_) | refine gs_b (fun hg => ?_) (fun hg => ?_)) <;> conv => whnf)))
        intro Y0 _ hY0
        conv => whnf
        refine wa_bs tabOk 46 4 rfl rfl rfl rfl rfl rfl rfl rfl rfl ?_
        intro g8 Y1' hn8
        refine ⟨hn8.up hY0, fun Y1 hY1' _ => ?_⟩
        conv => whnf
        have hY1 : Below wk.heap.size wk Y1 := bup hU2 (bup (hn8.up hY0) hY1')
        have hd31 := blk_up (bup (hn8.up hY0) hY1') hd3
        have hrowY := m3.row.below (hY1)
        have hargY := (GRow.nil 1 (dI .i64) 3 wr.heap.size Y1)
        obtain ⟨flat, hfl, hel⟩ := hrowY.own
        have hyl := m3.len
        have hYs := Below.size (hY1)
        have hws := m3.grown.size
        refine wl_ap tabOk 46 4 48 hfl (blk_up hY1' hn8.blk) rfl rfl rfl rfl rfl rfl rfl rfl rfl rfl rfl rfl (by simp [Value.oneCell']) (by omega) (by omega) (by omega) ?_
        intro A8 cap8 Y2 hown hgr hob
        refine run_l tabOk ?_
        conv => whnf
        have hne3 : some g3 ≠ vb.ownBlock := fun e => by have := (m3.row.olt g3 e.symm).1; omega
        refine wl_S (off := 2) tabOk ((hgr.block g3 (by omega) hne3).trans (hd31)) rfl rfl rfl rfl rfl rfl (by simp) rfl rfl ?_
        intro Y3 hp8
        refine run_l tabOk ?_
        conv => whnf
        (repeat' (first | ((first | refine wl_add rfl rfl rfl rfl rfl rfl (by omega) (by omega) (run_l tabOk ?_) | refine wl_sub rfl rfl rfl rfl rfl rfl (by omega) (by omega) (run_l tabOk ?_) | refine wl_cvA tabOk rfl rfl rfl (by simp only [inK]; omega) rfl rfl rfl (run_l tabOk ?_) | refine wl_cvB tabOk rfl rfl rfl rfl rfl rfl (run_l tabOk ?_) | refine wl_rem rfl rfl rfl rfl rfl rfl (by omega) (by omega) (fun r hr hr0 hr1 hr2 => run_l tabOk ?_) | refine wl_quo rfl rfl rfl rfl rfl rfl (by omega) (by omega) (by simp only [inK]; omega) (run_l tabOk ?_) | refine wl_mul rfl rfl rfl rfl rfl rfl (by omega) (by omega) (run_l tabOk ?_) | refine gs_dt (by first | assumption | omega) ?_ | refine gs_df (by first | assumption | omega) ?_ | refine gs_t (by assumption) ?_ | refine gs_f (by assumption) ?_ | refine gs_d (fun hg => ?_) (fun hg => ?_) | refine gs_n (fun hg => ?_) (fun hg => ?_) | refine gs_nb (fun hg => ?_) (fun hg => ?_) | refine gs_b (fun hg => ?_) (fun hg => ?_)) <;> conv => whnf) | refine fin1 rfl rfl ?_))
        have hnew := hrowY.push hel hown hgr hob rfl (bs' := (Value.slice none 0 0).ownBlock.toList) (x := ⟨_, _, _, _⟩) (fun w' hw' => dCon_of hargY _ _ _ ⟨by omega, by omega⟩ ⟨by omega, by omega⟩ ⟨by omega, by omega⟩ w' hw')
          (fun b hb => by have := hargY.olt b (mem_own hb); omega) (fun b hb => absurd hb (by simp [Value.ownBlock]))
        refine ⟨j + 1, ⟨rfl, rfl, rfl, rfl, rfl, trivial⟩, ⟨by omega, by omega, .slice A8 (ys.length + 1) cap8, _, _, ⟨grown_cut (grown_cut (grown_cut m3.grown (grown_of (row := none) (hY1)) nofun) hgr (fun k hk => .inl (m3.row.olt k hk).1)) hp8.grown (fun k hk => .inr hk), hp8.blk, hnew.other hp8.grown ?_ ?_, by simp; omega, good_push m3.good (by simp [conOk, inR]; omega)⟩⟩, by omega⟩
        · intro b hb
          have := (hnew.lt b hb).1
          omega
        · intro k hk
          have := (hnew.olt k hk).1
          omega
      · exact ⟨j + 1, ⟨rfl, rfl, rfl, rfl, rfl, trivial⟩, ⟨by omega, by omega, vb, ys, cs, ⟨grown_cut m3.grown (grown_of (row := none) hU2) nofun, hd3, m3.row.below hU2, by have := m3.len; omega, m3.good⟩⟩, by omega⟩
      · refine wl_bs tabOk 46 4 rfl rfl rfl rfl rfl rfl rfl rfl rfl rfl ?_
        intro g8 Y1 hn8
        refine run_l tabOk ?_
        conv => whnf
        have hY1 : Below wk.heap.size wk Y1 := hn8.up hU2
        have hd31 := hn8.old hd3
        have hrowY := m3.row.below (hY1)
        have hargY := (GRow.nil 1 (dI .i64) 3 wr.heap.size Y1)
        obtain ⟨flat, hfl, hel⟩ := hrowY.own
        have hyl := m3.len
        have hYs := Below.size (hY1)
        have hws := m3.grown.size
        refine wl_ap tabOk 46 4 48 hfl (hn8.blk) rfl rfl rfl rfl rfl rfl rfl rfl rfl rfl rfl rfl (by simp [Value.oneCell']) (by omega) (by omega) (by omega) ?_
        intro A8 cap8 Y2 hown hgr hob
        refine run_l tabOk ?_
        conv => whnf
        have hne3 : some g3 ≠ vb.ownBlock := fun e => by have := (m3.row.olt g3 e.symm).1; omega
        refine wl_S (off := 2) tabOk ((hgr.block g3 (by omega) hne3).trans (hd31)) rfl rfl rfl rfl rfl rfl (by simp) rfl rfl ?_
        intro Y3 hp8
        refine run_l tabOk ?_
        conv => whnf
        (repeat' (first | ((first | refine wl_add rfl rfl rfl rfl rfl rfl (by omega) (by omega) (run_l tabOk ?_) | refine wl_sub rfl rfl rfl rfl rfl rfl (by omega) (by omega) (run_l tabOk ?_) | refine wl_cvA tabOk rfl rfl rfl (by simp only [inK]; omega) rfl rfl rfl (run_l tabOk ?_) | refine wl_cvB tabOk rfl rfl rfl rfl rfl rfl (run_l tabOk ?_) | refine wl_rem rfl rfl rfl rfl rfl rfl (by omega) (by omega) (fun r hr hr0 hr1 hr2 => run_l tabOk ?_) | refine wl_quo rfl rfl rfl rfl rfl rfl (by omega) (by omega) (by simp only [inK]; omega) (run_l tabOk ?_) | refine wl_mul rfl rfl rfl rfl rfl rfl (by omega) (by omega) (run_l tabOk ?_) | refine gs_dt (by first | assumption | omega) ?_ | refine gs_df (by first | assumption | omega) ?_ | refine gs_t (by assumption) ?_ | refine gs_f (by assumption) ?_ | refine gs_d (fun hg => ?_) (fun hg => ?_) | refine gs_n (fun hg => ?_) (fun hg => ?_) | refine gs_nb (fun hg => ?_) (fun hg => ?_) | refine gs_b (fun hg => ?_) (fun hg => ?_)) <;> conv => whnf) | refine fin1 rfl rfl ?_))
        have hnew := hrowY.push hel hown hgr hob rfl (bs' := (Value.slice none 0 0).ownBlock.toList) (x := ⟨_, _, _, _⟩) (fun w' hw' => dCon_of hargY _ _ _ ⟨by omega, by omega⟩ ⟨by omega, by omega⟩ ⟨by omega, by omega⟩ w' hw')
          (fun b hb => by have := hargY.olt b (mem_own hb); omega) (fun b hb => absurd hb (by simp [Value.ownBlock]))
        refine ⟨j + 1, ⟨rfl, rfl, rfl, rfl, rfl, trivial⟩, ⟨by omega, by omega, .slice A8 (ys.length + 1) cap8, _, _, ⟨grown_cut (grown_cut (grown_cut m3.grown (grown_of (row := none) (hY1)) nofun) hgr (fun k hk => .inl (m3.row.olt k hk).1)) hp8.grown (fun k hk => .inr hk), hp8.blk, hnew.other hp8.grown ?_ ?_, by simp; omega, good_push m3.good (by simp [conOk, inR]; omega)⟩⟩, by omega⟩
        · intro b hb
          have := (hnew.lt b hb).1
          omega
        · intro k hk
          have := (hnew.olt k hk).1
          omega
      · refine wl_bs tabOk 46 4 rfl rfl rfl rfl rfl rfl rfl rfl rfl rfl ?_
        intro g8 Y1 hn8
        refine run_l tabOk ?_
        conv => whnf
        have hY1 : Below wk.heap.size wk Y1 := hn8.up hU2
        have hd31 := hn8.old hd3
        have hrowY := m3.row.below (hY1)
        have hargY := (GRow.nil 1 (dI .i64) 3 wr.heap.size Y1)
        obtain ⟨flat, hfl, hel⟩ := hrowY.own
        have hyl := m3.len
        have hYs := Below.size (hY1)
        have hws := m3.grown.size
        refine wl_ap tabOk 46 4 48 hfl (hn8.blk) rfl rfl rfl rfl rfl rfl rfl rfl rfl rfl rfl rfl (by simp [Value.oneCell']) (by omega) (by omega) (by omega) ?_
        intro A8 cap8 Y2 hown hgr hob
        refine run_l tabOk ?_
        conv => whnf
        have hne3 : some g3 ≠ vb.ownBlock := fun e => by have := (m3.row.olt g3 e.symm).1; omega
        refine wl_S (off := 2) tabOk ((hgr.block g3 (by omega) hne3).trans (hd31)) rfl rfl rfl rfl rfl rfl (by simp) rfl rfl ?_
        intro Y3 hp8
        refine run_l tabOk ?_
        conv => whnf
        (repeat' (first | ((first | refine wl_add rfl rfl rfl rfl rfl rfl (by omega) (by omega) (run_l tabOk ?_) | refine wl_sub rfl rfl rfl rfl rfl rfl (by omega) (by omega) (run_l tabOk ?_) | refine wl_cvA tabOk rfl rfl rfl (by simp only [inK]; omega) rfl rfl rfl (run_l tabOk ?_) | refine wl_cvB tabOk rfl rfl rfl rfl rfl rfl (run_l tabOk ?_) | refine wl_rem rfl rfl rfl rfl rfl rfl (by omega) (by omega) (fun r hr hr0 hr1 hr2 => run_l tabOk ?_) | refine wl_quo rfl rfl rfl rfl rfl rfl (by omega) (by omega) (by simp only [inK]; omega) (run_l tabOk ?_) | refine wl_mul rfl rfl rfl rfl rfl rfl (by omega) (by omega) (run_l tabOk ?_) | refine gs_dt (by first | assumption | omega) ?_ | refine gs_df (by first | assumption | omega) ?_ | refine gs_t (by assumption) ?_ | refine gs_f (by assumption) ?_ | refine gs_d (fun hg => ?_) (fun hg => ?_) | refine gs_n (fun hg => ?_) (fun hg => ?_) | refine gs_nb (fun hg => ?_) (fun hg => ?_) | refine gs_b (fun hg => ?_) (fun hg => ?_)) <;> conv => whnf) | refine fin1 rfl rfl ?_))
        have hnew := hrowY.push hel hown hgr hob rfl (bs' := (Value.slice none 0 0).ownBlock.toList) (x := ⟨_, _, _, _⟩) (fun w' hw' => dCon_of hargY _ _ _ ⟨by omega, by omega⟩ ⟨by omega, by omega⟩ ⟨by omega, by omega⟩ w' hw')
          (fun b hb => by have := hargY.olt b (mem_own hb); omega) (fun b hb => absurd hb (by simp [Value.ownBlock]))
        refine ⟨j + 1, ⟨rfl, rfl, rfl, rfl, rfl, trivial⟩, ⟨by omega, by omega, .slice A8 (ys.length + 1) cap8, _, _, ⟨grown_cut (grown_cut (grown_cut m3.grown (grown_of (row := none) (hY1)) nofun) hgr (fun k hk => .inl (m3.row.olt k hk).1)) hp8.grown (fun k hk => .inr hk), hp8.blk, hnew.other hp8.grown ?_ ?_, by simp; omega, good_push m3.good (by simp [conOk, inR]; omega)⟩⟩, by omega⟩
        · intro b hb
          have := (hnew.lt b hb).1
          omega
        · intro k hk
          have := (hnew.olt k hk).1
          omega
      · refine wl_bs tabOk 46 4 rfl rfl rfl rfl rfl rfl rfl rfl rfl rfl ?_
        intro g8 Y1 hn8
        refine run_l tabOk ?_
        conv => whnf
        have hY1 : Below wk.heap.size wk Y1 := hn8.up hU2
        have hd31 := hn8.old hd3
        have hrowY := m3.row.below (hY1)
        have hargY := (GRow.nil 1 (dI .i64) 3 wr.heap.size Y1)
        obtain ⟨flat, hfl, hel⟩ := hrowY.own
        have hyl := m3.len
        have hYs := Below.size (hY1)
        have hws := m3.grown.size
        refine wl_ap tabOk 46 4 48 hfl (hn8.blk) rfl rfl rfl rfl rfl rfl rfl rfl rfl rfl rfl rfl (by simp [Value.oneCell']) (by omega) (by omega) (by omega) ?_
        intro A8 cap8 Y2 hown hgr hob
        refine run_l tabOk ?_
        conv => whnf
        have hne3 : some g3 ≠ vb.ownBlock := fun e => by have := (m3.row.olt g3 e.symm).1; omega
        refine wl_S (off := 2) tabOk ((hgr.block g3 (by omega) hne3).trans (hd31)) rfl rfl rfl rfl rfl rfl (by simp) rfl rfl ?_
        intro Y3 hp8
        refine run_l tabOk ?_
        conv => whnf
        (repeat' (first | ((first | refine wl_add rfl rfl rfl rfl rfl rfl (by omega) (by omega) (run_l tabOk ?_) | refine wl_sub rfl rfl rfl rfl rfl rfl (by omega) (by omega) (run_l tabOk ?_) | refine wl_cvA tabOk rfl rfl rfl (by simp only [inK]; omega) rfl rfl rfl (run_l tabOk ?_) | refine wl_cvB tabOk rfl rfl rfl rfl rfl rfl (run_l tabOk ?_) | refine wl_rem rfl rfl rfl rfl rfl rfl (by omega) (by omega) (fun r hr hr0 hr1 hr2 => run_l tabOk ?_) | refine wl_quo rfl rfl rfl rfl rfl rfl (by omega) (by omega) (by simp only [inK]; omega) (run_l tabOk ?_) | refine wl_mul rfl rfl rfl rfl rfl rfl (by omega) (by omega) (run_l tabOk ?_) | refine gs_dt (by first | assumption | omega) ?_ | refine gs_df (by first | assumption | omega) ?_ | refine gs_t (by assumption) ?_ | refine gs_f (by assumption) ?_ | refine gs_d (fun hg => ?_) (fun hg => ?_) | refine gs_n (fun hg => ?_) (fun hg => ?_) | refine gs_nb (fun hg => ?_) (fun hg => ?_) | refine gs_b (fun hg => ?_) (fun hg => ?_)) <;> conv => whnf) | refine fin1 rfl rfl ?_))
        have hnew := hrowY.push hel hown hgr hob rfl (bs' := (Value.slice none 0 0).ownBlock.toList) (x := ⟨_, _, _, _⟩) (fun w' hw' => dCon_of hargY _ _ _ ⟨by omega, by omega⟩ ⟨by omega, by omega⟩ ⟨by omega, by omega⟩ w' hw')
          (fun b hb => by have := hargY.olt b (mem_own hb); omega) (fun b hb => absurd hb (by simp [Value.ownBlock]))
        refine ⟨j + 1, ⟨rfl, rfl, rfl, rfl, rfl, trivial⟩, ⟨by omega, by omega, .slice A8 (ys.length + 1) cap8, _, _, ⟨grown_cut (grown_cut (grown_cut m3.grown (grown_of (row := none) (hY1)) nofun) hgr (fun k hk => .inl (m3.row.olt k hk).1)) hp8.grown (fun k hk => .inr hk), hp8.blk, hnew.other hp8.grown ?_ ?_, by simp; omega, good_push m3.good (by simp [conOk, inR]; omega)⟩⟩, by omega⟩
        · intro b hb
          have := (hnew.lt b hb).1
          omega
        · intro k hk
          have := (hnew.olt k hk).1
          omega
      · refine wl_bs tabOk 46 4 rfl rfl rfl rfl rfl rfl rfl rfl rfl rfl ?_
        intro g8 Y1 hn8
        refine run_l tabOk ?_
        conv => whnf
        have hY1 : Below wk.heap.size wk Y1 := hn8.up hU2
        have hd31 := hn8.old hd3
        have hrowY := m3.row.below (hY1)
        have hargY := (GRow.nil 1 (dI .i64) 3 wr.heap.size Y1)
        obtain ⟨flat, hfl, hel⟩ := hrowY.own
        have hyl := m3.len
        have hYs := Below.size (hY1)
        have hws := m3.grown.size
        refine wl_ap tabOk 46 4 48 hfl (hn8.blk) rfl rfl rfl rfl rfl rfl rfl rfl rfl rfl rfl rfl (by simp [Value.oneCell']) (by omega) (by omega) (by omega) ?_
        intro A8 cap8 Y2 hown hgr hob
        refine run_l tabOk ?_
        conv => whnf
        have hne3 : some g3 ≠ vb.ownBlock := fun e => by have := (m3.row.olt g3 e.symm).1; omega
        refine wl_S (off := 2) tabOk ((hgr.block g3 (by omega) hne3).trans (hd31)) rfl rfl rfl rfl rfl rfl (by simp) rfl rfl ?_
        intro Y3 hp8
        refine run_l tabOk ?_
        conv => whnf
        (repeat' (first | ((first | refine wl_add rfl rfl rfl rfl rfl rfl (by omega) (by omega) (run_l tabOk ?_) | refine wl_sub rfl rfl rfl rfl rfl rfl (by omega) (by omega) (run_l tabOk ?_) | refine wl_cvA tabOk rfl rfl rfl (by simp only [inK]; omega) rfl rfl rfl (run_l tabOk ?_) | refine wl_cvB tabOk rfl rfl rfl rfl rfl rfl (run_l tabOk ?_) | refine wl_rem rfl rfl rfl rfl rfl rfl (by omega) (by omega) (fun r hr hr0 hr1 hr2 => run_l tabOk ?_) | refine wl_quo rfl rfl rfl rfl rfl rfl (by omega) (by omega) (by simp only [inK]; omega) (run_l tabOk ?_) | refine wl_mul rfl rfl rfl rfl rfl rfl (by omega) (by omega) (run_l tabOk ?_) | refine gs_dt (by first | assumption | omega) ?_ | refine gs_df (by first | assumption | omega) ?_ | refine gs_t (by assumption) ?_ | refine gs_f (by assumption) ?_ | refine gs_d (fun hg => ?_) (fun hg => ?_) | refine gs_n (fun hg => ?_) (fun hg => ?_) | refine gs_nb (fun hg => ?_) (fun hg => ?_) | refine gs_b (fun hg => ?_) (fun hg => ?_)) <;> conv => whnf) | refine fin1 rfl rfl ?_))
        have hnew := hrowY.push hel hown hgr hob rfl (bs' := (Value.slice none 0 0).ownBlock.toList) (x := ⟨_, _, _, _⟩) (fun w' hw' => dCon_of hargY _ _ _ ⟨by omega, by omega⟩ ⟨by omega, by omega⟩ ⟨by omega, by omega⟩ w' hw')
          (fun b hb => by have := hargY.olt b (mem_own hb); omega) (fun b hb => absurd hb (by simp [Value.ownBlock]))
        refine ⟨j + 1, ⟨rfl, rfl, rfl, rfl, rfl, trivial⟩, ⟨by omega, by omega, .slice A8 (ys.length + 1) cap8, _, _, ⟨grown_cut (grown_cut (grown_cut m3.grown (grown_of (row := none) (hY1)) nofun) hgr (fun k hk => .inl (m3.row.olt k hk).1)) hp8.grown (fun k hk => .inr hk), hp8.blk, hnew.other hp8.grown ?_ ?_, by simp; omega, good_push m3.good (by simp [conOk, inR]; omega)⟩⟩, by omega⟩
        · intro b hb
          have := (hnew.lt b hb).1
          omega
        · intro k hk
          have := (hnew.olt k hk).1
          omega
      · refine wl_bs tabOk 46 4 rfl rfl rfl rfl rfl rfl rfl rfl rfl rfl ?_
        intro g8 Y1 hn8
        refine run_l tabOk ?_
        conv => whnf
        have hY1 : Below wk.heap.size wk Y1 := hn8.up hU2
        have hd31 := hn8.old hd3
        have hrowY := m3.row.below (hY1)
        have hargY := (GRow.nil 1 (dI .i64) 3 wr.heap.size Y1)
        obtain ⟨flat, hfl, hel⟩ := hrowY.own
        have hyl := m3.len
        have hYs := Below.size (hY1)
        have hws := m3.grown.size
        refine wl_ap tabOk 46 4 48 hfl (hn8.blk) rfl rfl rfl rfl rfl rfl rfl rfl rfl rfl rfl rfl (by simp [Value.oneCell']) (by omega) (by omega) (by omega) ?_
        intro A8 cap8 Y2 hown hgr hob
        refine run_l tabOk ?_
        conv => whnf
        have hne3 : some g3 ≠ vb.ownBlock := fun e => by have := (m3.row.olt g3 e.symm).1; omega
        refine wl_S (off := 2) tabOk ((hgr.block g3 (by omega) hne3).trans (hd31)) rfl rfl rfl rfl rfl rfl (by simp) rfl rfl ?_
        intro Y3 hp8
        refine run_l tabOk ?_
        conv => whnf
        (repeat' (first | ((first | refine wl_add rfl rfl rfl rfl rfl rfl (by omega) (by omega) (run_l tabOk ?_) | refine wl_sub rfl rfl rfl rfl rfl rfl (by omega) (by omega) (run_l tabOk ?_) | refine wl_cvA tabOk rfl rfl rfl (by simp only [inK]; omega) rfl rfl rfl (run_l tabOk ?_) | refine wl_cvB tabOk rfl rfl rfl rfl rfl rfl (run_l tabOk ?_) | refine wl_rem rfl rfl rfl rfl rfl rfl (by omega) (by omega) (fun r hr hr0 hr1 hr2 => run_l tabOk ?_) | refine wl_quo rfl rfl rfl rfl rfl rfl (by omega) (by omega) (by simp only [inK]; omega) (run_l tabOk ?_) | refine wl_mul rfl rfl rfl rfl rfl rfl (by omega) (by omega) (run_l tabOk ?_) | refine gs_dt (by first | assumption | omega) ?_ | refine gs_df (by first | assumption | omega) ?_ | refine gs_t (by assumption) ?_ | refine gs_f (by assumption) ?_ | refine gs_d (fun hg => ?_) (fun hg => ?_) | refine gs_n (fun hg => ?_) (fun hg => ?_) | refine gs_nb (fun hg => ?_) (fun hg => ?_) | refine gs_b (fun hg => ?_) (fun hg => ?_)) <;> conv => whnf) | refine fin1 rfl rfl ?_))
        have hnew := hrowY.push hel hown hgr hob rfl (bs' := (Value.slice none 0 0).ownBlock.toList) (x := ⟨_, _, _, _⟩) (fun w' hw' => dCon_of hargY _ _ _ ⟨by omega, by omega⟩ ⟨by omega, by omega⟩ ⟨by omega, by omega⟩ w' hw')
          (fun b hb => by have := hargY.olt b (mem_own hb); omega) (fun b hb => absurd hb (by simp [Value.ownBlock]))
        refine ⟨j + 1, ⟨rfl, rfl, rfl, rfl, rfl, trivial⟩, ⟨by omega, by omega, .slice A8 (ys.length + 1) cap8, _, _, ⟨grown_cut (grown_cut (grown_cut m3.grown (grown_of (row := none) (hY1)) nofun) hgr (fun k hk => .inl (m3.row.olt k hk).1)) hp8.grown (fun k hk => .inr hk), hp8.blk, hnew.other hp8.grown ?_ ?_, by simp; omega, good_push m3.good (by simp [conOk, inR]; omega)⟩⟩, by omega⟩
        · intro b hb
          have := (hnew.lt b hb).1
          omega
        · intro k hk
          have := (hnew.olt k hk).1
          omega
      · rename_i a ha ha0 ha1 ha2 b hb hb0 hb1 hb2 _ _ _ _ _ _ _
        refine wl_alloc tabOk rfl rfl rfl rfl rfl rfl ?_
        intro g12 T1 hn12
        refine wl_Sa tabOk hn12.blk rfl rfl rfl rfl rfl (by simp [Value.oneCell']) rfl rfl ?_
        intro T2 hp12
        refine run_l tabOk ?_
        conv => whnf
        have hT2 : Below U2.heap.size U2 T2 := hp12.below hn12.below (by have := hn12.at_; omega) (by have := hn12.size; omega)
        have hg12 : U2.heap.size ≤ g12 := by have := hn12.at_; omega
        have hd32 := blk_up hT2 hd3
        have hd92 := blk_up hT2 hd9
        have hu2 := hU2.size
        have hwk := m3.grown.size
        have hg9U := blk_lt hd9
        (repeat' (first | (refine wl_Lg tabOk hd32 rfl rfl rfl rfl rfl rfl rfl (run_l tabOk ?_); conv => whnf) | (refine wl_Lg tabOk hd92 rfl rfl rfl rfl rfl rfl rfl (run_l tabOk ?_); conv => whnf) | ((first | refine wl_add rfl rfl rfl rfl rfl rfl (by omega) (by omega) (run_l tabOk ?_) | refine wl_sub rfl rfl rfl rfl rfl rfl (by omega) (by omega) (run_l tabOk ?_) | refine wl_cvA tabOk rfl rfl rfl (by simp only [inK]; omega) rfl rfl rfl (run_l tabOk ?_) | refine wl_cvB tabOk rfl rfl rfl rfl rfl rfl (run_l tabOk ?_) | refine wl_rem rfl rfl rfl rfl rfl rfl (by omega) (by omega) (fun r hr hr0 hr1 hr2 => run_l tabOk ?_) | refine wl_quo rfl rfl rfl rfl rfl rfl (by omega) (by omega) (by simp only [inK]; omega) (run_l tabOk ?_) | refine wl_mul rfl rfl rfl rfl rfl rfl (by omega) (by omega) (run_l tabOk ?_) | refine gs_dt (by first | assumption | omega) ?_ | refine gs_df (by first | assumption | omega) ?_ | refine gs_t (by assumption) ?_ | refine gs_f (by assumption) ?_ | refine gs_d (fun hg => ?_) (fun hg => ?_) | refine gs_n (fun hg => ?_) (fun hg => ?_) | refine gs_nb (fun hg => ?_) (fun hg => ?_) | refine gs_b (fun hg => ?_) (fun hg => ?_)) <;> conv => whnf) | refine fin1 rfl rfl ?_))
        · refine wl_S (off := 1) tabOk hp12.blk rfl rfl rfl rfl rfl rfl (by simp) rfl rfl ?_
          intro T3 hp13
          have hT3 : Below U2.heap.size U2 T3 := hp13.below hT2 hg12 hT2.size
          have hI4 : M4 T3 T3 T3.heap.size g12 (-1) b V 0 (.slice none 0 0) [] := ⟨grown_refl _ _, hp13.blk, GRow.nil .., rfl, by simp⟩
          have hd33 := blk_up hT3 hd3
          have hd93 := blk_up hT3 hd9
          have hgT := blk_lt hp13.blk
          obtain ⟨a', hae⟩ : ∃ a' : Int, a' = -1 := ⟨_, rfl⟩
          rw [← hae] at hI4
          have ha' : -1 ≤ a' ∧ a' < V := by omega
          refine run_l tabOk ?_
          conv => whnf
          refine lp_loop tabOk (X := Nat) (fun k => [(1, .pointer (some ⟨g1, 0, none⟩)), (2, .pointer (some ⟨g2, 0, none⟩)), (3, .pointer (some ⟨g3, 0, none⟩)), (4, .int .i64 N), (8, .int .i64 j), (9, .pointer (some ⟨g9, 0, none⟩)), (10, .int .i64 a), (11, .int .i64 b), (12, .pointer (some ⟨g12, 0, none⟩)), (13, .int .i64 k)])
            (fun k w4 => k ≤ 3 ∧ ∃ vs zs, M4 T3 w4 T3.heap.size g12 a' b V k vs zs) (fun k => 4 - k) 0 ⟨rfl, rfl, rfl, rfl, rfl, rfl, rfl, rfl, rfl, rfl, trivial⟩ ⟨by omega, _, _, hI4⟩ ?_
          clear hI4
          intro k G4 w4' ⟨hk4, vs, zs, m4⟩
          conv => whnf
          have hs3 := hT3.size
          have he3 := (m4.grown.block g3 (by omega) (by simp; omega)).trans hd33
          have he9 := (m4.grown.block g9 (by omega) (by simp; omega)).trans hd93
          have he12 := m4.blk
          (repeat' (first | (refine wl_Lg tabOk he3 rfl rfl rfl rfl rfl rfl rfl (run_l tabOk ?_); conv => whnf) | (refine wl_Lg tabOk he9 rfl rfl rfl rfl rfl rfl rfl (run_l tabOk ?_); conv => whnf) | (refine wl_Lg tabOk he12 rfl rfl rfl rfl rfl rfl rfl (run_l tabOk ?_); conv => whnf) | ((first | refine wl_add rfl rfl rfl rfl rfl rfl (by omega) (by omega) (run_l tabOk ?_) | refine wl_sub rfl rfl rfl rfl rfl rfl (by omega) (by omega) (run_l tabOk ?_) | refine wl_cvA tabOk rfl rfl rfl (by simp only [inK]; omega) rfl rfl rfl (run_l tabOk ?_) | refine wl_cvB tabOk rfl rfl rfl rfl rfl rfl (run_l tabOk ?_) | refine wl_rem rfl rfl rfl rfl rfl rfl (by omega) (by omega) (fun r hr hr0 hr1 hr2 => run_l tabOk ?_) | refine wl_quo rfl rfl rfl rfl rfl rfl (by omega) (by omega) (by simp only [inK]; omega) (run_l tabOk ?_) | refine wl_mul rfl rfl rfl rfl rfl rfl (by omega) (by omega) (run_l tabOk ?_) | refine gs_dt (by first | assumption | omega) ?_ | refine gs_df (by first | assumption | omega) ?_ | refine gs_t (by assumption) ?_ | refine gs_f (by assumption) ?_ | refine gs_d (fun hg => ?_) (fun hg => ?_) | refine gs_n (fun hg => ?_) (fun hg => ?_) | refine gs_nb (fun hg => ?_) (fun hg => ?_) | refine gs_b (fun hg => ?_) (fun hg => ?_)) <;> conv => whnf) | refine fin1 rfl rfl ?_))
          · have hmb := mul_bounds (m := 3) (k := 255) (a := (k : Int)) (b := x.c) ⟨by omega, by omega⟩ ⟨by omega, by omega⟩
            refine wc_qt 16 17 (stable_Bw _) tabOk mixed (by kernel_rfl) rfl (Below.refl _ _) ?_; conv => whnf
            (repeat' (first | (refine wq_Lg tabOk he3 rfl rfl rfl rfl rfl rfl rfl (run_q tabOk ?_); conv => whnf) | (refine wq_Lg tabOk he9 rfl rfl rfl rfl rfl rfl rfl (run_q tabOk ?_); conv => whnf) | (refine wq_Lg tabOk he12 rfl rfl rfl rfl rfl rfl rfl (run_q tabOk ?_); conv => whnf) | ((first | refine wq_add rfl rfl rfl rfl rfl rfl (by omega) (by omega) (run_q tabOk ?_) | refine wq_sub rfl rfl rfl rfl rfl rfl (by omega) (by omega) (run_q tabOk ?_) | refine wq_cvA tabOk rfl rfl rfl (by simp only [inK]; omega) rfl rfl rfl (run_q tabOk ?_) | refine wq_cvB tabOk rfl rfl rfl rfl rfl rfl (run_q tabOk ?_) | refine wq_rem rfl rfl rfl rfl rfl rfl (by omega) (by omega) (fun r hr hr0 hr1 hr2 => run_q tabOk ?_) | refine wq_quo rfl rfl rfl rfl rfl rfl (by omega) (by omega) (by simp only [inK]; omega) (run_q tabOk ?_) | refine wq_mul rfl rfl rfl rfl rfl rfl (by omega) (by omega) (run_q tabOk ?_) | refine gs_dt (by first | assumption | omega) ?_ | refine gs_df (by first | assumption | omega) ?_ | refine gs_t (by assumption) ?_ | refine gs_f (by assumption) ?_ | refine gs_d (fun hg => ?_) (fun hg => ?_) | refine gs_n (fun hg => ?_) (fun hg => ?_) | refine gs_nb (fun hg => ?_) (fun hg => ?_) | refine gs_b (fun hg => ?_) (fun hg => ?_)) <;> conv => whnf)))
            intro Z1 _ hZ1
            conv => whnf
            refine wa_bs tabOk 3 1 rfl rfl rfl rfl rfl rfl rfl rfl rfl ?_
            intro g14 Z2 hn14
            refine ⟨hn14.up hZ1, fun Z3 hZ3 _ => ?_⟩
            conv => whnf
            have hZ13 := bup (hn14.up hZ1) hZ3
            have hr3 := m4.row.below hZ13
            obtain ⟨flat, hfl, hel⟩ := hr3.own
            have hk3 := m4.len
            have hZs := hZ13.size
            have hks := m4.grown.size
            refine wl_ap tabOk 3 1 8 hfl (blk_up hZ3 hn14.blk) rfl rfl rfl rfl rfl rfl rfl rfl rfl rfl rfl rfl (by simp [Value.oneCell']) (by omega) (by omega) (by omega) ?_
            intro A7 cap7 Z4 hown hgr hob
            refine run_l tabOk ?_
            conv => whnf
            have hne6 : some g12 ≠ vs.ownBlock := fun e => by have := (hr3.olt g12 e.symm).1; omega
            refine wl_S (off := 3) tabOk ((hgr.block g12 (by omega) hne6).trans (blk_up hZ13 he12)) rfl rfl rfl rfl rfl rfl (by simp) rfl rfl ?_
            intro Z5 hp7
            refine run_l tabOk ?_
            conv => whnf
            (repeat' (first | ((first | refine wl_add rfl rfl rfl rfl rfl rfl (by omega) (by omega) (run_l tabOk ?_) | refine wl_sub rfl rfl rfl rfl rfl rfl (by omega) (by omega) (run_l tabOk ?_) | refine wl_cvA tabOk rfl rfl rfl (by simp only [inK]; omega) rfl rfl rfl (run_l tabOk ?_) | refine wl_cvB tabOk rfl rfl rfl rfl rfl rfl (run_l tabOk ?_) | refine wl_rem rfl rfl rfl rfl rfl rfl (by omega) (by omega) (fun r hr hr0 hr1 hr2 => run_l tabOk ?_) | refine wl_quo rfl rfl rfl rfl rfl rfl (by omega) (by omega) (by simp only [inK]; omega) (run_l tabOk ?_) | refine wl_mul rfl rfl rfl rfl rfl rfl (by omega) (by omega) (run_l tabOk ?_) | refine gs_dt (by first | assumption | omega) ?_ | refine gs_df (by first | assumption | omega) ?_ | refine gs_t (by assumption) ?_ | refine gs_f (by assumption) ?_ | refine gs_d (fun hg => ?_) (fun hg => ?_) | refine gs_n (fun hg => ?_) (fun hg => ?_) | refine gs_nb (fun hg => ?_) (fun hg => ?_) | refine gs_b (fun hg => ?_) (fun hg => ?_)) <;> conv => whnf) | refine fin1 rfl rfl ?_))
            have hnew := gints_push hr3 hel hown hgr hob (y := _) ⟨by omega, by omega⟩
            refine ⟨k + 1, ⟨rfl, rfl, rfl, rfl, rfl, rfl, rfl, rfl, rfl, rfl, trivial⟩, ⟨by omega, _, _, ⟨?_, hp7.blk, hnew.other hp7.grown (by simp) (fun k hk => by have := (hnew.olt k hk).1; omega), ?_, ?_⟩⟩, by omega⟩
            · exact grown_cut (grown_cut (grown_cut m4.grown (grown_of (row := none) hZ13) nofun) hgr (fun k hk => .inl (hr3.olt k hk).1)) hp7.grown (fun k hk => .inr hk)
            · simp [hk3]
            · intro y hy
              rcases List.mem_append.1 hy with hy | hy
              · exact m4.good y hy
              · have := List.mem_singleton.1 hy
                omega
          · obtain ⟨Av, cv, rfl, hlc, _⟩ := m4.row.row
            (repeat' (first | (refine wl_Lg tabOk he3 rfl rfl rfl rfl rfl rfl rfl (run_l tabOk ?_); conv => whnf) | (refine wl_Lag tabOk he12 rfl rfl rfl rfl rfl rfl (run_l tabOk ?_); conv => whnf) | ((first | refine wl_add rfl rfl rfl rfl rfl rfl (by omega) (by omega) (run_l tabOk ?_) | refine wl_sub rfl rfl rfl rfl rfl rfl (by omega) (by omega) (run_l tabOk ?_) | refine wl_cvA tabOk rfl rfl rfl (by simp only [inK]; omega) rfl rfl rfl (run_l tabOk ?_) | refine wl_cvB tabOk rfl rfl rfl rfl rfl rfl (run_l tabOk ?_) | refine wl_rem rfl rfl rfl rfl rfl rfl (by omega) (by omega) (fun r hr hr0 hr1 hr2 => run_l tabOk ?_) | refine wl_quo rfl rfl rfl rfl rfl rfl (by omega) (by omega) (by simp only [inK]; omega) (run_l tabOk ?_) | refine wl_mul rfl rfl rfl rfl rfl rfl (by omega) (by omega) (run_l tabOk ?_) | refine gs_dt (by first | assumption | omega) ?_ | refine gs_df (by first | assumption | omega) ?_ | refine gs_t (by assumption) ?_ | refine gs_f (by assumption) ?_ | refine gs_d (fun hg => ?_) (fun hg => ?_) | refine gs_n (fun hg => ?_) (fun hg => ?_) | refine gs_nb (fun hg => ?_) (fun hg => ?_) | refine gs_b (fun hg => ?_) (fun hg => ?_)) <;> conv => whnf) | refine fin1 rfl rfl ?_))
            refine wl_bs tabOk 46 4 rfl rfl rfl rfl rfl rfl rfl rfl rfl rfl ?_
            intro g8 Y1 hn8
            refine run_l tabOk ?_
            conv => whnf
            have hX : Below wk.heap.size wk w4' := (bup hU2 hT3).grown m4.grown (by omega) (fun k hk => by cases hk; omega)
            have hY1 : Below wk.heap.size wk Y1 := hn8.up hX
            have hd31 := hn8.old he3
            have hall : (zs.all fun n => inR n (-1) V) = true := List.all_eq_true.2 fun y hy => by have := m4.good y hy; simp [inR]; omega
            have hzl := m4.len
        
            have hrowY := m3.row.below (hY1)
            have hargY := (m4.row.below hn8.below)
            obtain ⟨flat, hfl, hel⟩ := hrowY.own
            have hyl := m3.len
            have hYs := Below.size (hY1)
            have hws := m3.grown.size
            refine wl_ap tabOk 46 4 48 hfl (hn8.blk) rfl rfl rfl rfl rfl rfl rfl rfl rfl rfl rfl rfl (by simp [Value.oneCell']) (by omega) (by omega) (by omega) ?_
            intro A8 cap8 Y2 hown hgr hob
            refine run_l tabOk ?_
            conv => whnf
            have hne3 : some g3 ≠ vb.ownBlock := fun e => by have := (m3.row.olt g3 e.symm).1; omega
            refine wl_S (off := 2) tabOk ((hgr.block g3 (by omega) hne3).trans (hd31)) rfl rfl rfl rfl rfl rfl (by simp) rfl rfl ?_
            intro Y3 hp8
            refine run_l tabOk ?_
            conv => whnf
            (repeat' (first | ((first | refine wl_add rfl rfl rfl rfl rfl rfl (by omega) (by omega) (run_l tabOk ?_) | refine wl_sub rfl rfl rfl rfl rfl rfl (by omega) (by omega) (run_l tabOk ?_) | refine wl_cvA tabOk rfl rfl rfl (by simp only [inK]; omega) rfl rfl rfl (run_l tabOk ?_) | refine wl_cvB tabOk rfl rfl rfl rfl rfl rfl (run_l tabOk ?_) | refine wl_rem rfl rfl rfl rfl rfl rfl (by omega) (by omega) (fun r hr hr0 hr1 hr2 => run_l tabOk ?_) | refine wl_quo rfl rfl rfl rfl rfl rfl (by omega) (by omega) (by simp only [inK]; omega) (run_l tabOk ?_) | refine wl_mul rfl rfl rfl rfl rfl rfl (by omega) (by omega) (run_l tabOk ?_) | refine gs_dt (by first | assumption | omega) ?_ | refine gs_df (by first | assumption | omega) ?_ | refine gs_t (by assumption) ?_ | refine gs_f (by assumption) ?_ | refine gs_d (fun hg => ?_) (fun hg => ?_) | refine gs_n (fun hg => ?_) (fun hg => ?_) | refine gs_nb (fun hg => ?_) (fun hg => ?_) | refine gs_b (fun hg => ?_) (fun hg => ?_)) <;> conv => whnf) | refine fin1 rfl rfl ?_))
            have hnew := hrowY.push hel hown hgr hob rfl (bs' := (Value.slice Av zs.length cv).ownBlock.toList) (x := ⟨_, _, _, _⟩) (fun w' hw' => dCon_of hargY _ _ _ ⟨by omega, by omega⟩ ⟨by omega, by omega⟩ ⟨by omega, by omega⟩ w' hw')
              (fun b hb => by have := hargY.olt b (mem_own hb); omega) (fun b hb e => by have := hargY.olt b (mem_own hb); have := m3.row.olt b e.symm; omega)
            refine ⟨j + 1, ⟨rfl, rfl, rfl, rfl, rfl, trivial⟩, ⟨by omega, by omega, .slice A8 (ys.length + 1) cap8, _, _, ⟨grown_cut (grown_cut (grown_cut m3.grown (grown_of (row := none) (hY1)) nofun) hgr (fun k hk => .inl (m3.row.olt k hk).1)) hp8.grown (fun k hk => .inr hk), hp8.blk, hnew.other hp8.grown ?_ ?_, by simp; omega, good_push m3.good (by simp only [conOk]; rw [hall]; simp [inR]; omega)⟩⟩, by omega⟩
            · intro b hb
              have := (hnew.lt b hb).1
              omega
            · intro k hk
              have := (hnew.olt k hk).1
              omega
        · have hI4 : M4 T2 T2 T2.heap.size g12 a b V 0 (.slice none 0 0) [] := ⟨grown_refl _ _, hp12.blk, GRow.nil .., rfl, by simp⟩
          obtain ⟨T3, hT3e⟩ : ∃ T3, T3 = T2 := ⟨_, rfl⟩
          rw [← hT3e] at hI4 hT2 hd32 hd92 hp12 ⊢
          have hT3 := hT2
          have hd33 := hd32
          have hd93 := hd92
          have hgT := blk_lt hp12.blk
          obtain ⟨a', hae⟩ : ∃ a' : Int, a' = a := ⟨_, rfl⟩
          rw [← hae] at hI4
          have ha' : -1 ≤ a' ∧ a' < V := by omega
          refine lp_loop tabOk (X := Nat) (fun k => [(1, .pointer (some ⟨g1, 0, none⟩)), (2, .pointer (some ⟨g2, 0, none⟩)), (3, .pointer (some ⟨g3, 0, none⟩)), (4, .int .i64 N), (8, .int .i64 j), (9, .pointer (some ⟨g9, 0, none⟩)), (10, .int .i64 a), (11, .int .i64 b), (12, .pointer (some ⟨g12, 0, none⟩)), (13, .int .i64 k)])
            (fun k w4 => k ≤ 3 ∧ ∃ vs zs, M4 T3 w4 T3.heap.size g12 a' b V k vs zs) (fun k => 4 - k) 0 ⟨rfl, rfl, rfl, rfl, rfl, rfl, rfl, rfl, rfl, rfl, trivial⟩ ⟨by omega, _, _, hI4⟩ ?_
          clear hI4
          intro k G4 w4' ⟨hk4, vs, zs, m4⟩
          conv => whnf
          have hs3 := hT3.size
          have he3 := (m4.grown.block g3 (by omega) (by simp; omega)).trans hd33
          have he9 := (m4.grown.block g9 (by omega) (by simp; omega)).trans hd93
          have he12 := m4.blk
          (repeat' (first | (refine wl_Lg tabOk he3 rfl rfl rfl rfl rfl rfl rfl (run_l tabOk ?_); conv => whnf) | (refine wl_Lg tabOk he9 rfl rfl rfl rfl rfl rfl rfl (run_l tabOk ?_); conv => whnf) | (refine wl_Lg tabOk he12 rfl rfl rfl rfl rfl rfl rfl (run_l tabOk ?_); conv => whnf) | ((first | refine wl_add rfl rfl rfl rfl rfl rfl (by omega) (by omega) (run_l tabOk ?_) | refine wl_sub rfl rfl rfl rfl rfl rfl (by omega) (by omega) (run_l tabOk ?_) | refine wl_cvA tabOk rfl rfl rfl (by simp only [inK]; omega) rfl rfl rfl (run_l tabOk ?_) | refine wl_cvB tabOk rfl rfl rfl rfl rfl rfl (run_l tabOk ?_) | refine wl_rem rfl rfl rfl rfl rfl rfl (by omega) (by omega) (fun r hr hr0 hr1 hr2 => run_l tabOk ?_) | refine wl_quo rfl rfl rfl rfl rfl rfl (by omega) (by omega) (by simp only [inK]; omega) (run_l tabOk ?_) | refine wl_mul rfl rfl rfl rfl rfl rfl (by omega) (by omega) (run_l tabOk ?_) | refine gs_dt (by first | assumption | omega) ?_ | refine gs_df (by first | assumption | omega) ?_ | refine gs_t (by assumption) ?_ | refine gs_f (by assumption) ?_ | refine gs_d (fun hg => ?_) (fun hg => ?_) | refine gs_n (fun hg => ?_) (fun hg => ?_) | refine gs_nb (fun hg => ?_) (fun hg => ?_) | refine gs_b (fun hg => ?_) (fun hg => ?_)) <;> conv => whnf) | refine fin1 rfl rfl ?_))
          · have hmb := mul_bounds (m := 3) (k := 255) (a := (k : Int)) (b := x.c) ⟨by omega, by omega⟩ ⟨by omega, by omega⟩
            refine wc_qt 16 17 (stable_Bw _) tabOk mixed (by kernel_rfl) rfl (Below.refl _ _) ?_; conv => whnf
            (repeat' (first | (refine wq_Lg tabOk he3 rfl rfl rfl rfl rfl rfl rfl (run_q tabOk ?_); conv => whnf) | (refine wq_Lg tabOk he9 rfl rfl rfl rfl rfl rfl rfl (run_q tabOk ?_); conv => whnf) | (refine wq_Lg tabOk he12 rfl rfl rfl rfl rfl rfl rfl (run_q tabOk ?_); conv => whnf) | ((first | refine wq_add rfl rfl rfl rfl rfl rfl (by omega) (by omega) (run_q tabOk ?_) | refine wq_sub rfl rfl rfl rfl rfl rfl (by omega) (by omega) (run_q tabOk ?_) | refine wq_cvA tabOk rfl rfl rfl (by simp only [inK]; omega) rfl rfl rfl (run_q tabOk ?_) | refine wq_cvB tabOk rfl rfl rfl rfl rfl rfl (run_q tabOk ?_) | refine wq_rem rfl rfl rfl rfl rfl rfl (by omega) (by omega) (fun r hr hr0 hr1 hr2 => run_q tabOk ?_) | refine wq_quo rfl rfl rfl rfl rfl rfl (by omega) (by omega) (by simp only [inK]; omega) (run_q tabOk ?_) | refine wq_mul rfl rfl rfl rfl rfl rfl (by omega) (by omega) (run_q tabOk ?_) | refine gs_dt (by first | assumption | omega) ?_ | refine gs_df (by first | assumption | omega) ?_ | refine gs_t (by assumption) ?_ | refine gs_f (by assumption) ?_ | refine gs_d (fun hg => ?_) (fun hg => ?_) | refine gs_n (fun hg => ?_) (fun hg => ?_) | refine gs_nb (fun hg => ?_) (fun hg => ?_) | refine gs_b (fun hg => ?_) (fun hg => ?_)) <;> conv => whnf)))
            intro Z1 _ hZ1
            conv => whnf
            refine wa_bs tabOk 3 1 rfl rfl rfl rfl rfl rfl rfl rfl rfl ?_
            intro g14 Z2 hn14
            refine ⟨hn14.up hZ1, fun Z3 hZ3 _ => ?_⟩
            conv => whnf
            have hZ13 := bup (hn14.up hZ1) hZ3
            have hr3 := m4.row.below hZ13
            obtain ⟨flat, hfl, hel⟩ := hr3.own
            have hk3 := m4.len
            have hZs := hZ13.size
            have hks := m4.grown.size
            refine wl_ap tabOk 3 1 8 hfl (blk_up hZ3 hn14.blk) rfl rfl rfl rfl rfl rfl rfl rfl rfl rfl rfl rfl (by simp [Value.oneCell']) (by omega) (by omega) (by omega) ?_
            intro A7 cap7 Z4 hown hgr hob
            refine run_l tabOk ?_
            conv => whnf
            have hne6 : some g12 ≠ vs.ownBlock := fun e => by have := (hr3.olt g12 e.symm).1; omega
            refine wl_S (off := 3) tabOk ((hgr.block g12 (by omega) hne6).trans (blk_up hZ13 he12)) rfl rfl rfl rfl rfl rfl (by simp) rfl rfl ?_
            intro Z5 hp7
            refine run_l tabOk ?_
            conv => whnf
            (repeat' (first | ((first | refine wl_add rfl rfl rfl rfl rfl rfl (by omega) (by omega) (run_l tabOk ?_) | refine wl_sub rfl rfl rfl rfl rfl rfl (by omega) (by omega) (run_l tabOk ?_) | refine wl_cvA tabOk rfl rfl rfl (by simp only [inK]; omega) rfl rfl rfl (run_l tabOk ?_) | refine wl_cvB tabOk rfl rfl rfl rfl rfl rfl (run_l tabOk ?_) | refine wl_rem rfl rfl rfl rfl rfl rfl (by omega) (by omega) (fun r hr hr0 hr1 hr2 => run_l tabOk ?_) | refine wl_quo rfl rfl rfl rfl rfl rfl (by omega) (by omega) (by simp only [inK]; omega) (run_l tabOk ?_) | refine wl_mul rfl rfl rfl rfl rfl rfl (by omega) (by omega) (run_l tabOk ?_) | refine gs_dt (by first | assumption | omega) ?_ | refine gs_df (by first | assumption | omega) ?_ | refine gs_t (by assumption) ?_ | refine gs_f (by assumption) ?_ | refine gs_d (fun hg => ?_) (fun hg => ?_) | refine gs_n (fun hg => ?_) (fun hg => ?_) | refine gs_nb (fun hg => ?_) (fun hg => ?_) | refine gs_b (fun hg => ?_) (fun hg => ?_)) <;> conv => whnf) | refine fin1 rfl rfl ?_))
            have hnew := gints_push hr3 hel hown hgr hob (y := _) ⟨by omega, by omega⟩
            refine ⟨k + 1, ⟨rfl, rfl, rfl, rfl, rfl, rfl, rfl, rfl, rfl, rfl, trivial⟩, ⟨by omega, _, _, ⟨?_, hp7.blk, hnew.other hp7.grown (by simp) (fun k hk => by have := (hnew.olt k hk).1; omega), ?_, ?_⟩⟩, by omega⟩
            · exact grown_cut (grown_cut (grown_cut m4.grown (grown_of (row := none) hZ13) nofun) hgr (fun k hk => .inl (hr3.olt k hk).1)) hp7.grown (fun k hk => .inr hk)
            · simp [hk3]
            · intro y hy
              rcases List.mem_append.1 hy with hy | hy
              · exact m4.good y hy
              · have := List.mem_singleton.1 hy
                omega
          · obtain ⟨Av, cv, rfl, hlc, _⟩ := m4.row.row
            (repeat' (first | (refine wl_Lg tabOk he3 rfl rfl rfl rfl rfl rfl rfl (run_l tabOk ?_); conv => whnf) | (refine wl_Lag tabOk he12 rfl rfl rfl rfl rfl rfl (run_l tabOk ?_); conv => whnf) | ((first | refine wl_add rfl rfl rfl rfl rfl rfl (by omega) (by omega) (run_l tabOk ?_) | refine wl_sub rfl rfl rfl rfl rfl rfl (by omega) (by omega) (run_l tabOk ?_) | refine wl_cvA tabOk rfl rfl rfl (by simp only [inK]; omega) rfl rfl rfl (run_l tabOk ?_) | refine wl_cvB tabOk rfl rfl rfl rfl rfl rfl (run_l tabOk ?_) | refine wl_rem rfl rfl rfl rfl rfl rfl (by omega) (by omega) (fun r hr hr0 hr1 hr2 => run_l tabOk ?_) | refine wl_quo rfl rfl rfl rfl rfl rfl (by omega) (by omega) (by simp only [inK]; omega) (run_l tabOk ?_) | refine wl_mul rfl rfl rfl rfl rfl rfl (by omega) (by omega) (run_l tabOk ?_) | refine gs_dt (by first | assumption | omega) ?_ | refine gs_df (by first | assumption | omega) ?_ | refine gs_t (by assumption) ?_ | refine gs_f (by assumption) ?_ | refine gs_d (fun hg => ?_) (fun hg => ?_) | refine gs_n (fun hg => ?_) (fun hg => ?_) | refine gs_nb (fun hg => ?_) (fun hg => ?_) | refine gs_b (fun hg => ?_) (fun hg => ?_)) <;> conv => whnf) | refine fin1 rfl rfl ?_))
            refine wl_bs tabOk 46 4 rfl rfl rfl rfl rfl rfl rfl rfl rfl rfl ?_
            intro g8 Y1 hn8
            refine run_l tabOk ?_
            conv => whnf
            have hX : Below wk.heap.size wk w4' := (bup hU2 hT3).grown m4.grown (by omega) (fun k hk => by cases hk; omega)
            have hY1 : Below wk.heap.size wk Y1 := hn8.up hX
            have hd31 := hn8.old he3
            have hall : (zs.all fun n => inR n (-1) V) = true := List.all_eq_true.2 fun y hy => by have := m4.good y hy; simp [inR]; omega
            have hzl := m4.len
        
            have hrowY := m3.row.below (hY1)
            have hargY := (m4.row.below hn8.below)
            obtain ⟨flat, hfl, hel⟩ := hrowY.own
            have hyl := m3.len
            have hYs := Below.size (hY1)
            have hws := m3.grown.size
            refine wl_ap tabOk 46 4 48 hfl (hn8.blk) rfl rfl rfl rfl rfl rfl rfl rfl rfl rfl rfl rfl (by simp [Value.oneCell']) (by omega) (by omega) (by omega) ?_
            intro A8 cap8 Y2 hown hgr hob
            refine run_l tabOk ?_
            conv => whnf
            have hne3 : some g3 ≠ vb.ownBlock := fun e => by have := (m3.row.olt g3 e.symm).1; omega
            refine wl_S (off := 2) tabOk ((hgr.block g3 (by omega) hne3).trans (hd31)) rfl rfl rfl rfl rfl rfl (by simp) rfl rfl ?_
            intro Y3 hp8
            refine run_l tabOk ?_
            conv => whnf
            (repeat' (first | ((first | refine wl_add rfl rfl rfl rfl rfl rfl (by omega) (by omega) (run_l tabOk ?_) | refine wl_sub rfl rfl rfl rfl rfl rfl (by omega) (by omega) (run_l tabOk ?_) | refine wl_cvA tabOk rfl rfl rfl (by simp only [inK]; omega) rfl rfl rfl (run_l tabOk ?_) | refine wl_cvB tabOk rfl rfl rfl rfl rfl rfl (run_l tabOk ?_) | refine wl_rem rfl rfl rfl rfl rfl rfl (by omega) (by omega) (fun r hr hr0 hr1 hr2 => run_l tabOk ?_) | refine wl_quo rfl rfl rfl rfl rfl rfl (by omega) (by omega) (by simp only [inK]; omega) (run_l tabOk ?_) | refine wl_mul rfl rfl rfl rfl rfl rfl (by omega) (by omega) (run_l tabOk ?_) | refine gs_dt (by first | assumption | omega) ?_ | refine gs_df (by first | assumption | omega) ?_ | refine gs_t (by assumption) ?_ | refine gs_f (by assumption) ?_ | refine gs_d (fun hg => ?_) (fun hg => ?_) | refine gs_n (fun hg => ?_) (fun hg => ?_) | refine gs_nb (fun hg => ?_) (fun hg => ?_) | refine gs_b (fun hg => ?_) (fun hg => ?_)) <;> conv => whnf) | refine fin1 rfl rfl ?_))
            have hnew := hrowY.push hel hown hgr hob rfl (bs' := (Value.slice Av zs.length cv).ownBlock.toList) (x := ⟨_, _, _, _⟩) (fun w' hw' => dCon_of hargY _ _ _ ⟨by omega, by omega⟩ ⟨by omega, by omega⟩ ⟨by omega, by omega⟩ w' hw')
              (fun b hb => by have := hargY.olt b (mem_own hb); omega) (fun b hb e => by have := hargY.olt b (mem_own hb); have := m3.row.olt b e.symm; omega)
            refine ⟨j + 1, ⟨rfl, rfl, rfl, rfl, rfl, trivial⟩, ⟨by omega, by omega, .slice A8 (ys.length + 1) cap8, _, _, ⟨grown_cut (grown_cut (grown_cut m3.grown (grown_of (row := none) (hY1)) nofun) hgr (fun k hk => .inl (m3.row.olt k hk).1)) hp8.grown (fun k hk => .inr hk), hp8.blk, hnew.other hp8.grown ?_ ?_, by simp; omega, good_push m3.good (by simp only [conOk]; rw [hall]; simp [inR]; omega)⟩⟩, by omega⟩
            · intro b hb
              have := (hnew.lt b hb).1
              omega
            · intro k hk
              have := (hnew.olt k hk).1
              omega
    all_goals
      (repeat' (first | (refine wl_Lag tabOk hc3 rfl rfl rfl rfl rfl rfl (run_l tabOk ?_); conv => whnf) | ((first | refine wl_add rfl rfl rfl rfl rfl rfl (by omega) (by omega) (run_l tabOk ?_) | refine wl_sub rfl rfl rfl rfl rfl rfl (by omega) (by omega) (run_l tabOk ?_) | refine wl_cvA tabOk rfl rfl rfl (by simp only [inK]; omega) rfl rfl rfl (run_l tabOk ?_) | refine wl_cvB tabOk rfl rfl rfl rfl rfl rfl (run_l tabOk ?_) | refine wl_rem rfl rfl rfl rfl rfl rfl (by omega) (by omega) (fun r hr hr0 hr1 hr2 => run_l tabOk ?_) | refine wl_quo rfl rfl rfl rfl rfl rfl (by omega) (by omega) (by simp only [inK]; omega) (run_l tabOk ?_) | refine wl_mul rfl rfl rfl rfl rfl rfl (by omega) (by omega) (run_l tabOk ?_) | refine gs_dt (by first | assumption | omega) ?_ | refine gs_df (by first | assumption | omega) ?_ | refine gs_t (by assumption) ?_ | refine gs_f (by assumption) ?_ | refine gs_d (fun hg => ?_) (fun hg => ?_) | refine gs_n (fun hg => ?_) (fun hg => ?_) | refine gs_nb (fun hg => ?_) (fun hg => ?_) | refine gs_b (fun hg => ?_) (fun hg => ?_)) <;> conv => whnf) | refine fin1 rfl rfl ?_))
      refine wl_Sa tabOk hc2 rfl rfl rfl rfl rfl (by
        obtain ⟨A1, k1, e1, _⟩ := h1.row.row
        obtain ⟨A2, k2, e2, _⟩ := m3.row.row
        rw [e1, e2]
        simp [Value.oneCell']) rfl rfl ?_
      intro U1 hp
      refine run_l tabOk ?_
      conv => whnf
      have hrow : GRow 3 dCell 44 w4.heap.size wk va xs bs := h1.row.other m3.grown (fun b hb => by have := (h1.row.lt b hb).1; omega) (fun k hk => by have := (h1.row.olt k hk).1; omega)
      refine fin_c tabOk rfl hp.blk rfl rfl ⟨⟨V, xs, ys⟩, va, vb, bs, cs, rfl, hp.below hBk (by omega) hBk.size, (hrow.other hp.grown (fun b hb => by have := (h1.row.lt b hb).1; omega) (fun k hk => by have := (h1.row.olt k hk).1; omega)).lower (by omega), (m3.row.other hp.grown (fun b hb => by have := (m3.row.lt b hb).1; omega) (fun k hk => by have := (m3.row.olt k hk).1; omega)).lower (by have := hB.size; omega), ?_, ?_, ?_, hV1, ?_, ?_, h1.good, ?_⟩
      · intro k hk
        have := (h1.row.olt k hk).2
        exact ⟨fun e => by have := (m3.row.olt k e).1; omega, fun hm => by have := (m3.row.lt k hm).1; omega⟩
      · intro k hk hm
        have := (h1.row.lt k hm).2
        have := (m3.row.olt k hk).1
        omega
      · intro k hk hm
        have := (h1.row.lt k hk).2
        have := (m3.row.lt k hm).1
        omega
      · have := h1.len
        show xs.length ≤ 7
        omega
      · have := m3.len
        show ys.length ≤ 40
        omega
      · have := h1.len
        have e : xs.length = N.toNat := by omega
        show ∀ k, k < ys.length → conOk V xs.length ys[k]! = true
        rw [e]
        exact m3.good
end Go.Proofs.Ytjggjhgbobmkhaa
