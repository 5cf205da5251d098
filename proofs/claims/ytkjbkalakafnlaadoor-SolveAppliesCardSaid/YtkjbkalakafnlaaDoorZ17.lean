/- Several texts of one claim in one file: SI20. -/
import Derived.Test.YtkjbkalakafnlaaDoorZ11
import Derived.Test.YtkjbkalakafnlaaDoorZ16
/- solve.Least: its beginning. -/
namespace Go.Proofs.YtkjbkalakafnlaaDoor
open Go.RowKit
set_option linter.unusedVariables false
set_option linter.unusedSimpArgs false
set_option maxRecDepth 100000
/-- The memory while its rows grow. -/
structure SW (c : Cx) (O : Nat → Nat) (w : World) (m : Mem) : Prop where
  all : All O w (comp c m)
  low : ∀ b, b < c.base → O b = 99
  sz : c.base ≤ w.heap.size
def mem0 (gf go : Nat) : Mem := ⟨0, fun _ => 0, fun _ => 0, fun _ => 0, fun _ => [], fun _ => [], fun _ => [], fun _ => .slice none 0 0, fun _ => [], [], 0, .slice none 0 0, .slice none 0 0, .slice none 0 0, .slice none 0 0, gf, go⟩
theorem flat_one {α : Type} (n : Nat) (x : α) : (List.replicate n [x]).flatten = (List.range n).map fun _ => x := by
  refine List.ext_getElem (by simp) fun i h1 h2 => ?_
  simp
/-- The beginning: nothing is in it yet. -/
theorem SW.start (c : Cx) {w w1 : World} {gf go : Nat} (hbase : c.base ≤ w.heap.size) (hb : Below w.heap.size w w1) (hs : w.heap.size ≤ w1.heap.size)
    (hbox : w1.heap[c.gx]? = some (.cells (boxV c (mem0 gf go)).toArray 87 (0, 0))) (hgf : w1.heap[gf]? = some (.cells (List.replicate c.n [Value.slice none 0 0]).flatten.toArray 46 (0, 0))) (hgo : w1.heap[go]? = some (.cells (List.replicate c.n [Value.bool false]).flatten.toArray 4 (0, 0)))
    (b1 : w.heap.size ≤ c.gx) (b2 : w.heap.size ≤ gf) (b3 : w.heap.size ≤ go) (d1 : c.gx ≠ gf) (d2 : c.gx ≠ go) (d3 : gf ≠ go) (hO : w.heap.size = c.base) :
    ∃ O, SW c O w1 (mem0 gf go) ∧ Stp (fun _ => 99) O w w1 ∧ ∀ b, w.heap.size ≤ b → b ≠ c.gx → b ≠ gf → b ≠ go → O b = 97 := by
  let O : Nat → Nat := fun b => if b < w.heap.size then 99 else if b = c.gx then 0 else if b = gf then 4 else if b = go then 6 else 97
  have o1 : O c.gx = 0 := by simp [O, show ¬ c.gx < w.heap.size by omega]
  have o2 : O gf = 4 := by simp [O, show ¬ gf < w.heap.size by omega, Ne.symm d1]
  have o3 : O go = 6 := by simp [O, show ¬ go < w.heap.size by omega, Ne.symm d2, Ne.symm d3]
  have old : ∀ b, b < w.heap.size → O b = 99 := fun b h => if_pos h
  have nilrow : ∀ (k : Nat) (g : Nat → Nat), AtF O k w1 (rowP c.base 0 (.slice none 0 0) g) := fun k g => ⟨[], by simp, fun w' _ => ⟨rfl, own_nil ..⟩⟩
  have blk : ∀ (g k : Nat) (P : List Nat → World → Prop) (o : Obj), O g = k → w1.heap[g]? = some o → (∀ w', w'.heap[g]? = some o → P [g] w') → AtF O k w1 P := fun g k P o h1 h2 h3 => ⟨[g], by simpa using ⟨h1, blk_lt h2⟩, fun w' hw' => h3 w' ((hw' g (by simp)).trans h2)⟩
  refine ⟨O, ⟨fun k => ?_, fun b h => old b (by omega), Nat.le_trans hbase hs⟩, ⟨hb.os, hb.tape, hb.output, hb.size, old, fun b h _ _ => hb.block b h⟩, fun b h1 h2 h3 h4 => by simp only [O]; rw [if_neg (by omega), if_neg h2, if_neg h3, if_neg h4]⟩
  match k with
  | 0 => exact blk _ _ _ _ o1 hbox fun w' hw' => ⟨rfl, hw'⟩
  | 1 => exact nilrow _ _
  | 2 => exact nilrow _ _
  | 3 => exact nilrow _ _
  | 4 => exact blk _ _ _ _ o2 hgf fun w' hw' => ⟨rfl, by show w'.heap[gf]? = _; rw [hw', flat_one]; rfl⟩
  | 5 => exact ⟨[], by simp, fun w' _ => QRow.nil _⟩
  | 6 => exact blk _ _ _ _ o3 hgo fun w' hw' => ⟨rfl, by show w'.heap[go]? = _; rw [hw', flat_one]; simp [onV, mem0]⟩
  | j + 7 => exact ⟨[], by simp, fun w' _ _ => ⟨fun _ h => by simp only [mem0] at h; omega, fun _ h => by simp only [mem0] at h; omega, fun _ h => by simp only [mem0] at h; omega, fun _ _ => QRow.nil _⟩⟩
set_option maxHeartbeats 16000000 in
theorem solveLeast (n : Nat) (xs : List Cell) (ys : List Con) (A1 A2 : Option Addr) (c1 c2 : Nat) (w : World) (h1 : RCells w A1 xs) (h2 : RCons w A2 ys) (hright : rightB ⟨n, xs, ys⟩ = true) (hT : Tab w) :
    Calls Tryd.prog 34 #[.agg #[.int .i64 n, .slice A1 xs.length c1, .slice A2 ys.length c2]] w fun e w' => ∃ M A cap k, e = .returned (.tuple #[.slice A n cap, .int .i64 ((k : Nat) : Int), .int .i64 0]) ∧ IsLeast ⟨n, xs, ys⟩ M ∧ RRows w' A (ptsOf M) ∧ n ≤ cap ∧ k ≤ n * xs.length ∧ Below w.heap.size w w' := by
  have hm1 := h1.1
  have hm2 := h2.1
  obtain ⟨hn, hnc, hny, hgx, hgc⟩ := right_parts hright
  refine enterR (args := [.agg #[.int .i64 n, .slice A1 xs.length c1, .slice A2 ys.length c2]]) tabOk Tryd.func34 rfl Tryd.ntmps34 rfl ?_; conv => whnf
  refine wl_box rfl rfl rfl rfl rfl rfl ?_
  intro g0 w1 hn1
  have hb0 := hn1.blk
  have hB1 := hn1.below
  refine run_l tabOk ?_
  conv => whnf
  (repeat' (first | (refine wl_Lag tabOk hb0 rfl rfl rfl rfl rfl rfl (run_l tabOk ?_); conv => whnf) | (refine wl_add rfl rfl rfl rfl rfl rfl (by omega) (by omega) (run_l tabOk ?_); conv => whnf) | (refine wl_sub rfl rfl rfl rfl rfl rfl (by omega) (by omega) (run_l tabOk ?_); conv => whnf) | (refine wl_cvA tabOk rfl rfl rfl (by simp only [inK]; omega) rfl rfl rfl (run_l tabOk ?_); conv => whnf) | (refine wl_cvB tabOk rfl rfl rfl rfl rfl rfl (run_l tabOk ?_); conv => whnf) | (refine wl_rem rfl rfl rfl rfl rfl rfl (by omega) (by omega) (fun r hr hr0 hr1 hr2 => run_l tabOk ?_); conv => whnf) | (refine wl_quo rfl rfl rfl rfl rfl rfl (by omega) (by omega) (by simp only [inK]; omega) (run_l tabOk ?_); conv => whnf) | (refine wl_mul rfl rfl rfl rfl rfl rfl (by omega) (by omega) (run_l tabOk ?_); conv => whnf) | (refine gs_dt (by first | assumption | omega) ?_; conv => whnf) | (refine gs_df (by first | assumption | omega) ?_; conv => whnf) | (refine gs_t (by assumption) ?_; conv => whnf) | (refine gs_f (by assumption) ?_; conv => whnf) | (refine gs_d (fun hg => ?_) (fun hg => ?_) <;> conv => whnf) | (refine gs_n (fun hg => ?_) (fun hg => ?_) <;> conv => whnf) | (refine gs_nb (fun hg => ?_) (fun hg => ?_) <;> conv => whnf) | (refine gs_b (fun hg => ?_) (fun hg => ?_) <;> conv => whnf) | refine fin1 rfl rfl ?_))
  refine wl_C fn46 (sysRight ⟨n, xs, ys⟩ A1 A2 c1 c2 w1 (h1.up stays_Cell hB1) (h2.up stays_Con hB1)) rfl rfl rfl rfl rfl rfl rfl ?_
  rintro _ w3 ⟨rfl, hB3⟩
  rw [hright]
  have hb0 := blk_up hB3 hb0
  have hB := bup hB1 hB3
  have hg0 : w.heap.size ≤ g0 := by have := hn1.at_; omega
  have hg0s : g0 < w3.heap.size := blk_lt hb0
  clear hn1 hB1 hB3
  refine ⟨_, rfl, run_l tabOk ?_⟩
  conv => whnf
  (repeat' (first | (refine wl_Lg tabOk hb0 rfl rfl rfl rfl rfl rfl rfl (run_l tabOk ?_); conv => whnf) | (refine wl_add rfl rfl rfl rfl rfl rfl (by omega) (by omega) (run_l tabOk ?_); conv => whnf) | (refine wl_sub rfl rfl rfl rfl rfl rfl (by omega) (by omega) (run_l tabOk ?_); conv => whnf) | (refine wl_cvA tabOk rfl rfl rfl (by simp only [inK]; omega) rfl rfl rfl (run_l tabOk ?_); conv => whnf) | (refine wl_cvB tabOk rfl rfl rfl rfl rfl rfl (run_l tabOk ?_); conv => whnf) | (refine wl_rem rfl rfl rfl rfl rfl rfl (by omega) (by omega) (fun r hr hr0 hr1 hr2 => run_l tabOk ?_); conv => whnf) | (refine wl_quo rfl rfl rfl rfl rfl rfl (by omega) (by omega) (by simp only [inK]; omega) (run_l tabOk ?_); conv => whnf) | (refine wl_mul rfl rfl rfl rfl rfl rfl (by omega) (by omega) (run_l tabOk ?_); conv => whnf) | (refine gs_dt (by first | assumption | omega) ?_; conv => whnf) | (refine gs_df (by first | assumption | omega) ?_; conv => whnf) | (refine gs_t (by assumption) ?_; conv => whnf) | (refine gs_f (by assumption) ?_; conv => whnf) | (refine gs_d (fun hg => ?_) (fun hg => ?_) <;> conv => whnf) | (refine gs_n (fun hg => ?_) (fun hg => ?_) <;> conv => whnf) | (refine gs_nb (fun hg => ?_) (fun hg => ?_) <;> conv => whnf) | (refine gs_b (fun hg => ?_) (fun hg => ?_) <;> conv => whnf) | refine fin1 rfl rfl ?_))
  refine wc_cutR (X := Nat × Nat × Nat) (fun x => [(1, .pointer (some ⟨g0, 0, none⟩)), (5, .pointer (some ⟨x.2.2, 0, none⟩))])
    (fun x W => Below w3.heap.size w3 W ∧ W.heap[x.2.2]? = some (.cells (boxV ⟨w.heap.size, x.2.2, n, xs, ys, A1, A2, c1, c2⟩ (mem0 x.1 x.2.1)).toArray 87 (0, 0)) ∧
      W.heap[x.1]? = some (.cells (List.replicate n [Value.slice none 0 0]).flatten.toArray 46 (0, 0)) ∧ W.heap[x.2.1]? = some (.cells (List.replicate n [Value.bool false]).flatten.toArray 4 (0, 0)) ∧
      (w3.heap.size ≤ x.1 ∧ w3.heap.size ≤ x.2.1 ∧ w3.heap.size ≤ x.2.2) ∧ x.2.2 ≠ x.1 ∧ x.2.2 ≠ x.2.1 ∧ x.1 ≠ x.2.1) ?_ ?_
  · refine wc_qx [0, 1, 2, 4, 5] 2 7 (stable_Bw _) tabOk mixed (by kernel_rfl) (Below.refl _ _) ?_; (conv => whnf)
    (repeat' (first | (refine wq_Lg tabOk hb0 rfl rfl rfl rfl rfl rfl rfl (run_q tabOk ?_); conv => whnf) | (refine wq_Lag tabOk hb0 rfl rfl rfl rfl rfl rfl (run_q tabOk ?_); conv => whnf) | (refine wq_add rfl rfl rfl rfl rfl rfl (by omega) (by omega) (run_q tabOk ?_); conv => whnf) | (refine wq_sub rfl rfl rfl rfl rfl rfl (by omega) (by omega) (run_q tabOk ?_); conv => whnf) | (refine wq_cvA tabOk rfl rfl rfl (by simp only [inK]; omega) rfl rfl rfl (run_q tabOk ?_); conv => whnf) | (refine wq_cvB tabOk rfl rfl rfl rfl rfl rfl (run_q tabOk ?_); conv => whnf) | (refine wq_rem rfl rfl rfl rfl rfl rfl (by omega) (by omega) (fun r hr hr0 hr1 hr2 => run_q tabOk ?_); conv => whnf) | (refine wq_quo rfl rfl rfl rfl rfl rfl (by omega) (by omega) (by simp only [inK]; omega) (run_q tabOk ?_); conv => whnf) | (refine wq_mul rfl rfl rfl rfl rfl rfl (by omega) (by omega) (run_q tabOk ?_); conv => whnf) | (refine gs_dt (by first | assumption | omega) ?_; conv => whnf) | (refine gs_df (by first | assumption | omega) ?_; conv => whnf) | (refine gs_t (by assumption) ?_; conv => whnf) | (refine gs_f (by assumption) ?_; conv => whnf) | (refine gs_d (fun hg => ?_) (fun hg => ?_) <;> conv => whnf) | (refine gs_n (fun hg => ?_) (fun hg => ?_) <;> conv => whnf) | (refine gs_nb (fun hg => ?_) (fun hg => ?_) <;> conv => whnf) | (refine gs_b (fun hg => ?_) (fun hg => ?_) <;> conv => whnf)))
    intro W hC hBW
    clear hBW
    conv => whnf
    repeat' (first | exact True.intro | (refine And.intro ?_ ?_ <;> (conv => whnf)) | (refine wb_mk (m := n) tabOk 46 1 24 rfl rfl rfl rfl rfl rfl rfl rfl (by omega) (by omega) ?_; intro g3 v3 n3; (try (have d3_6 : g3 ≠ g6 := (by (have := blk_lt f6; have := n3.at_; omega)))); have b3 : w3.heap.size ≤ g3 := (by (have := n3.at_; have := hC.size; omega)); have f3 := n3.blk; refine ⟨bup hC n3.below, fun W hW hC => ?_⟩; have f3 := blk_up hW f3; (try (have f6 := blk_up (bup n3.below hW) f6)); clear hW n3; (conv => whnf)) | (refine wb_mk (m := n) tabOk 4 1 1 rfl rfl rfl rfl rfl rfl rfl rfl (by omega) (by omega) ?_; intro g6 v6 n6; (try (have d3_6 : g3 ≠ g6 := (by (have := blk_lt f3; have := n6.at_; omega)))); have b6 : w3.heap.size ≤ g6 := (by (have := n6.at_; have := hC.size; omega)); have f6 := n6.blk; refine ⟨bup hC n6.below, fun W hW hC => ?_⟩; have f6 := blk_up hW f6; (try (have f3 := blk_up (bup n6.below hW) f3)); clear hW n6; (conv => whnf)) | (refine wb_P tabOk rfl rfl rfl ?_; refine ⟨hC, fun W hW hC => ?_⟩; (try (have f3 := blk_up (hW) f3)); (try (have f6 := blk_up (hW) f6)); clear hW; (conv => whnf)))
    all_goals
      (repeat' (first | (refine wl_add rfl rfl rfl rfl rfl rfl (by omega) (by omega) (run_l tabOk ?_); conv => whnf) | (refine wl_sub rfl rfl rfl rfl rfl rfl (by omega) (by omega) (run_l tabOk ?_); conv => whnf) | (refine wl_cvA tabOk rfl rfl rfl (by simp only [inK]; omega) rfl rfl rfl (run_l tabOk ?_); conv => whnf) | (refine wl_cvB tabOk rfl rfl rfl rfl rfl rfl (run_l tabOk ?_); conv => whnf) | (refine wl_rem rfl rfl rfl rfl rfl rfl (by omega) (by omega) (fun r hr hr0 hr1 hr2 => run_l tabOk ?_); conv => whnf) | (refine wl_quo rfl rfl rfl rfl rfl rfl (by omega) (by omega) (by simp only [inK]; omega) (run_l tabOk ?_); conv => whnf) | (refine wl_mul rfl rfl rfl rfl rfl rfl (by omega) (by omega) (run_l tabOk ?_); conv => whnf) | (refine gs_dt (by first | assumption | omega) ?_; conv => whnf) | (refine gs_df (by first | assumption | omega) ?_; conv => whnf) | (refine gs_t (by assumption) ?_; conv => whnf) | (refine gs_f (by assumption) ?_; conv => whnf) | (refine gs_d (fun hg => ?_) (fun hg => ?_) <;> conv => whnf) | (refine gs_n (fun hg => ?_) (fun hg => ?_) <;> conv => whnf) | (refine gs_nb (fun hg => ?_) (fun hg => ?_) <;> conv => whnf) | (refine gs_b (fun hg => ?_) (fun hg => ?_) <;> conv => whnf) | refine fin1 rfl rfl ?_))
      refine wl_box rfl rfl rfl rfl rfl rfl ?_
      intro gx wz hz
      refine run_l tabOk ?_
      conv => whnf
      (repeat' (first | (refine wl_add rfl rfl rfl rfl rfl rfl (by omega) (by omega) (run_l tabOk ?_); conv => whnf) | (refine wl_sub rfl rfl rfl rfl rfl rfl (by omega) (by omega) (run_l tabOk ?_); conv => whnf) | (refine wl_cvA tabOk rfl rfl rfl (by simp only [inK]; omega) rfl rfl rfl (run_l tabOk ?_); conv => whnf) | (refine wl_cvB tabOk rfl rfl rfl rfl rfl rfl (run_l tabOk ?_); conv => whnf) | (refine wl_rem rfl rfl rfl rfl rfl rfl (by omega) (by omega) (fun r hr hr0 hr1 hr2 => run_l tabOk ?_); conv => whnf) | (refine wl_quo rfl rfl rfl rfl rfl rfl (by omega) (by omega) (by simp only [inK]; omega) (run_l tabOk ?_); conv => whnf) | (refine wl_mul rfl rfl rfl rfl rfl rfl (by omega) (by omega) (run_l tabOk ?_); conv => whnf) | (refine gs_dt (by first | assumption | omega) ?_; conv => whnf) | (refine gs_df (by first | assumption | omega) ?_; conv => whnf) | (refine gs_t (by assumption) ?_; conv => whnf) | (refine gs_f (by assumption) ?_; conv => whnf) | (refine gs_d (fun hg => ?_) (fun hg => ?_) <;> conv => whnf) | (refine gs_n (fun hg => ?_) (fun hg => ?_) <;> conv => whnf) | (refine gs_nb (fun hg => ?_) (fun hg => ?_) <;> conv => whnf) | (refine gs_b (fun hg => ?_) (fun hg => ?_) <;> conv => whnf) | refine fin1 rfl rfl ?_))
      have hgx := hz.at_
      have l3 := blk_lt f3
      have l6 := blk_lt f6
      exact ⟨(g3, g6, gx), ⟨rfl, rfl, trivial⟩, hz.up hC, hz.blk, hz.old f3, hz.old f6, ⟨b3, b6, by simp only; have := hC.size; omega⟩, by simp only; omega, by simp only; omega, by simp only; omega⟩
  · rintro ⟨gf, go, gx⟩ G w4 ⟨hB4, hbox, hgf, hgo, ⟨b2, b3, b1⟩, d1, d2, d3⟩
    simp only at hB4 hbox hgf hgo b1 b2 b3 d1 d2 d3
    obtain ⟨c, hcb, rfl, rfl, rfl, rfl, rfl, rfl, rfl, rfl⟩ : ∃ c : Cx, w.heap.size = c.base ∧ gx = c.gx ∧ n = c.n ∧ xs = c.xs ∧ ys = c.ys ∧ A1 = c.A1 ∧ A2 = c.A2 ∧ c1 = c.c1 ∧ c2 = c.c2 := ⟨⟨w.heap.size, gx, n, xs, ys, A1, A2, c1, c2⟩, rfl, rfl, rfl, rfl, rfl, rfl, rfl, rfl, rfl⟩
    obtain ⟨O4, h4, s4, o97⟩ := SW.start c (w := w) (w1 := w4) (Nat.le_of_eq hcb.symm) (bup hB hB4) (by have := hB.size; have := hB4.size; omega) hbox hgf hgo (by have := hB.size; omega) (by have := hB.size; omega) (by have := hB.size; omega) d1 d2 d3 hcb
    have hO0 : O4 g0 = 97 := o97 g0 hg0 (by omega) (by omega) (by omega)
    have hb0 := blk_up hB4 hb0
    conv => whnf
    (repeat' (first | (refine wl_Lg tabOk hb0 rfl rfl rfl rfl rfl rfl rfl (run_l tabOk ?_); conv => whnf) | (refine wl_add rfl rfl rfl rfl rfl rfl (by omega) (by omega) (run_l tabOk ?_); conv => whnf) | (refine wl_sub rfl rfl rfl rfl rfl rfl (by omega) (by omega) (run_l tabOk ?_); conv => whnf) | (refine wl_cvA tabOk rfl rfl rfl (by simp only [inK]; omega) rfl rfl rfl (run_l tabOk ?_); conv => whnf) | (refine wl_cvB tabOk rfl rfl rfl rfl rfl rfl (run_l tabOk ?_); conv => whnf) | (refine wl_rem rfl rfl rfl rfl rfl rfl (by omega) (by omega) (fun r hr hr0 hr1 hr2 => run_l tabOk ?_); conv => whnf) | (refine wl_quo rfl rfl rfl rfl rfl rfl (by omega) (by omega) (by simp only [inK]; omega) (run_l tabOk ?_); conv => whnf) | (refine wl_mul rfl rfl rfl rfl rfl rfl (by omega) (by omega) (run_l tabOk ?_); conv => whnf) | (refine gs_dt (by first | assumption | omega) ?_; conv => whnf) | (refine gs_df (by first | assumption | omega) ?_; conv => whnf) | (refine gs_t (by assumption) ?_; conv => whnf) | (refine gs_f (by assumption) ?_; conv => whnf) | (refine gs_d (fun hg => ?_) (fun hg => ?_) <;> conv => whnf) | (refine gs_n (fun hg => ?_) (fun hg => ?_) <;> conv => whnf) | (refine gs_nb (fun hg => ?_) (fun hg => ?_) <;> conv => whnf) | (refine gs_b (fun hg => ?_) (fun hg => ?_) <;> conv => whnf) | refine fin1 rfl rfl ?_))
    refine lp_loop tabOk (X := Nat × (Nat → Nat) × Mem) (fun y => [(1, .pointer (some ⟨g0, 0, none⟩)), (5, .pointer (some ⟨c.gx, 0, none⟩)), (26, .int .i64 c.n), (27, .int .i64 y.1)])
      (fun y wr => y.1 = y.2.2.k ∧ SW c y.2.1 wr y.2.2 ∧ Stp O4 y.2.1 w4 wr ∧ y.2.2.k ≤ c.n ∧ y.2.2.wk = [] ∧ y.2.2.pops = 0 ∧ y.2.2.bi = (fun _ => []) ∧ y.2.2.bd = (fun _ => []) ∧ y.2.2.bt = (fun _ => []) ∧ y.2.2.Vr = (fun _ => .slice none 0 0) ∧ y.2.2.fr = fun _ => []) (fun y => c.n - y.1) (0, O4, mem0 gf go) ⟨rfl, rfl, rfl, rfl, trivial⟩ ⟨rfl, h4, Stp.refl _ _, by simp [mem0], rfl, rfl, rfl, rfl, rfl, rfl, rfl⟩ ?_
    rintro ⟨k, O, m⟩ G2 wr ⟨hkm, hm, sm, hk, e1, e2, e3, e4, e5, e6, e7⟩
    simp only at hkm hm sm hk e1 e2 e3 e4 e5 e6 e7
    subst hkm
    conv => whnf
    by_cases hkl : m.k < c.n
    · obtain ⟨f0, ⟨hf0, hbx⟩, hbO⟩ := (hm.all 0).now
      subst hf0
      have hbO := (hbO _ (List.mem_singleton.2 rfl)).1
      obtain ⟨f1, ⟨hf1, hr1⟩, hO1⟩ := (hm.all 1).now
      obtain ⟨f2, ⟨hf2, hr2⟩, hO2⟩ := (hm.all 2).now
      obtain ⟨f3, ⟨hf3, hr3⟩, hO3⟩ := (hm.all 3).now
      subst hf1 hf2 hf3
      (repeat' (first | (refine wl_add rfl rfl rfl rfl rfl rfl (by omega) (by omega) (run_l tabOk ?_); conv => whnf) | (refine wl_sub rfl rfl rfl rfl rfl rfl (by omega) (by omega) (run_l tabOk ?_); conv => whnf) | (refine wl_cvA tabOk rfl rfl rfl (by simp only [inK]; omega) rfl rfl rfl (run_l tabOk ?_); conv => whnf) | (refine wl_cvB tabOk rfl rfl rfl rfl rfl rfl (run_l tabOk ?_); conv => whnf) | (refine wl_rem rfl rfl rfl rfl rfl rfl (by omega) (by omega) (fun r hr hr0 hr1 hr2 => run_l tabOk ?_); conv => whnf) | (refine wl_quo rfl rfl rfl rfl rfl rfl (by omega) (by omega) (by simp only [inK]; omega) (run_l tabOk ?_); conv => whnf) | (refine wl_mul rfl rfl rfl rfl rfl rfl (by omega) (by omega) (run_l tabOk ?_); conv => whnf) | (refine gs_dt (by first | assumption | omega) ?_; conv => whnf) | (refine gs_df (by first | assumption | omega) ?_; conv => whnf) | (refine gs_t (by assumption) ?_; conv => whnf) | (refine gs_f (by assumption) ?_; conv => whnf) | (refine gs_d (fun hg => ?_) (fun hg => ?_) <;> conv => whnf) | (refine gs_n (fun hg => ?_) (fun hg => ?_) <;> conv => whnf) | (refine gs_nb (fun hg => ?_) (fun hg => ?_) <;> conv => whnf) | (refine gs_b (fun hg => ?_) (fun hg => ?_) <;> conv => whnf) | refine fin1 rfl rfl ?_))
      refine wc_qy [0, 1, 2, 3, 4, 5, 7, 11, 12, 13, 15, 19, 20, 21, 23] [6, 8, 9, 10, 14, 16, 17, 18, 22, 24, 25, 26, 27, 28, 29, 30, 31, 32] 33 (stable_Kr _ (c.gx :: (m.Vi.ownBlock.toList ++ m.Vd.ownBlock.toList ++ m.Vt.ownBlock.toList))) tabOk mixed (by kernel_rfl) (Kept.refl _ _) ?_; (conv => whnf)
      (repeat' (first | (refine wq_add rfl rfl rfl rfl rfl rfl (by omega) (by omega) (run_q tabOk ?_); conv => whnf) | (refine wq_sub rfl rfl rfl rfl rfl rfl (by omega) (by omega) (run_q tabOk ?_); conv => whnf) | (refine wq_cvA tabOk rfl rfl rfl (by simp only [inK]; omega) rfl rfl rfl (run_q tabOk ?_); conv => whnf) | (refine wq_cvB tabOk rfl rfl rfl rfl rfl rfl (run_q tabOk ?_); conv => whnf) | (refine wq_rem rfl rfl rfl rfl rfl rfl (by omega) (by omega) (fun r hr hr0 hr1 hr2 => run_q tabOk ?_); conv => whnf) | (refine wq_quo rfl rfl rfl rfl rfl rfl (by omega) (by omega) (by simp only [inK]; omega) (run_q tabOk ?_); conv => whnf) | (refine wq_mul rfl rfl rfl rfl rfl rfl (by omega) (by omega) (run_q tabOk ?_); conv => whnf) | (refine gs_dt (by first | assumption | omega) ?_; conv => whnf) | (refine gs_df (by first | assumption | omega) ?_; conv => whnf) | (refine gs_t (by assumption) ?_; conv => whnf) | (refine gs_f (by assumption) ?_; conv => whnf) | (refine gs_d (fun hg => ?_) (fun hg => ?_) <;> conv => whnf) | (refine gs_n (fun hg => ?_) (fun hg => ?_) <;> conv => whnf) | (refine gs_nb (fun hg => ?_) (fun hg => ?_) <;> conv => whnf) | (refine gs_b (fun hg => ?_) (fun hg => ?_) <;> conv => whnf)))
      intro w5 hC5 hB5
      have h5 := hm.all.up hB5 97
      have s5 : Stp O (newO O wr.heap.size 97) wr w5 := Stp.up hB5 97
      have hVs : ∀ a, a < 3 → ∀ x ∈ (vsM m a).ownBlock.toList, newO O wr.heap.size 97 x = 1 + a ∧ x < w5.heap.size := fun a ha x hx => by
        have : O x = 1 + a ∧ x < wr.heap.size := by
          rcases cases3 ha with rfl | rfl | rfl
          · exact hO1 x hx
          · exact hO2 x hx
          · exact hO3 x hx
        exact ⟨(newO_old this.2).trans this.1, Nat.lt_of_lt_of_le this.2 hB5.size⟩
      have hVr : ∀ a, a < 3 → ∀ x ∈ (vsM m a).ownBlock.toList, x ∈ c.gx :: (m.Vi.ownBlock.toList ++ m.Vd.ownBlock.toList ++ m.Vt.ownBlock.toList) := fun a ha x hx => by
        rcases cases3 ha with rfl | rfl | rfl
        · have hx : x ∈ m.Vi.ownBlock.toList := hx
          simp [hx]
        · have hx : x ∈ m.Vd.ownBlock.toList := hx
          simp [hx]
        · have hx : x ∈ m.Vt.ownBlock.toList := hx
          simp [hx]
      have hsz : ∀ {W : World}, Kr wr (c.gx :: (m.Vi.ownBlock.toList ++ m.Vd.ownBlock.toList ++ m.Vt.ownBlock.toList)) W → c.base ≤ W.heap.size := fun hC => Nat.le_trans hm.sz hC.size
      refine ⟨_, JJ.start (F := _) h5 rfl (by decide), ?_, ?_⟩
      · intro listed F W i o hJ hC hi hno ho hdep
        simp only [List.mem_cons, List.not_mem_nil, or_false] at hi
        rcases hi with rfl | rfl | rfl | rfl | rfl | rfl | rfl | rfl | rfl | rfl | rfl | rfl | rfl | rfl | rfl | rfl | rfl | rfl <;> cases ho
        · exact hJ.wload hC (a := 0) (by omega) (bL_of hno) rfl rfl rfl
        · exact hJ.wbox hC (hsz hC) (a := 0) (by omega) (bL_of hno) rfl rfl rfl
        · exact hJ.wone hC (a := 0) (by omega) (bL_of hno) (depsL_on hdep 8 rfl) rfl rfl
        · exact hJ.wapp hC (hsz hC) (a := 0) (by omega) (bL_of hno) (depsL_on hdep 6 rfl) (depsL_on hdep 9 rfl) (hVs 0 (by omega)) (hVr 0 (by omega)) (by omega) rfl rfl
        · exact hJ.wload hC (a := 1) (by omega) (bL_of hno) rfl rfl rfl
        · exact hJ.wbox hC (hsz hC) (a := 1) (by omega) (bL_of hno) rfl rfl rfl
        · exact hJ.wone hC (a := 1) (by omega) (bL_of hno) (depsL_on hdep 16 rfl) rfl rfl
        · exact hJ.wapp hC (hsz hC) (a := 1) (by omega) (bL_of hno) (depsL_on hdep 14 rfl) (depsL_on hdep 17 rfl) (hVs 1 (by omega)) (hVr 1 (by omega)) (by omega) rfl rfl
        · exact hJ.wload hC (a := 2) (by omega) (bL_of hno) rfl rfl rfl
        · exact hJ.wbox hC (hsz hC) (a := 2) (by omega) (bL_of hno) rfl rfl rfl
        · exact hJ.wone hC (a := 2) (by omega) (bL_of hno) (depsL_on hdep 24 rfl) rfl rfl
        · exact hJ.wapp hC (hsz hC) (a := 2) (by omega) (bL_of hno) (depsL_on hdep 22 rfl) (depsL_on hdep 25 rfl) (hVs 2 (by omega)) (hVr 2 (by omega)) (by omega) rfl rfl
        · exact hJ.wnote hC (i := 27) (s := 56) (v := ptrV c.gx) (by simp) rfl (by simp only [pureF, ev]; rw [hJ.fix 29 (by decide)]; rfl)
        · exact hJ.wnote hC (i := 28) (s := 57) (v := .pointer (some ⟨c.gx, 3, none⟩)) (by simp) rfl (by simp only [pureF, ev]; rw [hJ.q27 (depsL_on hdep 27 rfl)]; rfl)
        · exact hJ.w29 hC (by simp) (bL_of hno) ⟨depsL_on hdep 28 rfl, depsL_on hdep 10 rfl, depsL_on hdep 18 rfl, depsL_on hdep 26 rfl⟩ rfl rfl
        · exact hJ.wnote hC (i := 30) (s := 58) (v := ptrV c.gx) (by simp) rfl (by simp only [pureF, ev]; rw [hJ.fix 30 (by decide)]; rfl)
        · exact hJ.wnote hC (i := 31) (s := 59) (v := .pointer (some ⟨c.gx, 4, none⟩)) (by simp) rfl (by simp only [pureF, ev]; rw [hJ.q30 (depsL_on hdep 30 rfl)]; rfl)
        · exact hJ.w32 hC (by simp) (bL_of hno) ⟨depsL_on hdep 31 rfl, depsL_on hdep 29 rfl⟩ rfl rfl
      · intro F2 W hJ hC
        obtain ⟨hbx2, ⟨A3, c3, h55⟩, hfix, hgrow⟩ := JJ.fin hJ e3 e4 e5
        have hh : holds F2 [(1, .pointer (some ⟨g0, 0, none⟩)), (5, .pointer (some ⟨c.gx, 0, none⟩)), (26, .int .i64 c.n), (27, .int .i64 m.k), (31, .pointer (some ⟨c.gx, 0, none⟩)), (55, .slice A3 (m.k + 1) c3)] :=
          ⟨(hfix 1 (by decide)).trans rfl, (hfix 5 (by decide)).trans rfl, (hfix 26 (by decide)).trans rfl, (hfix 27 (by decide)).trans rfl, (hfix 31 (by decide)).trans rfl, h55, trivial⟩
        rw [← upds_of_holds hh]
        conv => whnf
        (repeat' (first | (refine wl_add rfl rfl rfl rfl rfl rfl (by omega) (by omega) (run_l tabOk ?_); conv => whnf) | (refine wl_sub rfl rfl rfl rfl rfl rfl (by omega) (by omega) (run_l tabOk ?_); conv => whnf) | (refine wl_cvA tabOk rfl rfl rfl (by simp only [inK]; omega) rfl rfl rfl (run_l tabOk ?_); conv => whnf) | (refine wl_cvB tabOk rfl rfl rfl rfl rfl rfl (run_l tabOk ?_); conv => whnf) | (refine wl_rem rfl rfl rfl rfl rfl rfl (by omega) (by omega) (fun r hr hr0 hr1 hr2 => run_l tabOk ?_); conv => whnf) | (refine wl_quo rfl rfl rfl rfl rfl rfl (by omega) (by omega) (by simp only [inK]; omega) (run_l tabOk ?_); conv => whnf) | (refine wl_mul rfl rfl rfl rfl rfl rfl (by omega) (by omega) (run_l tabOk ?_); conv => whnf) | (refine gs_dt (by first | assumption | omega) ?_; conv => whnf) | (refine gs_df (by first | assumption | omega) ?_; conv => whnf) | (refine gs_t (by assumption) ?_; conv => whnf) | (refine gs_f (by assumption) ?_; conv => whnf) | (refine gs_d (fun hg => ?_) (fun hg => ?_) <;> conv => whnf) | (refine gs_n (fun hg => ?_) (fun hg => ?_) <;> conv => whnf) | (refine gs_nb (fun hg => ?_) (fun hg => ?_) <;> conv => whnf) | (refine gs_b (fun hg => ?_) (fun hg => ?_) <;> conv => whnf) | refine fin1 rfl rfl ?_))
        refine wl_S (off := 5) tabOk hbx2 rfl rfl rfl rfl rfl rfl (by simp [boxV]) rfl rfl ?_
        intro W2 hp
        refine run_l tabOk ?_
        conv => whnf
        (repeat' (first | (refine wl_add rfl rfl rfl rfl rfl rfl (by omega) (by omega) (run_l tabOk ?_); conv => whnf) | (refine wl_sub rfl rfl rfl rfl rfl rfl (by omega) (by omega) (run_l tabOk ?_); conv => whnf) | (refine wl_cvA tabOk rfl rfl rfl (by simp only [inK]; omega) rfl rfl rfl (run_l tabOk ?_); conv => whnf) | (refine wl_cvB tabOk rfl rfl rfl rfl rfl rfl (run_l tabOk ?_); conv => whnf) | (refine wl_rem rfl rfl rfl rfl rfl rfl (by omega) (by omega) (fun r hr hr0 hr1 hr2 => run_l tabOk ?_); conv => whnf) | (refine wl_quo rfl rfl rfl rfl rfl rfl (by omega) (by omega) (by simp only [inK]; omega) (run_l tabOk ?_); conv => whnf) | (refine wl_mul rfl rfl rfl rfl rfl rfl (by omega) (by omega) (run_l tabOk ?_); conv => whnf) | (refine gs_dt (by first | assumption | omega) ?_; conv => whnf) | (refine gs_df (by first | assumption | omega) ?_; conv => whnf) | (refine gs_t (by assumption) ?_; conv => whnf) | (refine gs_f (by assumption) ?_; conv => whnf) | (refine gs_d (fun hg => ?_) (fun hg => ?_) <;> conv => whnf) | (refine gs_n (fun hg => ?_) (fun hg => ?_) <;> conv => whnf) | (refine gs_nb (fun hg => ?_) (fun hg => ?_) <;> conv => whnf) | (refine gs_b (fun hg => ?_) (fun hg => ?_) <;> conv => whnf) | refine fin1 rfl rfl ?_))
        obtain ⟨O', m', hall, hst, hm'⟩ := hgrow W2 (by rw [h55]; exact hp)
        have hk' : m'.k = m.k + 1 := by rw [hm']
        have hst := s5.trans hst
        exact ⟨(m.k + 1, O', m'), ⟨rfl, rfl, rfl, rfl, trivial⟩, ⟨hk'.symm, ⟨hall, hst.low hm.low hm.sz, Nat.le_trans hm.sz hst.size⟩, sm.trans hst, by simp only; omega, by rw [hm']; exact e1, by rw [hm']; exact e2, by rw [hm']; exact e3, by rw [hm']; exact e4, by rw [hm']; exact e5, by rw [hm']; exact e6, by rw [hm']; exact e7⟩, by simp only; omega⟩
    · have hg4 := blk_lt hb0
      have hb0 := (sm.fr g0 (blk_lt hb0) (by rw [hO0]; omega) (by rw [hO0]; omega)).trans hb0
      have hV : SV c O wr m := ⟨hm.all, hm.low, hm.sz, by omega, by rw [e1]; simp, by rw [e1]; simp, hn, hnc⟩
      have hwr : Below w.heap.size w wr := by
        have := (s4.trans sm).below (base := w.heap.size) (fun _ _ => rfl) (Nat.le_refl _)
        exact this
      have sr : Stp (fun _ => 99) O w wr := s4.trans sm
      have hOr : O g0 = 97 := (sm.own g0 hg4).trans hO0
      (repeat' (first | (refine wl_Lg tabOk hb0 rfl rfl rfl rfl rfl rfl rfl (run_l tabOk ?_); conv => whnf) | (refine wl_add rfl rfl rfl rfl rfl rfl (by omega) (by omega) (run_l tabOk ?_); conv => whnf) | (refine wl_sub rfl rfl rfl rfl rfl rfl (by omega) (by omega) (run_l tabOk ?_); conv => whnf) | (refine wl_cvA tabOk rfl rfl rfl (by simp only [inK]; omega) rfl rfl rfl (run_l tabOk ?_); conv => whnf) | (refine wl_cvB tabOk rfl rfl rfl rfl rfl rfl (run_l tabOk ?_); conv => whnf) | (refine wl_rem rfl rfl rfl rfl rfl rfl (by omega) (by omega) (fun r hr hr0 hr1 hr2 => run_l tabOk ?_); conv => whnf) | (refine wl_quo rfl rfl rfl rfl rfl rfl (by omega) (by omega) (by simp only [inK]; omega) (run_l tabOk ?_); conv => whnf) | (refine wl_mul rfl rfl rfl rfl rfl rfl (by omega) (by omega) (run_l tabOk ?_); conv => whnf) | (refine gs_dt (by first | assumption | omega) ?_; conv => whnf) | (refine gs_df (by first | assumption | omega) ?_; conv => whnf) | (refine gs_t (by assumption) ?_; conv => whnf) | (refine gs_f (by assumption) ?_; conv => whnf) | (refine gs_d (fun hg => ?_) (fun hg => ?_) <;> conv => whnf) | (refine gs_n (fun hg => ?_) (fun hg => ?_) <;> conv => whnf) | (refine gs_nb (fun hg => ?_) (fun hg => ?_) <;> conv => whnf) | (refine gs_b (fun hg => ?_) (fun hg => ?_) <;> conv => whnf) | refine fin1 rfl rfl ?_))
      clear hm sm s4 o97 hkl hk h4 hbox hgf hgo hB4 hO0
      have hdom0 : Dom c.n c.xs.length m.st := ⟨fun v o e => (by simp [Mem.st, e3, memB_nil] at e), fun v o e => (by simp [Mem.st, e4, memB_nil] at e), fun v o e => (by simp [Mem.st, e5, memB_nil] at e), fun v e => (by simp [Mem.st, e1] at e)⟩
      have hI0 : InvI c.sys c.n 0 m.st := ⟨hdom0, ⟨fun N _ v o e => (by simp [Mem.st, e3, memB_nil] at e), fun N _ v o e => (by simp [Mem.st, e5, memB_nil] at e)⟩, fun v o => by simp [Mem.st, e4, memB_nil], fun v _ o => by simp [Mem.st, e3, memB_nil], by simp [Mem.st, e1], e2, fun j hj => by omega, fun j hj => by omega⟩
      have hF0 : FrI c.ys c.n 0 m.fr := ⟨fun j hj => by omega, fun v j hj => (by rw [e7] at hj; cases hj), fun v => by rw [e7]; simp⟩
      clear e1 e2 e3 e4 e5 e6 e7 hdom0
      refine lp_loop tabOk (X := Nat × (Nat → Nat) × Mem) (fun y => [(1, .pointer (some ⟨g0, 0, none⟩)), (5, .pointer (some ⟨c.gx, 0, none⟩)), (64, .slice c.A2 c.ys.length c.c2), (65, .int .i64 c.ys.length), (66, .int .i64 y.1)])
        (fun y wk => y.1 ≤ c.ys.length ∧ SV c y.2.1 wk y.2.2 ∧ Stp O y.2.1 wr wk ∧ InvI c.sys c.n y.1 y.2.2.st ∧ FrI c.ys c.n y.1 y.2.2.fr) (fun y => c.ys.length - y.1) (0, O, m) ⟨rfl, rfl, rfl, rfl, rfl, trivial⟩ ⟨by simp, hV, Stp.refl _ _, hI0, hF0⟩ ?_
      clear hI0 hF0
      rintro ⟨i, Oi, mi⟩ G3 wk ⟨hi, hV2, si, hI, hF⟩
      simp only at hi hV2 si hI hF
      conv => whnf
      by_cases hil : i < c.ys.length
      · have hwk : Below w.heap.size w wk := (sr.trans si).below (base := w.heap.size) (fun _ _ => rfl) (Nat.le_refl _)
        obtain ⟨con, adC, Bc, bc, hcon, hA2, fcon, _, hRc, hck0, hck1, hca, hcb'⟩ := consE h2 i hil
        have gc := hgc i hil
        have hIc : c.sys.cons[i]! = con := hcon.out
        rw [hcon.out] at gc
        rw [hA2]
        (repeat' (first | (refine wl_Xn tabOk 66 4 rfl rfl rfl rfl rfl rfl rfl (by omega) (run_l tabOk ?_); conv => whnf) | (refine wl_La tabOk (cellsAt_up hwk fcon) rfl rfl rfl rfl rfl rfl (run_l tabOk ?_); conv => whnf) | (refine wl_add rfl rfl rfl rfl rfl rfl (by omega) (by omega) (run_l tabOk ?_); conv => whnf) | (refine wl_sub rfl rfl rfl rfl rfl rfl (by omega) (by omega) (run_l tabOk ?_); conv => whnf) | (refine wl_cvA tabOk rfl rfl rfl (by simp only [inK]; omega) rfl rfl rfl (run_l tabOk ?_); conv => whnf) | (refine wl_cvB tabOk rfl rfl rfl rfl rfl rfl (run_l tabOk ?_); conv => whnf) | (refine wl_rem rfl rfl rfl rfl rfl rfl (by omega) (by omega) (fun r hr hr0 hr1 hr2 => run_l tabOk ?_); conv => whnf) | (refine wl_quo rfl rfl rfl rfl rfl rfl (by omega) (by omega) (by simp only [inK]; omega) (run_l tabOk ?_); conv => whnf) | (refine wl_mul rfl rfl rfl rfl rfl rfl (by omega) (by omega) (run_l tabOk ?_); conv => whnf) | (refine gs_dt (by first | assumption | omega) ?_; conv => whnf) | (refine gs_df (by first | assumption | omega) ?_; conv => whnf) | (refine gs_t (by assumption) ?_; conv => whnf) | (refine gs_f (by assumption) ?_; conv => whnf) | (refine gs_d (fun hg => ?_) (fun hg => ?_) <;> conv => whnf) | (refine gs_n (fun hg => ?_) (fun hg => ?_) <;> conv => whnf) | (refine gs_nb (fun hg => ?_) (fun hg => ?_) <;> conv => whnf) | (refine gs_b (fun hg => ?_) (fun hg => ?_) <;> conv => whnf) | refine fin1 rfl rfl ?_))
        refine wl_alloc tabOk rfl rfl rfl rfl rfl rfl ?_
        intro g7 w7 hn7
        refine run_l tabOk ?_
        conv => whnf
        (repeat' (first | (refine wl_add rfl rfl rfl rfl rfl rfl (by omega) (by omega) (run_l tabOk ?_); conv => whnf) | (refine wl_sub rfl rfl rfl rfl rfl rfl (by omega) (by omega) (run_l tabOk ?_); conv => whnf) | (refine wl_cvA tabOk rfl rfl rfl (by simp only [inK]; omega) rfl rfl rfl (run_l tabOk ?_); conv => whnf) | (refine wl_cvB tabOk rfl rfl rfl rfl rfl rfl (run_l tabOk ?_); conv => whnf) | (refine wl_rem rfl rfl rfl rfl rfl rfl (by omega) (by omega) (fun r hr hr0 hr1 hr2 => run_l tabOk ?_); conv => whnf) | (refine wl_quo rfl rfl rfl rfl rfl rfl (by omega) (by omega) (by simp only [inK]; omega) (run_l tabOk ?_); conv => whnf) | (refine wl_mul rfl rfl rfl rfl rfl rfl (by omega) (by omega) (run_l tabOk ?_); conv => whnf) | (refine gs_dt (by first | assumption | omega) ?_; conv => whnf) | (refine gs_df (by first | assumption | omega) ?_; conv => whnf) | (refine gs_t (by assumption) ?_; conv => whnf) | (refine gs_f (by assumption) ?_; conv => whnf) | (refine gs_d (fun hg => ?_) (fun hg => ?_) <;> conv => whnf) | (refine gs_n (fun hg => ?_) (fun hg => ?_) <;> conv => whnf) | (refine gs_nb (fun hg => ?_) (fun hg => ?_) <;> conv => whnf) | (refine gs_b (fun hg => ?_) (fun hg => ?_) <;> conv => whnf) | refine fin1 rfl rfl ?_))
        refine wl_Sa tabOk hn7.blk rfl rfl rfl rfl rfl (by simp [Value.oneCell']) rfl rfl ?_
        intro w8 hp8
        refine run_l tabOk ?_
        conv => whnf
        have hb7 := hp8.blk
        have hB8 : Below wk.heap.size wk w8 := hp8.below hn7.below (by have := hn7.at_; omega) hn7.below.size
        have h8 := hV2.up hB8 97
        have s8 := si.trans (Stp.up (O := Oi) hB8 97)
        have hO7 : newO Oi wk.heap.size 97 g7 = 97 := newO_new (by have := hn7.at_; omega)
        clear hn7 hp8
        obtain ⟨ck, ca, cb, cargs⟩ := con
        simp only at hb7 hca hcb' gc hIc hcon hck0 hck1 hRc
        have hgb0 := gc.b0
        simp only at hgb0
        obtain ⟨vb, rfl⟩ : ∃ vb : Nat, cb = vb := ⟨cb.toNat, by omega⟩
        (repeat' (first | (refine wl_Lg tabOk hb7 rfl rfl rfl rfl rfl rfl rfl (run_l tabOk ?_); conv => whnf) | (refine wl_add rfl rfl rfl rfl rfl rfl (by omega) (by omega) (run_l tabOk ?_); conv => whnf) | (refine wl_sub rfl rfl rfl rfl rfl rfl (by omega) (by omega) (run_l tabOk ?_); conv => whnf) | (refine wl_cvA tabOk rfl rfl rfl (by simp only [inK]; omega) rfl rfl rfl (run_l tabOk ?_); conv => whnf) | (refine wl_cvB tabOk rfl rfl rfl rfl rfl rfl (run_l tabOk ?_); conv => whnf) | (refine wl_rem rfl rfl rfl rfl rfl rfl (by omega) (by omega) (fun r hr hr0 hr1 hr2 => run_l tabOk ?_); conv => whnf) | (refine wl_quo rfl rfl rfl rfl rfl rfl (by omega) (by omega) (by simp only [inK]; omega) (run_l tabOk ?_); conv => whnf) | (refine wl_mul rfl rfl rfl rfl rfl rfl (by omega) (by omega) (run_l tabOk ?_); conv => whnf) | (refine gs_dt (by first | assumption | omega) ?_; conv => whnf) | (refine gs_df (by first | assumption | omega) ?_; conv => whnf) | (refine gs_t (by assumption) ?_; conv => whnf) | (refine gs_f (by assumption) ?_; conv => whnf) | (refine gs_d (fun hg => ?_) (fun hg => ?_) <;> conv => whnf) | (refine gs_n (fun hg => ?_) (fun hg => ?_) <;> conv => whnf) | (refine gs_nb (fun hg => ?_) (fun hg => ?_) <;> conv => whnf) | (refine gs_b (fun hg => ?_) (fun hg => ?_) <;> conv => whnf) | refine fin1 rfl rfl ?_))
        · have hk : ck = 1 := by assumption
          have hga := gc.a0 (by simp only; omega)
          have hga2 := gc.a
          have hgb2 := gc.b1 hk
          simp only at hga hga2 hgb2
          obtain ⟨va, rfl⟩ : ∃ va : Nat, ca = va := ⟨ca.toNat, by omega⟩
          have hva : va < c.n := by omega
          have hvb : vb < c.xs.length := by omega
          obtain ⟨hri, _⟩ := h8.rowI
          obtain ⟨g1, cap1, cur1, hVi, _, _, hcell1, _, _⟩ := hri.form hva
          obtain ⟨fi, hP, hPO⟩ := h8.setI hva
          have hbx := h8.box.1
          unfold boxV at hbx
          rw [hVi] at hbx
          have hc1 := hcell1 va hva
          unfold ptrV at hc1
          have hl1 := blk_len hP.wf (N := c.xs.length) (fun o ho => (hI.dom.inn va o ho).2)
          refine wc_qt 10 10 (stable_Bw _) tabOk mixed (by kernel_rfl) rfl (Below.refl _ _) ?_; conv => whnf
          (repeat' (first | (refine wq_Lg tabOk hbx rfl rfl rfl rfl rfl rfl rfl (run_q tabOk ?_); conv => whnf) | (refine wq_Lg tabOk hb7 rfl rfl rfl rfl rfl rfl rfl (run_q tabOk ?_); conv => whnf) | (refine wq_L tabOk rfl rfl rfl rfl rfl rfl hc1 (run_q tabOk ?_); conv => whnf) | (refine wq_Xn tabOk 88 1 rfl rfl rfl rfl rfl rfl rfl (by omega) (run_q tabOk ?_); conv => whnf) | (refine wq_add rfl rfl rfl rfl rfl rfl (by omega) (by omega) (run_q tabOk ?_); conv => whnf) | (refine wq_sub rfl rfl rfl rfl rfl rfl (by omega) (by omega) (run_q tabOk ?_); conv => whnf) | (refine wq_cvA tabOk rfl rfl rfl (by simp only [inK]; omega) rfl rfl rfl (run_q tabOk ?_); conv => whnf) | (refine wq_cvB tabOk rfl rfl rfl rfl rfl rfl (run_q tabOk ?_); conv => whnf) | (refine wq_rem rfl rfl rfl rfl rfl rfl (by omega) (by omega) (fun r hr hr0 hr1 hr2 => run_q tabOk ?_); conv => whnf) | (refine wq_quo rfl rfl rfl rfl rfl rfl (by omega) (by omega) (by simp only [inK]; omega) (run_q tabOk ?_); conv => whnf) | (refine wq_mul rfl rfl rfl rfl rfl rfl (by omega) (by omega) (run_q tabOk ?_); conv => whnf) | (refine gs_dt (by first | assumption | omega) ?_; conv => whnf) | (refine gs_df (by first | assumption | omega) ?_; conv => whnf) | (refine gs_t (by assumption) ?_; conv => whnf) | (refine gs_f (by assumption) ?_; conv => whnf) | (refine gs_d (fun hg => ?_) (fun hg => ?_) <;> conv => whnf) | (refine gs_n (fun hg => ?_) (fun hg => ?_) <;> conv => whnf) | (refine gs_nb (fun hg => ?_) (fun hg => ?_) <;> conv => whnf) | (refine gs_b (fun hg => ?_) (fun hg => ?_) <;> conv => whnf)))
          intro w9 _ hB9
          conv => whnf
          have h9 := h8.up hB9 97
          have hlt := hP.lt
          refine wl_C fn47 (pAdd (hP.up hB9) (vb : Int) (by omega) (by omega) h9.sz) rfl rfl rfl rfl rfl rfl rfl ?_
          rintro _ w10 ⟨bs', fp', hA⟩
          have hret := hA.ret
          rw [decide_eq_true (by omega : (0 : Int) ≤ (vb : Int)), Bool.true_and, Int.toNat_natCast] at hret
          rw [hret]
          refine ⟨_, rfl, run_l tabOk ?_⟩
          conv => whnf
          have hPO9 : ∀ b ∈ fi, newO (newO Oi wk.heap.size 97) w8.heap.size 97 b = 100 + 4 * va := fun b hb => (newO_old (hlt b hb).2).trans (hPO b hb)
          obtain ⟨O10, h10, s10⟩ := h9.joined (O1 := Oi) (w := wk) (fp := fi) hva hA.kept hPO9 hA.set (fun b hb => (hA.new b hb).elim (fun e => .inl (hPO9 b e)) .inr)
          have s10 := s8.trans ((Stp.up hB9 97).trans s10)
          have hinn : ∀ x o, memB (setN mi.bi va bs' x) o = (memB (mi.bi x) o || (decide (x = va) && decide (o = vb))) := fun x o => by
            unfold setN
            by_cases e : x = va
            · subst e; rw [if_pos rfl, hA.mem]; simp [show ((vb : Int) = (o : Int)) ↔ (o = vb) by omega]
            · rw [if_neg e]; simp [e]
          have fin : ∀ {O' : Nat → Nat} {m' : Mem} {W : World}, SV c O' W m' → Stp O O' wr W → FlowR va (fun o => decide (o = vb)) mi.st m'.st → m'.fr = mi.fr → SV c O' W m' ∧ Stp O O' wr W ∧ InvI c.sys c.n (i + 1) m'.st ∧ FrI c.ys c.n (i + 1) m'.fr := fun q1 q2 q3 q4 =>
            ⟨q1, q2, hI.flow hil (by rw [hIc]; exact hk) (a := va) (b := vb) (by rw [hIc]) (by rw [hIc]) hva hvb q3, by rw [q4]; exact hF.skip (.inl (by rw [hcon.out]; exact hk))⟩
          have hb10 := hA.kept.blk (blk_up hB9 hb7) (fun hm => by have := hPO _ hm; rw [hO7] at this; omega)
          (repeat' (first | (refine wl_Lg tabOk hb10 rfl rfl rfl rfl rfl rfl rfl (run_l tabOk ?_); conv => whnf) | (refine wl_add rfl rfl rfl rfl rfl rfl (by omega) (by omega) (run_l tabOk ?_); conv => whnf) | (refine wl_sub rfl rfl rfl rfl rfl rfl (by omega) (by omega) (run_l tabOk ?_); conv => whnf) | (refine wl_cvA tabOk rfl rfl rfl (by simp only [inK]; omega) rfl rfl rfl (run_l tabOk ?_); conv => whnf) | (refine wl_cvB tabOk rfl rfl rfl rfl rfl rfl (run_l tabOk ?_); conv => whnf) | (refine wl_rem rfl rfl rfl rfl rfl rfl (by omega) (by omega) (fun r hr hr0 hr1 hr2 => run_l tabOk ?_); conv => whnf) | (refine wl_quo rfl rfl rfl rfl rfl rfl (by omega) (by omega) (by simp only [inK]; omega) (run_l tabOk ?_); conv => whnf) | (refine wl_mul rfl rfl rfl rfl rfl rfl (by omega) (by omega) (run_l tabOk ?_); conv => whnf) | (refine gs_dt (by first | assumption | omega) ?_; conv => whnf) | (refine gs_df (by first | assumption | omega) ?_; conv => whnf) | (refine gs_t (by assumption) ?_; conv => whnf) | (refine gs_f (by assumption) ?_; conv => whnf) | (refine gs_d (fun hg => ?_) (fun hg => ?_) <;> conv => whnf) | (refine gs_n (fun hg => ?_) (fun hg => ?_) <;> conv => whnf) | (refine gs_nb (fun hg => ?_) (fun hg => ?_) <;> conv => whnf) | (refine gs_b (fun hg => ?_) (fun hg => ?_) <;> conv => whnf) | refine fin1 rfl rfl ?_))
          · have hnew : memB (mi.bi va) vb = false := by assumption
            refine wl_C fn48 (sPush h10 va hva) rfl rfl rfl rfl rfl rfl rfl ?_
            rintro _ w11 ⟨rfl, O11, V11, h11, s11⟩
            refine ⟨_, rfl, run_l tabOk ?_⟩
            conv => whnf
            (repeat' (first | (refine wl_add rfl rfl rfl rfl rfl rfl (by omega) (by omega) (run_l tabOk ?_); conv => whnf) | (refine wl_sub rfl rfl rfl rfl rfl rfl (by omega) (by omega) (run_l tabOk ?_); conv => whnf) | (refine wl_cvA tabOk rfl rfl rfl (by simp only [inK]; omega) rfl rfl rfl (run_l tabOk ?_); conv => whnf) | (refine wl_cvB tabOk rfl rfl rfl rfl rfl rfl (run_l tabOk ?_); conv => whnf) | (refine wl_rem rfl rfl rfl rfl rfl rfl (by omega) (by omega) (fun r hr hr0 hr1 hr2 => run_l tabOk ?_); conv => whnf) | (refine wl_quo rfl rfl rfl rfl rfl rfl (by omega) (by omega) (by simp only [inK]; omega) (run_l tabOk ?_); conv => whnf) | (refine wl_mul rfl rfl rfl rfl rfl rfl (by omega) (by omega) (run_l tabOk ?_); conv => whnf) | (refine gs_dt (by first | assumption | omega) ?_; conv => whnf) | (refine gs_df (by first | assumption | omega) ?_; conv => whnf) | (refine gs_t (by assumption) ?_; conv => whnf) | (refine gs_f (by assumption) ?_; conv => whnf) | (refine gs_d (fun hg => ?_) (fun hg => ?_) <;> conv => whnf) | (refine gs_n (fun hg => ?_) (fun hg => ?_) <;> conv => whnf) | (refine gs_nb (fun hg => ?_) (fun hg => ?_) <;> conv => whnf) | (refine gs_b (fun hg => ?_) (fun hg => ?_) <;> conv => whnf) | refine fin1 rfl rfl ?_))
            obtain ⟨q1, q2, q3, q4⟩ := fin h11 (s10.trans s11) ⟨hinn, rfl, rfl, rfl, by
              by_cases hm : va ∈ mi.wk
              · exact .inl ⟨if_pos hm, .inr hm⟩
              · exact .inr ⟨if_neg hm, vb, hnew, by simp⟩⟩ rfl
            exact ⟨(i + 1, O11, _), ⟨rfl, rfl, rfl, rfl, rfl, trivial⟩, ⟨by simp only; omega, q1, q2, q3, q4⟩, by simp only; omega⟩
          · have hold : memB (mi.bi va) vb = true := by assumption
            obtain ⟨q1, q2, q3, q4⟩ := fin h10 s10 ⟨hinn, rfl, rfl, rfl, .inl ⟨rfl, .inl (by
              funext o
              show memB (setN mi.bi va bs' va) o = memB (mi.bi va) o
              rw [hinn]
              by_cases e : o = vb
              · subst e; simp [hold]
              · simp [e])⟩⟩ rfl
            exact ⟨(i + 1, O10, _), ⟨rfl, rfl, rfl, rfl, rfl, trivial⟩, ⟨by simp only; omega, q1, q2, q3, q4⟩, by simp only; omega⟩
        · have hk : ck = 2 := by assumption
          have hga := gc.a0 (by simp only; omega)
          have hga2 := gc.a
          have hgb2 := gc.b (by simp only; omega)
          simp only at hga hga2 hgb2
          obtain ⟨va, rfl⟩ : ∃ va : Nat, ca = va := ⟨ca.toNat, by omega⟩
          have hva : va < c.n := by omega
          have hvb : vb < c.n := by omega
          obtain ⟨hrt, _⟩ := h8.rowT
          obtain ⟨g1, cap1, cur1, hVt, _, _, hcell1, _, _⟩ := hrt.form hvb
          obtain ⟨fi, hP, hPO⟩ := h8.setT hvb
          have hbx := h8.box.1
          unfold boxV at hbx
          rw [hVt] at hbx
          have hc1 := hcell1 vb hvb
          unfold ptrV at hc1
          have hl1 := blk_len hP.wf (N := c.n) (fun o ho => (hI.dom.too vb o ho).2)
          refine wc_qt 10 10 (stable_Bw _) tabOk mixed (by kernel_rfl) rfl (Below.refl _ _) ?_; conv => whnf
          (repeat' (first | (refine wq_Lg tabOk hbx rfl rfl rfl rfl rfl rfl rfl (run_q tabOk ?_); conv => whnf) | (refine wq_Lg tabOk hb7 rfl rfl rfl rfl rfl rfl rfl (run_q tabOk ?_); conv => whnf) | (refine wq_L tabOk rfl rfl rfl rfl rfl rfl hc1 (run_q tabOk ?_); conv => whnf) | (refine wq_Xn tabOk 88 1 rfl rfl rfl rfl rfl rfl rfl (by omega) (run_q tabOk ?_); conv => whnf) | (refine wq_add rfl rfl rfl rfl rfl rfl (by omega) (by omega) (run_q tabOk ?_); conv => whnf) | (refine wq_sub rfl rfl rfl rfl rfl rfl (by omega) (by omega) (run_q tabOk ?_); conv => whnf) | (refine wq_cvA tabOk rfl rfl rfl (by simp only [inK]; omega) rfl rfl rfl (run_q tabOk ?_); conv => whnf) | (refine wq_cvB tabOk rfl rfl rfl rfl rfl rfl (run_q tabOk ?_); conv => whnf) | (refine wq_rem rfl rfl rfl rfl rfl rfl (by omega) (by omega) (fun r hr hr0 hr1 hr2 => run_q tabOk ?_); conv => whnf) | (refine wq_quo rfl rfl rfl rfl rfl rfl (by omega) (by omega) (by simp only [inK]; omega) (run_q tabOk ?_); conv => whnf) | (refine wq_mul rfl rfl rfl rfl rfl rfl (by omega) (by omega) (run_q tabOk ?_); conv => whnf) | (refine gs_dt (by first | assumption | omega) ?_; conv => whnf) | (refine gs_df (by first | assumption | omega) ?_; conv => whnf) | (refine gs_t (by assumption) ?_; conv => whnf) | (refine gs_f (by assumption) ?_; conv => whnf) | (refine gs_d (fun hg => ?_) (fun hg => ?_) <;> conv => whnf) | (refine gs_n (fun hg => ?_) (fun hg => ?_) <;> conv => whnf) | (refine gs_nb (fun hg => ?_) (fun hg => ?_) <;> conv => whnf) | (refine gs_b (fun hg => ?_) (fun hg => ?_) <;> conv => whnf)))
          intro w9 _ hB9
          conv => whnf
          have h9 := h8.up hB9 97
          have hlt := hP.lt
          refine wl_C fn47 (pAdd (hP.up hB9) (va : Int) (by omega) (by omega) h9.sz) rfl rfl rfl rfl rfl rfl rfl ?_
          rintro _ w10 ⟨bs', fp', hA⟩
          rw [hA.ret]
          refine ⟨_, rfl, run_l tabOk ?_⟩
          conv => whnf
          have hPO9 : ∀ b ∈ fi, newO (newO Oi wk.heap.size 97) w8.heap.size 97 b = 100 + 4 * vb + 2 := fun b hb => (newO_old (hlt b hb).2).trans (hPO b hb)
          obtain ⟨O10, h10, s10⟩ := h9.toAdded hvb hA.kept hPO9 hA.set (fun b hb => (hA.new b hb).elim (fun e => .inl (hPO9 b e)) .inr)
          have s10 := s8.trans ((Stp.up hB9 97).trans s10)
          have htoo : ∀ x y, memB (setN mi.bt vb bs' x) y = (memB (mi.bt x) y || (decide (x = vb) && decide (y = va))) := fun x y => by
            unfold setN
            by_cases e : x = vb
            · subst e; rw [if_pos rfl, hA.mem]; simp [show ((va : Int) = (y : Int)) ↔ (y = va) by omega]
            · rw [if_neg e]; simp [e]
          (repeat' (first | (refine wl_add rfl rfl rfl rfl rfl rfl (by omega) (by omega) (run_l tabOk ?_); conv => whnf) | (refine wl_sub rfl rfl rfl rfl rfl rfl (by omega) (by omega) (run_l tabOk ?_); conv => whnf) | (refine wl_cvA tabOk rfl rfl rfl (by simp only [inK]; omega) rfl rfl rfl (run_l tabOk ?_); conv => whnf) | (refine wl_cvB tabOk rfl rfl rfl rfl rfl rfl (run_l tabOk ?_); conv => whnf) | (refine wl_rem rfl rfl rfl rfl rfl rfl (by omega) (by omega) (fun r hr hr0 hr1 hr2 => run_l tabOk ?_); conv => whnf) | (refine wl_quo rfl rfl rfl rfl rfl rfl (by omega) (by omega) (by simp only [inK]; omega) (run_l tabOk ?_); conv => whnf) | (refine wl_mul rfl rfl rfl rfl rfl rfl (by omega) (by omega) (run_l tabOk ?_); conv => whnf) | (refine gs_dt (by first | assumption | omega) ?_; conv => whnf) | (refine gs_df (by first | assumption | omega) ?_; conv => whnf) | (refine gs_t (by assumption) ?_; conv => whnf) | (refine gs_f (by assumption) ?_; conv => whnf) | (refine gs_d (fun hg => ?_) (fun hg => ?_) <;> conv => whnf) | (refine gs_n (fun hg => ?_) (fun hg => ?_) <;> conv => whnf) | (refine gs_nb (fun hg => ?_) (fun hg => ?_) <;> conv => whnf) | (refine gs_b (fun hg => ?_) (fun hg => ?_) <;> conv => whnf) | refine fin1 rfl rfl ?_))
          exact ⟨(i + 1, O10, _), ⟨rfl, rfl, rfl, rfl, rfl, trivial⟩, ⟨by simp only; omega, h10, s10, hI.edge hil (by rw [hIc]; exact hk) (a := va) (b := vb) (by rw [hIc]) (by rw [hIc]) hva hvb rfl rfl htoo rfl rfl, hF.skip (.inr (by rw [hcon.out]; exact hk))⟩, by simp only; omega⟩
        · have hk : ck = 4 := by assumption
          have hga := gc.a0 (by simp only; omega)
          simp only at hga
          obtain ⟨va, rfl⟩ : ∃ va : Nat, ca = va := ⟨ca.toNat, by omega⟩
          have hk1 : ¬ ck = 1 := by assumption
          have hk2 : ¬ ck = 2 := by assumption
          have hsrc : srcOf c.ys[i]! = va := by rw [hcon.out]; unfold srcOf; simp only; rw [if_pos (by assumption)]; simp
          have hvn : va < c.n := by have := gc.a; simp only at this; omega
          obtain ⟨ff, hq, hqO⟩ := h8.fromR hvn
          obtain ⟨AF, cF, hVr, _⟩ := hq.form
          rw [hVr] at hq
          obtain ⟨hfB, hfO⟩ := h8.fromB
          obtain ⟨hbx, hbO⟩ := h8.box
          have hbx' := hbx
          unfold boxV at hbx'
          have n1 : c.gx ∉ ff := fun hm => by have := hqO _ hm; rw [hbO] at this; omega
          have n2 : g7 ∉ ff := fun hm => by have := hqO _ hm; rw [hO7] at this; omega
          have n3 : mi.gf ∉ ff := fun hm => by have := hqO _ hm; rw [hfO] at this; omega
          have hbC : ∀ w', Kr w8 ff w' → w'.heap[c.gx]? = _ := fun w' h' => h'.blk hbx' n1
          have h7C : ∀ w', Kr w8 ff w' → w'.heap[g7]? = _ := fun w' h' => h'.blk hb7 n2
          have hcC : ∀ w', Kr w8 ff w' → w'.cell? ((⟨mi.gf, 0, none⟩ : Addr).add (va * 1)) = some (.slice AF (mi.fr va).length cF) := fun w' h' => by
            rw [Nat.mul_one, add_zero]
            refine cell_blk (h'.blk hfB n3) ?_
            simp [hvn, hVr]
          have hfl := hF.len va
          have hqlt := hq.lt
          refine wc_qx [0, 1, 2, 3, 4, 5, 6, 7, 8, 9, 10, 11, 12, 13, 14] 2 17 (stable_Kr _ (ff)) tabOk mixed (by kernel_rfl) (Kept.refl _ _) ?_; (conv => whnf)
          (repeat' (first | (refine wq_LgC tabOk hbC rfl rfl rfl rfl rfl rfl rfl (run_q tabOk ?_); conv => whnf) | (refine wq_LgC tabOk h7C rfl rfl rfl rfl rfl rfl rfl (run_q tabOk ?_); conv => whnf) | (refine wq_LC tabOk hcC rfl rfl rfl rfl rfl rfl (run_q tabOk ?_); conv => whnf) | (refine wq_Xn tabOk 46 1 rfl rfl rfl rfl rfl rfl rfl (by omega) (run_q tabOk ?_); conv => whnf) | (refine wq_add rfl rfl rfl rfl rfl rfl (by omega) (by omega) (run_q tabOk ?_); conv => whnf) | (refine wq_sub rfl rfl rfl rfl rfl rfl (by omega) (by omega) (run_q tabOk ?_); conv => whnf) | (refine wq_cvA tabOk rfl rfl rfl (by simp only [inK]; omega) rfl rfl rfl (run_q tabOk ?_); conv => whnf) | (refine wq_cvB tabOk rfl rfl rfl rfl rfl rfl (run_q tabOk ?_); conv => whnf) | (refine wq_rem rfl rfl rfl rfl rfl rfl (by omega) (by omega) (fun r hr hr0 hr1 hr2 => run_q tabOk ?_); conv => whnf) | (refine wq_quo rfl rfl rfl rfl rfl rfl (by omega) (by omega) (by simp only [inK]; omega) (run_q tabOk ?_); conv => whnf) | (refine wq_mul rfl rfl rfl rfl rfl rfl (by omega) (by omega) (run_q tabOk ?_); conv => whnf) | (refine gs_dt (by first | assumption | omega) ?_; conv => whnf) | (refine gs_df (by first | assumption | omega) ?_; conv => whnf) | (refine gs_t (by assumption) ?_; conv => whnf) | (refine gs_f (by assumption) ?_; conv => whnf) | (refine gs_d (fun hg => ?_) (fun hg => ?_) <;> conv => whnf) | (refine gs_n (fun hg => ?_) (fun hg => ?_) <;> conv => whnf) | (refine gs_nb (fun hg => ?_) (fun hg => ?_) <;> conv => whnf) | (refine gs_b (fun hg => ?_) (fun hg => ?_) <;> conv => whnf)))
          intro W hC hBW
          conv => whnf
          refine And.intro ?_ True.intro
          conv => whnf
          refine wb_a (wa_bs tabOk 3 1 rfl rfl rfl rfl rfl rfl rfl rfl rfl ?_)
          intro gn W1 hn1
          refine ⟨hC.up hn1.below, fun W2 hB2 hC2 => ?_⟩
          have hBz := bup (bup hBW hn1.below) hB2
          have hb1 := blk_up hB2 hn1.blk
          have h9 := h8.up hBz 97
          clear hC hn1
          conv => whnf
          refine And.intro ?_ True.intro
          conv => whnf
          have hq2 := hq.keep (w1 := W2) fun b hb => hBz.block b (hqlt b hb).2
          refine wb_a (wa_q (v := i) hq2 hb1 rfl rfl rfl rfl rfl rfl rfl rfl (by omega) h9.sz ?_)
          intro A3 cap3 W3 fp3 hq3 hk3 hf3
          refine ⟨(hC2.trans hk3 (fun b hb => .inl hb)), fun W4 hB4 hC4 => ?_⟩
          conv => whnf
          (repeat' (first | (refine wl_Xn tabOk 46 1 rfl rfl rfl rfl rfl rfl rfl (by omega) (run_l tabOk ?_); conv => whnf) | (refine wl_add rfl rfl rfl rfl rfl rfl (by omega) (by omega) (run_l tabOk ?_); conv => whnf) | (refine wl_sub rfl rfl rfl rfl rfl rfl (by omega) (by omega) (run_l tabOk ?_); conv => whnf) | (refine wl_cvA tabOk rfl rfl rfl (by simp only [inK]; omega) rfl rfl rfl (run_l tabOk ?_); conv => whnf) | (refine wl_cvB tabOk rfl rfl rfl rfl rfl rfl (run_l tabOk ?_); conv => whnf) | (refine wl_rem rfl rfl rfl rfl rfl rfl (by omega) (by omega) (fun r hr hr0 hr1 hr2 => run_l tabOk ?_); conv => whnf) | (refine wl_quo rfl rfl rfl rfl rfl rfl (by omega) (by omega) (by simp only [inK]; omega) (run_l tabOk ?_); conv => whnf) | (refine wl_mul rfl rfl rfl rfl rfl rfl (by omega) (by omega) (run_l tabOk ?_); conv => whnf) | (refine gs_dt (by first | assumption | omega) ?_; conv => whnf) | (refine gs_df (by first | assumption | omega) ?_; conv => whnf) | (refine gs_t (by assumption) ?_; conv => whnf) | (refine gs_f (by assumption) ?_; conv => whnf) | (refine gs_d (fun hg => ?_) (fun hg => ?_) <;> conv => whnf) | (refine gs_n (fun hg => ?_) (fun hg => ?_) <;> conv => whnf) | (refine gs_nb (fun hg => ?_) (fun hg => ?_) <;> conv => whnf) | (refine gs_b (fun hg => ?_) (fun hg => ?_) <;> conv => whnf) | refine fin1 rfl rfl ?_))
          refine wl_Se (v := .slice A3 ((mi.fr va).length + 1) cap3) tabOk (hC4.blk hfB n3) rfl rfl rfl rfl rfl rfl (by simp; omega) rfl rfl ?_
          intro W5 hp5
          refine run_l tabOk ?_
          conv => whnf
          (repeat' (first | (refine wl_add rfl rfl rfl rfl rfl rfl (by omega) (by omega) (run_l tabOk ?_); conv => whnf) | (refine wl_sub rfl rfl rfl rfl rfl rfl (by omega) (by omega) (run_l tabOk ?_); conv => whnf) | (refine wl_cvA tabOk rfl rfl rfl (by simp only [inK]; omega) rfl rfl rfl (run_l tabOk ?_); conv => whnf) | (refine wl_cvB tabOk rfl rfl rfl rfl rfl rfl (run_l tabOk ?_); conv => whnf) | (refine wl_rem rfl rfl rfl rfl rfl rfl (by omega) (by omega) (fun r hr hr0 hr1 hr2 => run_l tabOk ?_); conv => whnf) | (refine wl_quo rfl rfl rfl rfl rfl rfl (by omega) (by omega) (by simp only [inK]; omega) (run_l tabOk ?_); conv => whnf) | (refine wl_mul rfl rfl rfl rfl rfl rfl (by omega) (by omega) (run_l tabOk ?_); conv => whnf) | (refine gs_dt (by first | assumption | omega) ?_; conv => whnf) | (refine gs_df (by first | assumption | omega) ?_; conv => whnf) | (refine gs_t (by assumption) ?_; conv => whnf) | (refine gs_f (by assumption) ?_; conv => whnf) | (refine gs_d (fun hg => ?_) (fun hg => ?_) <;> conv => whnf) | (refine gs_n (fun hg => ?_) (fun hg => ?_) <;> conv => whnf) | (refine gs_nb (fun hg => ?_) (fun hg => ?_) <;> conv => whnf) | (refine gs_b (fun hg => ?_) (fun hg => ?_) <;> conv => whnf) | refine fin1 rfl rfl ?_))
          obtain ⟨O9, h9', s9⟩ := h9.fromPut (i := i) hvn hk3 (fun b hb => (newO_old (hqlt b hb).2).trans (hqO b hb)) hq3 hf3 hB4 (by rw [Nat.mul_one] at hp5; exact hp5)
          have hpush := hF.push (by rw [hcon.out]; exact hk1) (by rw [hcon.out]; exact hk2)
          rw [hsrc] at hpush
          exact ⟨(i + 1, O9, _), ⟨rfl, rfl, rfl, rfl, rfl, trivial⟩, ⟨by simp only; omega, h9', s8.trans ((Stp.up hBz 97).trans s9), hI.skip (by rw [hIc]; exact hk1) (by rw [hIc]; exact hk2), hpush⟩, by simp only; omega⟩
        · have hk1 : ¬ ck = 1 := by assumption
          have hk2 : ¬ ck = 2 := by assumption
          have hsrc : srcOf c.ys[i]! = vb := by rw [hcon.out]; unfold srcOf; simp only; rw [if_neg (by assumption)]; simp
          have hvn : vb < c.n := by have := gc.b (by have := gc.k; simp only at this ⊢; omega); simp only at this; omega
          obtain ⟨ff, hq, hqO⟩ := h8.fromR hvn
          obtain ⟨AF, cF, hVr, _⟩ := hq.form
          rw [hVr] at hq
          obtain ⟨hfB, hfO⟩ := h8.fromB
          obtain ⟨hbx, hbO⟩ := h8.box
          have hbx' := hbx
          unfold boxV at hbx'
          have n1 : c.gx ∉ ff := fun hm => by have := hqO _ hm; rw [hbO] at this; omega
          have n2 : g7 ∉ ff := fun hm => by have := hqO _ hm; rw [hO7] at this; omega
          have n3 : mi.gf ∉ ff := fun hm => by have := hqO _ hm; rw [hfO] at this; omega
          have hbC : ∀ w', Kr w8 ff w' → w'.heap[c.gx]? = _ := fun w' h' => h'.blk hbx' n1
          have h7C : ∀ w', Kr w8 ff w' → w'.heap[g7]? = _ := fun w' h' => h'.blk hb7 n2
          have hcC : ∀ w', Kr w8 ff w' → w'.cell? ((⟨mi.gf, 0, none⟩ : Addr).add (vb * 1)) = some (.slice AF (mi.fr vb).length cF) := fun w' h' => by
            rw [Nat.mul_one, add_zero]
            refine cell_blk (h'.blk hfB n3) ?_
            simp [hvn, hVr]
          have hfl := hF.len vb
          have hqlt := hq.lt
          refine wc_qx [0, 1, 2, 3, 4, 5, 6, 7, 8, 9, 10, 11, 12, 13, 14] 2 17 (stable_Kr _ (ff)) tabOk mixed (by kernel_rfl) (Kept.refl _ _) ?_; (conv => whnf)
          (repeat' (first | (refine wq_LgC tabOk hbC rfl rfl rfl rfl rfl rfl rfl (run_q tabOk ?_); conv => whnf) | (refine wq_LgC tabOk h7C rfl rfl rfl rfl rfl rfl rfl (run_q tabOk ?_); conv => whnf) | (refine wq_LC tabOk hcC rfl rfl rfl rfl rfl rfl (run_q tabOk ?_); conv => whnf) | (refine wq_Xn tabOk 46 1 rfl rfl rfl rfl rfl rfl rfl (by omega) (run_q tabOk ?_); conv => whnf) | (refine wq_add rfl rfl rfl rfl rfl rfl (by omega) (by omega) (run_q tabOk ?_); conv => whnf) | (refine wq_sub rfl rfl rfl rfl rfl rfl (by omega) (by omega) (run_q tabOk ?_); conv => whnf) | (refine wq_cvA tabOk rfl rfl rfl (by simp only [inK]; omega) rfl rfl rfl (run_q tabOk ?_); conv => whnf) | (refine wq_cvB tabOk rfl rfl rfl rfl rfl rfl (run_q tabOk ?_); conv => whnf) | (refine wq_rem rfl rfl rfl rfl rfl rfl (by omega) (by omega) (fun r hr hr0 hr1 hr2 => run_q tabOk ?_); conv => whnf) | (refine wq_quo rfl rfl rfl rfl rfl rfl (by omega) (by omega) (by simp only [inK]; omega) (run_q tabOk ?_); conv => whnf) | (refine wq_mul rfl rfl rfl rfl rfl rfl (by omega) (by omega) (run_q tabOk ?_); conv => whnf) | (refine gs_dt (by first | assumption | omega) ?_; conv => whnf) | (refine gs_df (by first | assumption | omega) ?_; conv => whnf) | (refine gs_t (by assumption) ?_; conv => whnf) | (refine gs_f (by assumption) ?_; conv => whnf) | (refine gs_d (fun hg => ?_) (fun hg => ?_) <;> conv => whnf) | (refine gs_n (fun hg => ?_) (fun hg => ?_) <;> conv => whnf) | (refine gs_nb (fun hg => ?_) (fun hg => ?_) <;> conv => whnf) | (refine gs_b (fun hg => ?_) (fun hg => ?_) <;> conv => whnf)))
          intro W hC hBW
          conv => whnf
          refine And.intro ?_ True.intro
          conv => whnf
          refine wb_a (wa_bs tabOk 3 1 rfl rfl rfl rfl rfl rfl rfl rfl rfl ?_)
          intro gn W1 hn1
          refine ⟨hC.up hn1.below, fun W2 hB2 hC2 => ?_⟩
          have hBz := bup (bup hBW hn1.below) hB2
          have hb1 := blk_up hB2 hn1.blk
          have h9 := h8.up hBz 97
          clear hC hn1
          conv => whnf
          refine And.intro ?_ True.intro
          conv => whnf
          have hq2 := hq.keep (w1 := W2) fun b hb => hBz.block b (hqlt b hb).2
          refine wb_a (wa_q (v := i) hq2 hb1 rfl rfl rfl rfl rfl rfl rfl rfl (by omega) h9.sz ?_)
          intro A3 cap3 W3 fp3 hq3 hk3 hf3
          refine ⟨(hC2.trans hk3 (fun b hb => .inl hb)), fun W4 hB4 hC4 => ?_⟩
          conv => whnf
          (repeat' (first | (refine wl_Xn tabOk 46 1 rfl rfl rfl rfl rfl rfl rfl (by omega) (run_l tabOk ?_); conv => whnf) | (refine wl_add rfl rfl rfl rfl rfl rfl (by omega) (by omega) (run_l tabOk ?_); conv => whnf) | (refine wl_sub rfl rfl rfl rfl rfl rfl (by omega) (by omega) (run_l tabOk ?_); conv => whnf) | (refine wl_cvA tabOk rfl rfl rfl (by simp only [inK]; omega) rfl rfl rfl (run_l tabOk ?_); conv => whnf) | (refine wl_cvB tabOk rfl rfl rfl rfl rfl rfl (run_l tabOk ?_); conv => whnf) | (refine wl_rem rfl rfl rfl rfl rfl rfl (by omega) (by omega) (fun r hr hr0 hr1 hr2 => run_l tabOk ?_); conv => whnf) | (refine wl_quo rfl rfl rfl rfl rfl rfl (by omega) (by omega) (by simp only [inK]; omega) (run_l tabOk ?_); conv => whnf) | (refine wl_mul rfl rfl rfl rfl rfl rfl (by omega) (by omega) (run_l tabOk ?_); conv => whnf) | (refine gs_dt (by first | assumption | omega) ?_; conv => whnf) | (refine gs_df (by first | assumption | omega) ?_; conv => whnf) | (refine gs_t (by assumption) ?_; conv => whnf) | (refine gs_f (by assumption) ?_; conv => whnf) | (refine gs_d (fun hg => ?_) (fun hg => ?_) <;> conv => whnf) | (refine gs_n (fun hg => ?_) (fun hg => ?_) <;> conv => whnf) | (refine gs_nb (fun hg => ?_) (fun hg => ?_) <;> conv => whnf) | (refine gs_b (fun hg => ?_) (fun hg => ?_) <;> conv => whnf) | refine fin1 rfl rfl ?_))
          refine wl_Se (v := .slice A3 ((mi.fr vb).length + 1) cap3) tabOk (hC4.blk hfB n3) rfl rfl rfl rfl rfl rfl (by simp; omega) rfl rfl ?_
          intro W5 hp5
          refine run_l tabOk ?_
          conv => whnf
          (repeat' (first | (refine wl_add rfl rfl rfl rfl rfl rfl (by omega) (by omega) (run_l tabOk ?_); conv => whnf) | (refine wl_sub rfl rfl rfl rfl rfl rfl (by omega) (by omega) (run_l tabOk ?_); conv => whnf) | (refine wl_cvA tabOk rfl rfl rfl (by simp only [inK]; omega) rfl rfl rfl (run_l tabOk ?_); conv => whnf) | (refine wl_cvB tabOk rfl rfl rfl rfl rfl rfl (run_l tabOk ?_); conv => whnf) | (refine wl_rem rfl rfl rfl rfl rfl rfl (by omega) (by omega) (fun r hr hr0 hr1 hr2 => run_l tabOk ?_); conv => whnf) | (refine wl_quo rfl rfl rfl rfl rfl rfl (by omega) (by omega) (by simp only [inK]; omega) (run_l tabOk ?_); conv => whnf) | (refine wl_mul rfl rfl rfl rfl rfl rfl (by omega) (by omega) (run_l tabOk ?_); conv => whnf) | (refine gs_dt (by first | assumption | omega) ?_; conv => whnf) | (refine gs_df (by first | assumption | omega) ?_; conv => whnf) | (refine gs_t (by assumption) ?_; conv => whnf) | (refine gs_f (by assumption) ?_; conv => whnf) | (refine gs_d (fun hg => ?_) (fun hg => ?_) <;> conv => whnf) | (refine gs_n (fun hg => ?_) (fun hg => ?_) <;> conv => whnf) | (refine gs_nb (fun hg => ?_) (fun hg => ?_) <;> conv => whnf) | (refine gs_b (fun hg => ?_) (fun hg => ?_) <;> conv => whnf) | refine fin1 rfl rfl ?_))
          obtain ⟨O9, h9', s9⟩ := h9.fromPut (i := i) hvn hk3 (fun b hb => (newO_old (hqlt b hb).2).trans (hqO b hb)) hq3 hf3 hB4 (by rw [Nat.mul_one] at hp5; exact hp5)
          have hpush := hF.push (by rw [hcon.out]; exact hk1) (by rw [hcon.out]; exact hk2)
          rw [hsrc] at hpush
          exact ⟨(i + 1, O9, _), ⟨rfl, rfl, rfl, rfl, rfl, trivial⟩, ⟨by simp only; omega, h9', s8.trans ((Stp.up hBz 97).trans s9), hI.skip (by rw [hIc]; exact hk1) (by rw [hIc]; exact hk2), hpush⟩, by simp only; omega⟩
      · have hIv := hI
        rw [show i = c.sys.cons.length from (by show i = c.ys.length; omega)] at hIv
        have hIn := hIv.all
        have hFo : FrOk c mi.fr := FrI.ok (by rw [show c.ys.length = i by omega]; exact hF)
        have sk := sr.trans si
        have hwk : Below w.heap.size w wk := sk.below (base := w.heap.size) (fun _ _ => rfl) (Nat.le_refl _)
        clear hIv hI hF
        (repeat' (first | (refine wl_add rfl rfl rfl rfl rfl rfl (by omega) (by omega) (run_l tabOk ?_); conv => whnf) | (refine wl_sub rfl rfl rfl rfl rfl rfl (by omega) (by omega) (run_l tabOk ?_); conv => whnf) | (refine wl_cvA tabOk rfl rfl rfl (by simp only [inK]; omega) rfl rfl rfl (run_l tabOk ?_); conv => whnf) | (refine wl_cvB tabOk rfl rfl rfl rfl rfl rfl (run_l tabOk ?_); conv => whnf) | (refine wl_rem rfl rfl rfl rfl rfl rfl (by omega) (by omega) (fun r hr hr0 hr1 hr2 => run_l tabOk ?_); conv => whnf) | (refine wl_quo rfl rfl rfl rfl rfl rfl (by omega) (by omega) (by simp only [inK]; omega) (run_l tabOk ?_); conv => whnf) | (refine wl_mul rfl rfl rfl rfl rfl rfl (by omega) (by omega) (run_l tabOk ?_); conv => whnf) | (refine gs_dt (by first | assumption | omega) ?_; conv => whnf) | (refine gs_df (by first | assumption | omega) ?_; conv => whnf) | (refine gs_t (by assumption) ?_; conv => whnf) | (refine gs_f (by assumption) ?_; conv => whnf) | (refine gs_d (fun hg => ?_) (fun hg => ?_) <;> conv => whnf) | (refine gs_n (fun hg => ?_) (fun hg => ?_) <;> conv => whnf) | (refine gs_nb (fun hg => ?_) (fun hg => ?_) <;> conv => whnf) | (refine gs_b (fun hg => ?_) (fun hg => ?_) <;> conv => whnf) | refine fin1 rfl rfl ?_))
        refine wl_mf rfl rfl rfl rfl rfl rfl ?_
        refine run_l tabOk ?_
        conv => whnf
        (repeat' (first | (refine wl_add rfl rfl rfl rfl rfl rfl (by omega) (by omega) (run_l tabOk ?_); conv => whnf) | (refine wl_sub rfl rfl rfl rfl rfl rfl (by omega) (by omega) (run_l tabOk ?_); conv => whnf) | (refine wl_cvA tabOk rfl rfl rfl (by simp only [inK]; omega) rfl rfl rfl (run_l tabOk ?_); conv => whnf) | (refine wl_cvB tabOk rfl rfl rfl rfl rfl rfl (run_l tabOk ?_); conv => whnf) | (refine wl_rem rfl rfl rfl rfl rfl rfl (by omega) (by omega) (fun r hr hr0 hr1 hr2 => run_l tabOk ?_); conv => whnf) | (refine wl_quo rfl rfl rfl rfl rfl rfl (by omega) (by omega) (by simp only [inK]; omega) (run_l tabOk ?_); conv => whnf) | (refine wl_mul rfl rfl rfl rfl rfl rfl (by omega) (by omega) (run_l tabOk ?_); conv => whnf) | (refine gs_dt (by first | assumption | omega) ?_; conv => whnf) | (refine gs_df (by first | assumption | omega) ?_; conv => whnf) | (refine gs_t (by assumption) ?_; conv => whnf) | (refine gs_f (by assumption) ?_; conv => whnf) | (refine gs_d (fun hg => ?_) (fun hg => ?_) <;> conv => whnf) | (refine gs_n (fun hg => ?_) (fun hg => ?_) <;> conv => whnf) | (refine gs_nb (fun hg => ?_) (fun hg => ?_) <;> conv => whnf) | (refine gs_b (fun hg => ?_) (fun hg => ?_) <;> conv => whnf) | refine fin1 rfl rfl ?_))
        obtain ⟨N, hN⟩ : ∃ N, N = c.n * c.xs.length := ⟨_, rfl⟩
        have hNb : N ≤ 268435456 := by rw [hN]; exact Nat.le_trans (Nat.mul_le_mul hn hnc) (by decide)
        refine lp_loop tabOk (X := (Nat → Nat) × Mem) (fun y => [(5, .pointer (some ⟨c.gx, 0, none⟩)), (8, .func (.func 49) #[.pointer (some ⟨c.gx, 0, none⟩)] #[])])
          (fun y wl => SV c y.1 wl y.2 ∧ Stp (fun _ => 99) y.1 w wl ∧ Inv c.sys c.n y.2.st ∧ FrOk c y.2.fr) (fun y => N - y.2.pops) (Oi, mi) ⟨rfl, rfl, trivial⟩ ⟨hV2, sk, hIn, hFo⟩ ?_
        clear hIn hFo hV2 si sk hwk hV sr hOr hwr
        rintro ⟨Ol, ml⟩ G4 wl ⟨hL, sl, hIl, hFl⟩
        simp only at hL sl hIl hFl
        conv => whnf
        have hwl : Below w.heap.size w wl := sl.below (base := w.heap.size) (fun _ _ => rfl) (Nat.le_refl _)
        obtain ⟨hbx, hbO⟩ := hL.box
        obtain ⟨fq, hq, hqO⟩ := hL.queue
        obtain ⟨AQ, cQ, hVw, hlQ⟩ := hq.form
        have hbx' := hbx
        unfold boxV at hbx'
        rw [hVw] at hbx' hq
        have hbound := hIl.bound
        have hbound : ml.pops + ml.wk.length ≤ c.n * c.xs.length := hbound
        rw [← hN] at hbound
        have hnd := nodup_len hL.nd hL.wl
        cases hwk : ml.wk with
        | nil =>
          rw [hwk] at hbx' hbound
          have hIL := hIl.least rfl hwk hgc hgx
          obtain ⟨M, hM⟩ : ∃ M, M = matB c.n c.xs.length ml.st.inn := ⟨_, rfl⟩
          have hIL : IsLeast ⟨c.n, c.xs, c.ys⟩ M := by rw [hM]; exact hIL
          have hpl : (ptsOf M).length = c.n := by rw [hM]; simp [ptsOf, (matB_shape c.n c.xs.length ml.st.inn).rows]
          obtain ⟨hri, _⟩ := hL.rowI
          obtain ⟨AI, cI, hVi⟩ : ∃ AI cI, ml.Vi = .slice AI c.n cI := by
            rcases hri.2.2 with ⟨e, h0⟩ | ⟨g, cp, cu, e, _⟩
            · exact ⟨none, 0, by rw [e, h0]⟩
            · exact ⟨_, _, e⟩
          rw [hVi] at hbx'
          (repeat' (first | (refine wl_Lg tabOk hbx' rfl rfl rfl rfl rfl rfl rfl (run_l tabOk ?_); conv => whnf) | (refine wl_add rfl rfl rfl rfl rfl rfl (by omega) (by omega) (run_l tabOk ?_); conv => whnf) | (refine wl_sub rfl rfl rfl rfl rfl rfl (by omega) (by omega) (run_l tabOk ?_); conv => whnf) | (refine wl_cvA tabOk rfl rfl rfl (by simp only [inK]; omega) rfl rfl rfl (run_l tabOk ?_); conv => whnf) | (refine wl_cvB tabOk rfl rfl rfl rfl rfl rfl (run_l tabOk ?_); conv => whnf) | (refine wl_rem rfl rfl rfl rfl rfl rfl (by omega) (by omega) (fun r hr hr0 hr1 hr2 => run_l tabOk ?_); conv => whnf) | (refine wl_quo rfl rfl rfl rfl rfl rfl (by omega) (by omega) (by simp only [inK]; omega) (run_l tabOk ?_); conv => whnf) | (refine wl_mul rfl rfl rfl rfl rfl rfl (by omega) (by omega) (run_l tabOk ?_); conv => whnf) | (refine gs_dt (by first | assumption | omega) ?_; conv => whnf) | (refine gs_df (by first | assumption | omega) ?_; conv => whnf) | (refine gs_t (by assumption) ?_; conv => whnf) | (refine gs_f (by assumption) ?_; conv => whnf) | (refine gs_d (fun hg => ?_) (fun hg => ?_) <;> conv => whnf) | (refine gs_n (fun hg => ?_) (fun hg => ?_) <;> conv => whnf) | (refine gs_nb (fun hg => ?_) (fun hg => ?_) <;> conv => whnf) | (refine gs_b (fun hg => ?_) (fun hg => ?_) <;> conv => whnf) | refine fin1 rfl rfl ?_))
          refine lp_loop tabOk (X := Nat × Option Addr × Nat × List Nat) (fun y => [(5, .pointer (some ⟨c.gx, 0, none⟩)), (10, .slice y.2.1 y.1 y.2.2.1), (183, .slice AI c.n cI), (184, .int .i64 c.n), (185, .int .i64 y.1)])
            (fun y wo => y.1 ≤ c.n ∧ Below wl.heap.size wl wo ∧ GRow 1 dInts 46 wl.heap.size wo (.slice y.2.1 y.1 y.2.2.1) ((ptsOf M).take y.1) y.2.2.2) (fun y => c.n - y.1) (0, none, 0, []) ⟨rfl, rfl, rfl, rfl, rfl, trivial⟩ ⟨by simp, Below.refl _ _, GRow.nil ..⟩ ?_
          rintro ⟨v, D, dc, bs⟩ G5 wo ⟨hv, hBo, hGo⟩
          simp only at hv hBo hGo
          conv => whnf
          by_cases hvl : v < c.n
          · obtain ⟨g1, cap1, cur1, hVi', _, _, hcell1, _, _⟩ := hri.form hvl
            rw [hVi] at hVi'
            injection hVi' with q1 q2 q3
            subst q1 q3
            obtain ⟨fi, hP, _⟩ := hL.setI hvl
            have hc1 := cell_up hBo (hcell1 v hvl)
            unfold ptrV at hc1
            have hl1 := blk_len hP.wf (N := c.xs.length) (fun o ho => (hIl.dom.inn v o ho).2)
            have hnl := numsB_len (ml.bi v)
            (repeat' (first | (refine wl_L tabOk rfl rfl rfl rfl rfl rfl hc1 (run_l tabOk ?_); conv => whnf) | (refine wl_Xn tabOk 88 1 rfl rfl rfl rfl rfl rfl rfl (by omega) (run_l tabOk ?_); conv => whnf) | (refine wl_add rfl rfl rfl rfl rfl rfl (by omega) (by omega) (run_l tabOk ?_); conv => whnf) | (refine wl_sub rfl rfl rfl rfl rfl rfl (by omega) (by omega) (run_l tabOk ?_); conv => whnf) | (refine wl_cvA tabOk rfl rfl rfl (by simp only [inK]; omega) rfl rfl rfl (run_l tabOk ?_); conv => whnf) | (refine wl_cvB tabOk rfl rfl rfl rfl rfl rfl (run_l tabOk ?_); conv => whnf) | (refine wl_rem rfl rfl rfl rfl rfl rfl (by omega) (by omega) (fun r hr hr0 hr1 hr2 => run_l tabOk ?_); conv => whnf) | (refine wl_quo rfl rfl rfl rfl rfl rfl (by omega) (by omega) (by simp only [inK]; omega) (run_l tabOk ?_); conv => whnf) | (refine wl_mul rfl rfl rfl rfl rfl rfl (by omega) (by omega) (run_l tabOk ?_); conv => whnf) | (refine gs_dt (by first | assumption | omega) ?_; conv => whnf) | (refine gs_df (by first | assumption | omega) ?_; conv => whnf) | (refine gs_t (by assumption) ?_; conv => whnf) | (refine gs_f (by assumption) ?_; conv => whnf) | (refine gs_d (fun hg => ?_) (fun hg => ?_) <;> conv => whnf) | (refine gs_n (fun hg => ?_) (fun hg => ?_) <;> conv => whnf) | (refine gs_nb (fun hg => ?_) (fun hg => ?_) <;> conv => whnf) | (refine gs_b (fun hg => ?_) (fun hg => ?_) <;> conv => whnf) | refine fin1 rfl rfl ?_))
            refine wl_C fn50 (pAll (hP.up hBo) (by omega) (hT.up (bup hwl hBo))) rfl rfl rfl rfl rfl rfl rfl ?_
            rintro _ wp ⟨V, rfl, hI, hBp⟩
            obtain ⟨E, ec, rfl, _, _⟩ := hI.row
            refine ⟨_, rfl, run_l tabOk ?_⟩
            conv => whnf
            have hpv : (ptsOf M)[v]! = numsB (ml.bi v) := by rw [hM]; exact rowPts_numsB hP.wf hvl (fun _ => rfl) (fun o ho => (hIl.dom.inn v o ho).2)
            have htl : ((ptsOf M).take v).length = v := by simp [hpl]; omega
            have htk : (ptsOf M).take (v + 1) = (ptsOf M).take v ++ [numsB (ml.bi v)] := by
              rw [← hpv, getElem!_pos (ptsOf M) v (by rw [hpl]; exact hvl)]
              simp
            have hBmp := hBo.trans (hBp.mono hBo.size)
            refine wl_bs tabOk 46 1 rfl rfl rfl rfl rfl rfl rfl rfl rfl rfl ?_
            intro gn u1 hn1
            have hGu := (hGo.below hBp).below hn1.below
            obtain ⟨flat, hown, helm⟩ := hGu.own
            rw [htl] at hown
            refine run_l tabOk ?_
            conv => whnf
            refine wl_ap tabOk 46 1 24 hown hn1.blk rfl rfl rfl rfl rfl rfl rfl rfl rfl rfl rfl rfl (by simp [Value.oneCell']) (by omega) (by omega) (by have := hn1.size; have := hBmp.size; omega) ?_
            intro D2 dc2 u2 hown2 hg2 hob2
            have hpush := rows_push (b' := wo.heap.size) hGu helm (by rw [htl]; exact hown2) hg2 hob2 (hI.below hn1.below) hBo.size (fun k hk e => by have := (hI.olt k hk).1; have := (hGo.olt k e.symm).2; omega)
            have hgk : wp.grownBy u2 (Value.slice D v dc).ownBlock := grown_trans (grown_of hn1.below) hg2
            have hB2 : Below wl.heap.size wl u2 := hBmp.grown hgk hBmp.size (fun k e => (hGo.olt k e).1)
            refine run_l tabOk ?_
            conv => whnf
            (repeat' (first | (refine wl_add rfl rfl rfl rfl rfl rfl (by omega) (by omega) (run_l tabOk ?_); conv => whnf) | (refine wl_sub rfl rfl rfl rfl rfl rfl (by omega) (by omega) (run_l tabOk ?_); conv => whnf) | (refine wl_cvA tabOk rfl rfl rfl (by simp only [inK]; omega) rfl rfl rfl (run_l tabOk ?_); conv => whnf) | (refine wl_cvB tabOk rfl rfl rfl rfl rfl rfl (run_l tabOk ?_); conv => whnf) | (refine wl_rem rfl rfl rfl rfl rfl rfl (by omega) (by omega) (fun r hr hr0 hr1 hr2 => run_l tabOk ?_); conv => whnf) | (refine wl_quo rfl rfl rfl rfl rfl rfl (by omega) (by omega) (by simp only [inK]; omega) (run_l tabOk ?_); conv => whnf) | (refine wl_mul rfl rfl rfl rfl rfl rfl (by omega) (by omega) (run_l tabOk ?_); conv => whnf) | (refine gs_dt (by first | assumption | omega) ?_; conv => whnf) | (refine gs_df (by first | assumption | omega) ?_; conv => whnf) | (refine gs_t (by assumption) ?_; conv => whnf) | (refine gs_f (by assumption) ?_; conv => whnf) | (refine gs_d (fun hg => ?_) (fun hg => ?_) <;> conv => whnf) | (refine gs_n (fun hg => ?_) (fun hg => ?_) <;> conv => whnf) | (refine gs_nb (fun hg => ?_) (fun hg => ?_) <;> conv => whnf) | (refine gs_b (fun hg => ?_) (fun hg => ?_) <;> conv => whnf) | refine fin1 rfl rfl ?_))
            exact ⟨(v + 1, D2, dc2, _), ⟨rfl, rfl, rfl, rfl, rfl, trivial⟩, ⟨by simp only; omega, hB2, by simp only; rw [htk]; exact hpush⟩, by simp only; omega⟩
          · have hvn : v = c.n := by omega
            subst hvn
            (repeat' (first | (refine wl_add rfl rfl rfl rfl rfl rfl (by omega) (by omega) (run_l tabOk ?_); conv => whnf) | (refine wl_sub rfl rfl rfl rfl rfl rfl (by omega) (by omega) (run_l tabOk ?_); conv => whnf) | (refine wl_cvA tabOk rfl rfl rfl (by simp only [inK]; omega) rfl rfl rfl (run_l tabOk ?_); conv => whnf) | (refine wl_cvB tabOk rfl rfl rfl rfl rfl rfl (run_l tabOk ?_); conv => whnf) | (refine wl_rem rfl rfl rfl rfl rfl rfl (by omega) (by omega) (fun r hr hr0 hr1 hr2 => run_l tabOk ?_); conv => whnf) | (refine wl_quo rfl rfl rfl rfl rfl rfl (by omega) (by omega) (by simp only [inK]; omega) (run_l tabOk ?_); conv => whnf) | (refine wl_mul rfl rfl rfl rfl rfl rfl (by omega) (by omega) (run_l tabOk ?_); conv => whnf) | (refine gs_dt (by first | assumption | omega) ?_; conv => whnf) | (refine gs_df (by first | assumption | omega) ?_; conv => whnf) | (refine gs_t (by assumption) ?_; conv => whnf) | (refine gs_f (by assumption) ?_; conv => whnf) | (refine gs_d (fun hg => ?_) (fun hg => ?_) <;> conv => whnf) | (refine gs_n (fun hg => ?_) (fun hg => ?_) <;> conv => whnf) | (refine gs_nb (fun hg => ?_) (fun hg => ?_) <;> conv => whnf) | (refine gs_b (fun hg => ?_) (fun hg => ?_) <;> conv => whnf) | refine fin1 rfl rfl ?_))
            refine wc_qr tabOk mixed (by kernel_rfl) ?_; conv => whnf
            (repeat' (first | (refine wq_Lg tabOk (blk_up hBo hbx') rfl rfl rfl rfl rfl rfl rfl (run_q tabOk ?_); conv => whnf) | (refine wq_add rfl rfl rfl rfl rfl rfl (by omega) (by omega) (run_q tabOk ?_); conv => whnf) | (refine wq_sub rfl rfl rfl rfl rfl rfl (by omega) (by omega) (run_q tabOk ?_); conv => whnf) | (refine wq_cvA tabOk rfl rfl rfl (by simp only [inK]; omega) rfl rfl rfl (run_q tabOk ?_); conv => whnf) | (refine wq_cvB tabOk rfl rfl rfl rfl rfl rfl (run_q tabOk ?_); conv => whnf) | (refine wq_rem rfl rfl rfl rfl rfl rfl (by omega) (by omega) (fun r hr hr0 hr1 hr2 => run_q tabOk ?_); conv => whnf) | (refine wq_quo rfl rfl rfl rfl rfl rfl (by omega) (by omega) (by simp only [inK]; omega) (run_q tabOk ?_); conv => whnf) | (refine wq_mul rfl rfl rfl rfl rfl rfl (by omega) (by omega) (run_q tabOk ?_); conv => whnf) | (refine gs_dt (by first | assumption | omega) ?_; conv => whnf) | (refine gs_df (by first | assumption | omega) ?_; conv => whnf) | (refine gs_t (by assumption) ?_; conv => whnf) | (refine gs_f (by assumption) ?_; conv => whnf) | (refine gs_d (fun hg => ?_) (fun hg => ?_) <;> conv => whnf) | (refine gs_n (fun hg => ?_) (fun hg => ?_) <;> conv => whnf) | (refine gs_nb (fun hg => ?_) (fun hg => ?_) <;> conv => whnf) | (refine gs_b (fun hg => ?_) (fun hg => ?_) <;> conv => whnf)))
            intro wz hBz
            conv => whnf
            rw [List.take_of_length_le (by omega)] at hGo
            obtain ⟨_, hcap, hrr⟩ := hGo.rowAt
            refine fin3 rfl rfl rfl rfl ⟨M, D, dc, ml.pops, rfl, hIL, hrr.up stays_Ints hBz, by omega, by rw [← hN]; omega, bup (bup hwl hBo) hBz⟩
        | cons v r =>
          rw [hwk] at hbx' hq
          obtain ⟨ad, hAQ, hc0⟩ := hq.head
          obtain ⟨fq', hq', hfq'⟩ := hq.tail
          obtain ⟨hon, honO⟩ := hL.onB
          have hv : v < c.n := hL.wl v (by rw [hwk]; simp)
          subst hAQ
          have hpos : (0 : Int) < (((v :: r).length : Nat) : Int) := by rw [List.length_cons]; omega
          (repeat' (first | (refine wl_Lg tabOk hbx' rfl rfl rfl rfl rfl rfl rfl (run_l tabOk ?_); conv => whnf) | (refine wl_L tabOk rfl rfl rfl rfl rfl rfl hc0 (run_l tabOk ?_); conv => whnf) | (refine wl_X tabOk 3 1 rfl rfl rfl rfl rfl rfl rfl (by omega) (by omega) (run_l tabOk ?_); conv => whnf) | (refine wl_add rfl rfl rfl rfl rfl rfl (by omega) (by omega) (run_l tabOk ?_); conv => whnf) | (refine wl_sub rfl rfl rfl rfl rfl rfl (by omega) (by omega) (run_l tabOk ?_); conv => whnf) | (refine wl_cvA tabOk rfl rfl rfl (by simp only [inK]; omega) rfl rfl rfl (run_l tabOk ?_); conv => whnf) | (refine wl_cvB tabOk rfl rfl rfl rfl rfl rfl (run_l tabOk ?_); conv => whnf) | (refine wl_rem rfl rfl rfl rfl rfl rfl (by omega) (by omega) (fun r hr hr0 hr1 hr2 => run_l tabOk ?_); conv => whnf) | (refine wl_quo rfl rfl rfl rfl rfl rfl (by omega) (by omega) (by simp only [inK]; omega) (run_l tabOk ?_); conv => whnf) | (refine wl_mul rfl rfl rfl rfl rfl rfl (by omega) (by omega) (run_l tabOk ?_); conv => whnf) | (refine gs_dt (by first | assumption | omega) ?_; conv => whnf) | (refine gs_df (by first | assumption | omega) ?_; conv => whnf) | (refine gs_t (by assumption) ?_; conv => whnf) | (refine gs_f (by assumption) ?_; conv => whnf) | (refine gs_d (fun hg => ?_) (fun hg => ?_) <;> conv => whnf) | (refine gs_n (fun hg => ?_) (fun hg => ?_) <;> conv => whnf) | (refine gs_nb (fun hg => ?_) (fun hg => ?_) <;> conv => whnf) | (refine gs_b (fun hg => ?_) (fun hg => ?_) <;> conv => whnf) | refine fin1 rfl rfl ?_))
          refine wl_slLr tabOk 3 1 (hn' := 1) (l2 := r.length) rfl rfl (by simp) rfl (by simp) rfl rfl rfl rfl rfl rfl rfl ?_
          refine run_l tabOk ?_
          conv => whnf
          (repeat' (first | (refine wl_add rfl rfl rfl rfl rfl rfl (by omega) (by omega) (run_l tabOk ?_); conv => whnf) | (refine wl_sub rfl rfl rfl rfl rfl rfl (by omega) (by omega) (run_l tabOk ?_); conv => whnf) | (refine wl_cvA tabOk rfl rfl rfl (by simp only [inK]; omega) rfl rfl rfl (run_l tabOk ?_); conv => whnf) | (refine wl_cvB tabOk rfl rfl rfl rfl rfl rfl (run_l tabOk ?_); conv => whnf) | (refine wl_rem rfl rfl rfl rfl rfl rfl (by omega) (by omega) (fun r hr hr0 hr1 hr2 => run_l tabOk ?_); conv => whnf) | (refine wl_quo rfl rfl rfl rfl rfl rfl (by omega) (by omega) (by simp only [inK]; omega) (run_l tabOk ?_); conv => whnf) | (refine wl_mul rfl rfl rfl rfl rfl rfl (by omega) (by omega) (run_l tabOk ?_); conv => whnf) | (refine gs_dt (by first | assumption | omega) ?_; conv => whnf) | (refine gs_df (by first | assumption | omega) ?_; conv => whnf) | (refine gs_t (by assumption) ?_; conv => whnf) | (refine gs_f (by assumption) ?_; conv => whnf) | (refine gs_d (fun hg => ?_) (fun hg => ?_) <;> conv => whnf) | (refine gs_n (fun hg => ?_) (fun hg => ?_) <;> conv => whnf) | (refine gs_nb (fun hg => ?_) (fun hg => ?_) <;> conv => whnf) | (refine gs_b (fun hg => ?_) (fun hg => ?_) <;> conv => whnf) | refine fin1 rfl rfl ?_))
          refine wl_S (off := 7) (v := .slice (cutA (some ad) 1 cQ 1) r.length (cQ - 1)) tabOk hbx' rfl rfl rfl rfl rfl rfl (by simp) rfl rfl ?_
          intro wa hpa
          refine run_l tabOk ?_
          conv => whnf
          (repeat' (first | (refine wl_Lg tabOk hpa.blk rfl rfl rfl rfl rfl rfl rfl (run_l tabOk ?_); conv => whnf) | (refine wl_Xn tabOk 4 1 rfl rfl rfl rfl rfl rfl rfl (by omega) (run_l tabOk ?_); conv => whnf) | (refine wl_add rfl rfl rfl rfl rfl rfl (by omega) (by omega) (run_l tabOk ?_); conv => whnf) | (refine wl_sub rfl rfl rfl rfl rfl rfl (by omega) (by omega) (run_l tabOk ?_); conv => whnf) | (refine wl_cvA tabOk rfl rfl rfl (by simp only [inK]; omega) rfl rfl rfl (run_l tabOk ?_); conv => whnf) | (refine wl_cvB tabOk rfl rfl rfl rfl rfl rfl (run_l tabOk ?_); conv => whnf) | (refine wl_rem rfl rfl rfl rfl rfl rfl (by omega) (by omega) (fun r hr hr0 hr1 hr2 => run_l tabOk ?_); conv => whnf) | (refine wl_quo rfl rfl rfl rfl rfl rfl (by omega) (by omega) (by simp only [inK]; omega) (run_l tabOk ?_); conv => whnf) | (refine wl_mul rfl rfl rfl rfl rfl rfl (by omega) (by omega) (run_l tabOk ?_); conv => whnf) | (refine gs_dt (by first | assumption | omega) ?_; conv => whnf) | (refine gs_df (by first | assumption | omega) ?_; conv => whnf) | (refine gs_t (by assumption) ?_; conv => whnf) | (refine gs_f (by assumption) ?_; conv => whnf) | (refine gs_d (fun hg => ?_) (fun hg => ?_) <;> conv => whnf) | (refine gs_n (fun hg => ?_) (fun hg => ?_) <;> conv => whnf) | (refine gs_nb (fun hg => ?_) (fun hg => ?_) <;> conv => whnf) | (refine gs_b (fun hg => ?_) (fun hg => ?_) <;> conv => whnf) | refine fin1 rfl rfl ?_))
          have hgne : ml.go ≠ c.gx := fun e => by rw [e, hbO] at honO; cases honO
          refine wl_Se (v := .bool false) tabOk (hpa.old hon hgne) rfl rfl rfl rfl rfl rfl (by rw [onV_len]; omega) rfl rfl ?_
          intro wb hpb
          refine run_l tabOk ?_
          conv => whnf
          have hba := hpb.old hpa.blk (Ne.symm hgne)
          (repeat' (first | (refine wl_Lg tabOk hba rfl rfl rfl rfl rfl rfl rfl (run_l tabOk ?_); conv => whnf) | (refine wl_add rfl rfl rfl rfl rfl rfl (by omega) (by omega) (run_l tabOk ?_); conv => whnf) | (refine wl_sub rfl rfl rfl rfl rfl rfl (by omega) (by omega) (run_l tabOk ?_); conv => whnf) | (refine wl_cvA tabOk rfl rfl rfl (by simp only [inK]; omega) rfl rfl rfl (run_l tabOk ?_); conv => whnf) | (refine wl_cvB tabOk rfl rfl rfl rfl rfl rfl (run_l tabOk ?_); conv => whnf) | (refine wl_rem rfl rfl rfl rfl rfl rfl (by omega) (by omega) (fun r hr hr0 hr1 hr2 => run_l tabOk ?_); conv => whnf) | (refine wl_quo rfl rfl rfl rfl rfl rfl (by omega) (by omega) (by simp only [inK]; omega) (run_l tabOk ?_); conv => whnf) | (refine wl_mul rfl rfl rfl rfl rfl rfl (by omega) (by omega) (run_l tabOk ?_); conv => whnf) | (refine gs_dt (by first | assumption | omega) ?_; conv => whnf) | (refine gs_df (by first | assumption | omega) ?_; conv => whnf) | (refine gs_t (by assumption) ?_; conv => whnf) | (refine gs_f (by assumption) ?_; conv => whnf) | (refine gs_d (fun hg => ?_) (fun hg => ?_) <;> conv => whnf) | (refine gs_n (fun hg => ?_) (fun hg => ?_) <;> conv => whnf) | (refine gs_nb (fun hg => ?_) (fun hg => ?_) <;> conv => whnf) | (refine gs_b (fun hg => ?_) (fun hg => ?_) <;> conv => whnf) | refine fin1 rfl rfl ?_))
          refine wl_S (off := 9) (v := .int .i64 ((ml.pops : Int) + 1)) tabOk hba rfl rfl rfl rfl rfl rfl (by simp) rfl rfl ?_
          intro wc hpc
          refine run_l tabOk ?_
          conv => whnf
          (repeat' (first | (refine wl_add rfl rfl rfl rfl rfl rfl (by omega) (by omega) (run_l tabOk ?_); conv => whnf) | (refine wl_sub rfl rfl rfl rfl rfl rfl (by omega) (by omega) (run_l tabOk ?_); conv => whnf) | (refine wl_cvA tabOk rfl rfl rfl (by simp only [inK]; omega) rfl rfl rfl (run_l tabOk ?_); conv => whnf) | (refine wl_cvB tabOk rfl rfl rfl rfl rfl rfl (run_l tabOk ?_); conv => whnf) | (refine wl_rem rfl rfl rfl rfl rfl rfl (by omega) (by omega) (fun r hr hr0 hr1 hr2 => run_l tabOk ?_); conv => whnf) | (refine wl_quo rfl rfl rfl rfl rfl rfl (by omega) (by omega) (by simp only [inK]; omega) (run_l tabOk ?_); conv => whnf) | (refine wl_mul rfl rfl rfl rfl rfl rfl (by omega) (by omega) (run_l tabOk ?_); conv => whnf) | (refine gs_dt (by first | assumption | omega) ?_; conv => whnf) | (refine gs_df (by first | assumption | omega) ?_; conv => whnf) | (refine gs_t (by assumption) ?_; conv => whnf) | (refine gs_f (by assumption) ?_; conv => whnf) | (refine gs_d (fun hg => ?_) (fun hg => ?_) <;> conv => whnf) | (refine gs_n (fun hg => ?_) (fun hg => ?_) <;> conv => whnf) | (refine gs_nb (fun hg => ?_) (fun hg => ?_) <;> conv => whnf) | (refine gs_b (fun hg => ?_) (fun hg => ?_) <;> conv => whnf) | refine fin1 rfl rfl ?_))
          obtain ⟨Op, hp, sp⟩ := hL.popped hwk hq' (fun b hb => hqO b (hfq' b hb)) (by unfold boxV; rw [hVw, hwk]; exact hpa) (by rw [Nat.mul_one] at hpb; exact hpb) (by unfold boxV; rw [hVw, hwk]; exact hpc)
          have hwc : Below w.heap.size w wc := (sl.trans sp).below (base := w.heap.size) (fun _ _ => rfl) (Nat.le_refl _)
          refine wl_CF fn49 (first := [.pointer (some ⟨c.gx, 0, none⟩)]) (args := [.int .i64 (v : Int)]) (caps := []) (sLook hp hT hwc hcb h1 h2 hgx hgc hny hIl hwk rfl hFl) rfl rfl rfl rfl rfl rfl rfl ?_
          rintro _ wd ⟨rfl, Od, md, hd, sd, ⟨hId, hpd⟩, e1, e2⟩
          refine ⟨_, rfl, run_l tabOk ?_⟩
          conv => whnf
          (repeat' (first | (refine wl_add rfl rfl rfl rfl rfl rfl (by omega) (by omega) (run_l tabOk ?_); conv => whnf) | (refine wl_sub rfl rfl rfl rfl rfl rfl (by omega) (by omega) (run_l tabOk ?_); conv => whnf) | (refine wl_cvA tabOk rfl rfl rfl (by simp only [inK]; omega) rfl rfl rfl (run_l tabOk ?_); conv => whnf) | (refine wl_cvB tabOk rfl rfl rfl rfl rfl rfl (run_l tabOk ?_); conv => whnf) | (refine wl_rem rfl rfl rfl rfl rfl rfl (by omega) (by omega) (fun r hr hr0 hr1 hr2 => run_l tabOk ?_); conv => whnf) | (refine wl_quo rfl rfl rfl rfl rfl rfl (by omega) (by omega) (by simp only [inK]; omega) (run_l tabOk ?_); conv => whnf) | (refine wl_mul rfl rfl rfl rfl rfl rfl (by omega) (by omega) (run_l tabOk ?_); conv => whnf) | (refine gs_dt (by first | assumption | omega) ?_; conv => whnf) | (refine gs_df (by first | assumption | omega) ?_; conv => whnf) | (refine gs_t (by assumption) ?_; conv => whnf) | (refine gs_f (by assumption) ?_; conv => whnf) | (refine gs_d (fun hg => ?_) (fun hg => ?_) <;> conv => whnf) | (refine gs_n (fun hg => ?_) (fun hg => ?_) <;> conv => whnf) | (refine gs_nb (fun hg => ?_) (fun hg => ?_) <;> conv => whnf) | (refine gs_b (fun hg => ?_) (fun hg => ?_) <;> conv => whnf) | refine fin1 rfl rfl ?_))
          have hpd : md.pops = ml.pops + 1 := hpd
          rw [hwk, List.length_cons] at hbound
          exact ⟨(Od, md), ⟨rfl, rfl, trivial⟩, ⟨hd, sl.trans (sp.trans sd), hId, by show FrOk c md.fr; rw [e1]; exact hFl⟩, by simp only; omega⟩
end Go.Proofs.YtkjbkalakafnlaaDoor
