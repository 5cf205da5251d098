/- Several texts of one claim in one file: FI16 AW16 OP17 A2. -/
import Derived.Test.YtomldckplkecbaaY11
import Derived.Test.YtomldckplkecbaaY8
import Derived.Test.YtomldckplkecbaaY6
import Derived.Test.YtomldckplkecbaaY4
/- The walk of knot.Find. -/
namespace Go.Proofs.Ytomldckplkecbaa
open Go.RowKit
set_option linter.unusedVariables false
set_option linter.unusedSimpArgs false
set_option maxRecDepth 100000
/-- Each node's knot, as numbers. -/
def ofI (n : Nat) (f : Nat → Nat) : List Int := (List.range n).map fun v => (f v : Int)
theorem ofI_len (n : Nat) (f : Nat → Nat) : (ofI n f).length = n := by simp [ofI]
theorem ofI_at {n v : Nat} (f : Nat → Nat) (h : v < n) : (ofI n f)[v]! = (f v : Int) := by
  rw [getElem!_pos _ v (by rw [ofI_len]; exact h)]
  simp [ofI]
theorem fI_vi (n : Nat) (f : Nat → Nat) : fI n f = vi ((List.range n).map f) := by simp [fI, vi, List.map_map, Function.comp_def]
theorem fI_zero (n : Nat) : (List.replicate n [Value.int .i64 0]).flatten = fI n fun _ => 0 := by
  induction n with
  | zero => rfl
  | succ n ih =>
    have e : fI (n + 1) (fun _ => 0) = fI n (fun _ => 0) ++ [Value.int .i64 0] := by simp [fI, List.range_succ]
    rw [e, ← ih, List.replicate_succ']
    simp
theorem fB_zero (n : Nat) : (List.replicate n [Value.bool false]).flatten = fB n fun _ => false := by
  induction n with
  | zero => rfl
  | succ n ih =>
    have e : fB (n + 1) (fun _ => false) = fB n (fun _ => false) ++ [Value.bool false] := by simp [fB, List.range_succ]
    rw [e, ← ih, List.replicate_succ']
    simp
/-- The owners at the beginning. -/
def own0 (c : KC) : Nat → Nat := fun b => if b < c.base then 99 else if b = c.gT then 0 else if b = c.gi then 1 else if b = c.gl then 2 else if b = c.gn then 3 else if b = c.go then 4 else 8
theorem ks0 {c : KC} {w : World} (hT : w.heap[c.gT]? = some (.cells (kbox c TS.init (.slice none 0 0) (.slice none 0 0)).toArray 58 (0, 0))) (hi : w.heap[c.gi]? = some (.cells (fI c.n fun _ => 0).toArray 3 (0, 0)))
    (hl : w.heap[c.gl]? = some (.cells (fI c.n fun _ => 0).toArray 3 (0, 0))) (hn : w.heap[c.gn]? = some (.cells (fB c.n fun _ => false).toArray 4 (0, 0))) (ho : w.heap[c.go]? = some (.cells (fI c.n fun _ => 0).toArray 3 (0, 0)))
    (gT : c.base ≤ c.gT) (gi : c.base ≤ c.gi) (gl : c.base ≤ c.gl) (gn : c.base ≤ c.gn) (go : c.base ≤ c.go)
    (d1 : c.gi ≠ c.gT) (d2 : c.gl ≠ c.gT) (d3 : c.gn ≠ c.gT) (d4 : c.go ≠ c.gT) (d5 : c.gl ≠ c.gi) (d6 : c.gn ≠ c.gi) (d7 : c.go ≠ c.gi) (d8 : c.gn ≠ c.gl) (d9 : c.go ≠ c.gl) (d10 : c.go ≠ c.gn) : KS c (own0 c) w TS.init (.slice none 0 0) (.slice none 0 0) := by
  refine ⟨fun j => ?_, fun b hb => if_pos hb, Nat.le_trans gT (Nat.le_of_lt (blk_lt hT))⟩
  have n1 : ¬ c.gT < c.base := by omega
  have n2 : ¬ c.gi < c.base := by omega
  have n3 : ¬ c.gl < c.base := by omega
  have n4 : ¬ c.gn < c.base := by omega
  have n5 : ¬ c.go < c.base := by omega
  match j with
  | 0 => exact ⟨[c.gT], by simpa [own0, n1] using blk_lt hT, fun w' hw => ⟨rfl, (hw c.gT (by simp)).trans hT⟩⟩
  | 1 => exact ⟨[c.gi], by simpa [own0, n2, d1] using blk_lt hi, fun w' hw => ⟨rfl, (hw c.gi (by simp)).trans hi⟩⟩
  | 2 => exact ⟨[c.gl], by simpa [own0, n3, d2, d5] using blk_lt hl, fun w' hw => ⟨rfl, (hw c.gl (by simp)).trans hl⟩⟩
  | 3 => exact ⟨[c.gn], by simpa [own0, n4, d3, d6, d8] using blk_lt hn, fun w' hw => ⟨rfl, (hw c.gn (by simp)).trans hn⟩⟩
  | 4 => exact ⟨[c.go], by simpa [own0, n5, d4, d7, d9, d10] using blk_lt ho, fun w' hw => ⟨rfl, (hw c.go (by simp)).trans ho⟩⟩
  | 5 => exact ⟨[], by simp, fun w' hw => ⟨rfl, own_nil ..⟩⟩
  | 6 => exact ⟨[], by simp, fun w' hw => ⟨[], rfl, GRow.nil ..⟩⟩
  | j + 7 => exact ⟨[], by simp, fun _ _ => trivial⟩
/-- What Find gives. -/
structure Knots (g : List (List Int)) (w w' : World) (e : Ending) : Prop where
  ex : ∃ kn of An cn go, e = .returned (.tuple #[.slice An kn.length cn, .slice (some ⟨go, 0, none⟩) g.length g.length]) ∧ KnOk g kn of ∧ RRows w' An (knI kn) ∧ kn.length ≤ cn ∧ RI w' (some ⟨go, 0, none⟩) (ofI g.length of)
  below : Below w.heap.size w w'
set_option maxHeartbeats 8000000 in
theorem kFind (g : List (List Int)) (A : Option Addr) (cc : Nat) (w : World) (hr : RRows w A g) (hn : g.length ≤ 1000000) :
    Calls Try.prog 13 #[.slice A g.length cc] w fun e w' => Knots g w w' e := by
  obtain ⟨n, hgn⟩ : ∃ n, n = g.length := ⟨_, rfl⟩
  rw [← hgn] at hn ⊢
  refine enterR (args := [.slice A n cc]) tabOk Try.func13 rfl Try.ntmps13 rfl ?_; conv => whnf
  refine wc_cutR (X := KC) (fun c => [(4, .pointer (some ⟨c.gT, 0, none⟩)), (0, .slice A n cc)])
    (fun c W => Below w.heap.size w W ∧ c.n = n ∧ c.A = A ∧ c.c = cc ∧ c.base = w.heap.size ∧ KS c (own0 c) W TS.init (.slice none 0 0) (.slice none 0 0)) ?_ ?_
  · refine wc_qx [0, 1, 2, 4, 5, 7, 8, 10, 11] 4 13 (stable_Bw _) tabOk mixed (by kernel_rfl) (Below.refl _ _) ?_; (conv => whnf)
    (repeat' (first | (refine wq_add rfl rfl rfl rfl rfl rfl (by omega) (by omega) (run_q tabOk ?_); conv => whnf) | (refine wq_sub rfl rfl rfl rfl rfl rfl (by omega) (by omega) (run_q tabOk ?_); conv => whnf) | (refine wq_cvA tabOk rfl rfl rfl (by simp only [inK]; omega) rfl rfl rfl (run_q tabOk ?_); conv => whnf) | (refine wq_cvB tabOk rfl rfl rfl rfl rfl rfl (run_q tabOk ?_); conv => whnf) | (refine wq_rem rfl rfl rfl rfl rfl rfl (by omega) (by omega) (fun r hr hr0 hr1 hr2 => run_q tabOk ?_); conv => whnf) | (refine wq_quo rfl rfl rfl rfl rfl rfl (by omega) (by omega) (by simp only [inK]; omega) (run_q tabOk ?_); conv => whnf) | (refine wq_mul rfl rfl rfl rfl rfl rfl (by omega) (by omega) (run_q tabOk ?_); conv => whnf) | (refine gs_dt (by first | assumption | omega) ?_; conv => whnf) | (refine gs_df (by first | assumption | omega) ?_; conv => whnf) | (refine gs_t (by assumption) ?_; conv => whnf) | (refine gs_f (by assumption) ?_; conv => whnf) | (refine gs_d (fun hg => ?_) (fun hg => ?_) <;> conv => whnf) | (refine gs_n (fun hg => ?_) (fun hg => ?_) <;> conv => whnf) | (refine gs_nb (fun hg => ?_) (fun hg => ?_) <;> conv => whnf) | (refine gs_b (fun hg => ?_) (fun hg => ?_) <;> conv => whnf)))
    intro w1 hC hB1
    clear hB1
    conv => whnf
    repeat' (first | exact True.intro | (refine And.intro ?_ ?_ <;> (conv => whnf)) | (refine wb_mk (m := n) (d := 9) tabOk 3 1 8 rfl rfl rfl rfl rfl rfl rfl rfl (by omega) (by omega) ?_; intro g3 v3 n3; (try (have d3_6 : g3 ≠ g6 := (by (have := blk_lt f6; have := n3.at_; omega)))); (try (have d3_9 : g3 ≠ g9 := (by (have := blk_lt f9; have := n3.at_; omega)))); (try (have d3_12 : g3 ≠ g12 := (by (have := blk_lt f12; have := n3.at_; omega)))); have b3 : w.heap.size ≤ g3 := (by (have := n3.at_; have := hC.size; omega)); have f3 := n3.blk; refine ⟨bup hC n3.below, fun W hW hC => ?_⟩; have f3 := blk_up hW f3; (try (have f6 := blk_up (bup n3.below hW) f6)); (try (have f9 := blk_up (bup n3.below hW) f9)); (try (have f12 := blk_up (bup n3.below hW) f12)); clear hW n3; (conv => whnf)) | (refine wb_mk (m := n) (d := 12) tabOk 3 1 8 rfl rfl rfl rfl rfl rfl rfl rfl (by omega) (by omega) ?_; intro g6 v6 n6; (try (have d3_6 : g3 ≠ g6 := (by (have := blk_lt f3; have := n6.at_; omega)))); (try (have d6_9 : g6 ≠ g9 := (by (have := blk_lt f9; have := n6.at_; omega)))); (try (have d6_12 : g6 ≠ g12 := (by (have := blk_lt f12; have := n6.at_; omega)))); have b6 : w.heap.size ≤ g6 := (by (have := n6.at_; have := hC.size; omega)); have f6 := n6.blk; refine ⟨bup hC n6.below, fun W hW hC => ?_⟩; have f6 := blk_up hW f6; (try (have f3 := blk_up (bup n6.below hW) f3)); (try (have f9 := blk_up (bup n6.below hW) f9)); (try (have f12 := blk_up (bup n6.below hW) f12)); clear hW n6; (conv => whnf)) | (refine wb_mk (m := n) (d := 15) tabOk 4 1 1 rfl rfl rfl rfl rfl rfl rfl rfl (by omega) (by omega) ?_; intro g9 v9 n9; (try (have d3_9 : g3 ≠ g9 := (by (have := blk_lt f3; have := n9.at_; omega)))); (try (have d6_9 : g6 ≠ g9 := (by (have := blk_lt f6; have := n9.at_; omega)))); (try (have d9_12 : g9 ≠ g12 := (by (have := blk_lt f12; have := n9.at_; omega)))); have b9 : w.heap.size ≤ g9 := (by (have := n9.at_; have := hC.size; omega)); have f9 := n9.blk; refine ⟨bup hC n9.below, fun W hW hC => ?_⟩; have f9 := blk_up hW f9; (try (have f3 := blk_up (bup n9.below hW) f3)); (try (have f6 := blk_up (bup n9.below hW) f6)); (try (have f12 := blk_up (bup n9.below hW) f12)); clear hW n9; (conv => whnf)) | (refine wb_mk (m := n) (d := 18) tabOk 3 1 8 rfl rfl rfl rfl rfl rfl rfl rfl (by omega) (by omega) ?_; intro g12 v12 n12; (try (have d3_12 : g3 ≠ g12 := (by (have := blk_lt f3; have := n12.at_; omega)))); (try (have d6_12 : g6 ≠ g12 := (by (have := blk_lt f6; have := n12.at_; omega)))); (try (have d9_12 : g9 ≠ g12 := (by (have := blk_lt f9; have := n12.at_; omega)))); have b12 : w.heap.size ≤ g12 := (by (have := n12.at_; have := hC.size; omega)); have f12 := n12.blk; refine ⟨bup hC n12.below, fun W hW hC => ?_⟩; have f12 := blk_up hW f12; (try (have f3 := blk_up (bup n12.below hW) f3)); (try (have f6 := blk_up (bup n12.below hW) f6)); (try (have f9 := blk_up (bup n12.below hW) f9)); clear hW n12; (conv => whnf)) | (refine wb_P tabOk rfl rfl rfl ?_; refine ⟨hC, fun W hW hC => ?_⟩; (try (have f3 := blk_up (hW) f3)); (try (have f6 := blk_up (hW) f6)); (try (have f9 := blk_up (hW) f9)); (try (have f12 := blk_up (hW) f12)); clear hW; (conv => whnf)))
    all_goals
      refine wl_box rfl rfl rfl rfl rfl rfl ?_
      intro gT wz hz
      refine run_l tabOk ?_
      conv => whnf
      have hgT := hz.at_
      have hsz := hC.size
      have l3 := blk_lt f3
      have l6 := blk_lt f6
      have l9 := blk_lt f9
      have l12 := blk_lt f12
      exact ⟨⟨n, A, cc, gT, g3, g6, g9, g12, w.heap.size⟩, ⟨rfl, rfl, trivial⟩, hz.up hC, rfl, rfl, rfl, rfl, ks0 hz.blk ((hz.old f3).trans (by rw [← fI_zero]; rfl)) ((hz.old f6).trans (by rw [← fI_zero]; rfl)) ((hz.old f9).trans (by rw [← fB_zero]; rfl)) ((hz.old f12).trans (by rw [← fI_zero]; rfl)) (by show w.heap.size ≤ gT; omega) b3 b6 b9 b12
        (by show g3 ≠ gT; omega) (by show g6 ≠ gT; omega) (by show g9 ≠ gT; omega) (by show g12 ≠ gT; omega) d3_6.symm d3_9.symm d3_12.symm d6_9.symm d6_12.symm d9_12.symm⟩
  · rintro ⟨n', A', cc', gT, gi, gl, gn, go, base⟩ G w1 ⟨hB1, rfl, rfl, rfl, rfl, hK⟩
    conv => whnf
    (repeat' (first | (refine wl_add rfl rfl rfl rfl rfl rfl (by omega) (by omega) (run_l tabOk ?_); conv => whnf) | (refine wl_sub rfl rfl rfl rfl rfl rfl (by omega) (by omega) (run_l tabOk ?_); conv => whnf) | (refine wl_cvA tabOk rfl rfl rfl (by simp only [inK]; omega) rfl rfl rfl (run_l tabOk ?_); conv => whnf) | (refine wl_cvB tabOk rfl rfl rfl rfl rfl rfl (run_l tabOk ?_); conv => whnf) | (refine wl_rem rfl rfl rfl rfl rfl rfl (by omega) (by omega) (fun r hr hr0 hr1 hr2 => run_l tabOk ?_); conv => whnf) | (refine wl_quo rfl rfl rfl rfl rfl rfl (by omega) (by omega) (by simp only [inK]; omega) (run_l tabOk ?_); conv => whnf) | (refine wl_mul rfl rfl rfl rfl rfl rfl (by omega) (by omega) (run_l tabOk ?_); conv => whnf) | (refine gs_dt (by first | assumption | omega) ?_; conv => whnf) | (refine gs_df (by first | assumption | omega) ?_; conv => whnf) | (refine gs_t (by assumption) ?_; conv => whnf) | (refine gs_f (by assumption) ?_; conv => whnf) | (refine gs_d (fun hg => ?_) (fun hg => ?_) <;> conv => whnf) | (refine gs_n (fun hg => ?_) (fun hg => ?_) <;> conv => whnf) | (refine gs_nb (fun hg => ?_) (fun hg => ?_) <;> conv => whnf) | (refine gs_b (fun hg => ?_) (fun hg => ?_) <;> conv => whnf) | refine fin1 rfl rfl ?_))
    have hlow0 := hK.low
    have hsz0 := hK.sz
    obtain ⟨c, hc⟩ : ∃ c, c = KC.mk n' A' cc' gT gi gl gn go w.heap.size := ⟨_, rfl⟩
    rw [← hc] at hK
    have hcn : c.n = n' := by rw [hc]
    have hcg : c.n = g.length := by rw [hcn]; exact hgn
    have hcT : c.gT = gT := by rw [hc]
    have hcb : c.base = w.heap.size := by rw [hc]
    have hcA : c.A = A' := by rw [hc]
    have hcc : c.c = cc' := by rw [hc]
    refine lp_loop tabOk (X := Nat × TS) (fun x => [(4, .pointer (some ⟨c.gT, 0, none⟩)), (22, .int .i64 (n' : Int)), (23, .int .i64 (x.1 : Int))]) (fun x wr => x.1 ≤ n' ∧ Below w.heap.size w wr ∧ (∃ O vk vn, KS c O wr x.2 vk vn) ∧ TInv g x.2 ∧ x.2.path = [] ∧ x.2.cnt = vis g.length x.2.idx ∧ ∀ y, y < x.1 → 0 < x.2.idx y) (fun x => n' - x.1) (0, TS.init) ⟨by rw [hcT]; rfl, rfl, rfl, trivial⟩ ⟨by omega, hB1, ⟨_, _, _, hK⟩, TInv.init g, rfl, (vis_zero _).symm, fun y hy => absurd hy (Nat.not_lt_zero y)⟩ ?_
    clear hB1 hK
    rintro ⟨i, s⟩ G2 wr ⟨hi, hB, ⟨O, vk, vn, hK⟩, hI, hp, hcnt, hall⟩
    simp only at hi hB hK hI hp hcnt hall
    conv => whnf
    have hbox := hK.box.1
    unfold kbox at hbox
    by_cases hlt : i < n'
    · have hcell : wr.cell? ((⟨c.gi, 0, none⟩ : Addr).add (i * 1)) = some (.int .i64 (s.idx i : Int)) := by
        rw [Nat.mul_one, add_zero]
        exact cell_blk hK.bi.1 (by simpa using fI_get (by omega))
      by_cases h0 : s.idx i = 0
      · (repeat' (first | (refine wl_Lg tabOk hbox rfl rfl rfl rfl rfl rfl rfl (run_l tabOk ?_); conv => whnf) | (refine wl_L tabOk rfl rfl rfl rfl rfl rfl hcell (run_l tabOk ?_); conv => whnf) | (refine wl_Xn tabOk 3 1 rfl rfl rfl rfl rfl rfl rfl (by omega) (run_l tabOk ?_); conv => whnf) | (refine wl_add rfl rfl rfl rfl rfl rfl (by omega) (by omega) (run_l tabOk ?_); conv => whnf) | (refine wl_sub rfl rfl rfl rfl rfl rfl (by omega) (by omega) (run_l tabOk ?_); conv => whnf) | (refine wl_cvA tabOk rfl rfl rfl (by simp only [inK]; omega) rfl rfl rfl (run_l tabOk ?_); conv => whnf) | (refine wl_cvB tabOk rfl rfl rfl rfl rfl rfl (run_l tabOk ?_); conv => whnf) | (refine wl_rem rfl rfl rfl rfl rfl rfl (by omega) (by omega) (fun r hr hr0 hr1 hr2 => run_l tabOk ?_); conv => whnf) | (refine wl_quo rfl rfl rfl rfl rfl rfl (by omega) (by omega) (by simp only [inK]; omega) (run_l tabOk ?_); conv => whnf) | (refine wl_mul rfl rfl rfl rfl rfl rfl (by omega) (by omega) (run_l tabOk ?_); conv => whnf) | (refine gs_dt (by first | assumption | omega) ?_; conv => whnf) | (refine gs_df (by first | assumption | omega) ?_; conv => whnf) | (refine gs_t (by assumption) ?_; conv => whnf) | (refine gs_f (by assumption) ?_; conv => whnf) | (refine gs_d (fun hg => ?_) (fun hg => ?_) <;> conv => whnf) | (refine gs_n (fun hg => ?_) (fun hg => ?_) <;> conv => whnf) | (refine gs_nb (fun hg => ?_) (fun hg => ?_) <;> conv => whnf) | (refine gs_b (fun hg => ?_) (fun hg => ?_) <;> conv => whnf) | refine fin1 rfl rfl ?_))
        refine wl_C fn21 (kSearch hK hI hp hcg hcnt (fun w' hB' => by rw [hcA]; exact hr.up stays_Ints (hB.trans (by rw [hcb] at hB'; exact hB'))) (by omega) i (by omega) h0) rfl rfl rfl rfl rfl rfl rfl ?_
        rintro _ w5 ⟨rfl, O1, vk1, vn1, s1, hK1, hst1, hS1, hp1⟩
        refine ⟨_, rfl, run_l tabOk ?_⟩
        conv => whnf
        (repeat' (first | (refine wl_add rfl rfl rfl rfl rfl rfl (by omega) (by omega) (run_l tabOk ?_); conv => whnf) | (refine wl_sub rfl rfl rfl rfl rfl rfl (by omega) (by omega) (run_l tabOk ?_); conv => whnf) | (refine wl_cvA tabOk rfl rfl rfl (by simp only [inK]; omega) rfl rfl rfl (run_l tabOk ?_); conv => whnf) | (refine wl_cvB tabOk rfl rfl rfl rfl rfl rfl (run_l tabOk ?_); conv => whnf) | (refine wl_rem rfl rfl rfl rfl rfl rfl (by omega) (by omega) (fun r hr hr0 hr1 hr2 => run_l tabOk ?_); conv => whnf) | (refine wl_quo rfl rfl rfl rfl rfl rfl (by omega) (by omega) (by simp only [inK]; omega) (run_l tabOk ?_); conv => whnf) | (refine wl_mul rfl rfl rfl rfl rfl rfl (by omega) (by omega) (run_l tabOk ?_); conv => whnf) | (refine gs_dt (by first | assumption | omega) ?_; conv => whnf) | (refine gs_df (by first | assumption | omega) ?_; conv => whnf) | (refine gs_t (by assumption) ?_; conv => whnf) | (refine gs_f (by assumption) ?_; conv => whnf) | (refine gs_d (fun hg => ?_) (fun hg => ?_) <;> conv => whnf) | (refine gs_n (fun hg => ?_) (fun hg => ?_) <;> conv => whnf) | (refine gs_nb (fun hg => ?_) (fun hg => ?_) <;> conv => whnf) | (refine gs_b (fun hg => ?_) (fun hg => ?_) <;> conv => whnf) | refine fin1 rfl rfl ?_))
        refine ⟨(i + 1, s1), ⟨rfl, rfl, rfl, trivial⟩, ⟨by omega, ?_, ⟨O1, vk1, vn1, hK1⟩, hS1.inv, hp1, hS1.cnt, fun y hy => ?_⟩, by omega⟩
        · have := hst1.below hK.low hK.sz
          rw [hcb] at this
          exact hB.trans this
        · have hy : y < i + 1 := hy
          by_cases e : y = i
          · rw [e]; exact hS1.at_
          · exact hS1.le y (hall y (by omega))
      · (repeat' (first | (refine wl_Lg tabOk hbox rfl rfl rfl rfl rfl rfl rfl (run_l tabOk ?_); conv => whnf) | (refine wl_L tabOk rfl rfl rfl rfl rfl rfl hcell (run_l tabOk ?_); conv => whnf) | (refine wl_Xn tabOk 3 1 rfl rfl rfl rfl rfl rfl rfl (by omega) (run_l tabOk ?_); conv => whnf) | (refine wl_add rfl rfl rfl rfl rfl rfl (by omega) (by omega) (run_l tabOk ?_); conv => whnf) | (refine wl_sub rfl rfl rfl rfl rfl rfl (by omega) (by omega) (run_l tabOk ?_); conv => whnf) | (refine wl_cvA tabOk rfl rfl rfl (by simp only [inK]; omega) rfl rfl rfl (run_l tabOk ?_); conv => whnf) | (refine wl_cvB tabOk rfl rfl rfl rfl rfl rfl (run_l tabOk ?_); conv => whnf) | (refine wl_rem rfl rfl rfl rfl rfl rfl (by omega) (by omega) (fun r hr hr0 hr1 hr2 => run_l tabOk ?_); conv => whnf) | (refine wl_quo rfl rfl rfl rfl rfl rfl (by omega) (by omega) (by simp only [inK]; omega) (run_l tabOk ?_); conv => whnf) | (refine wl_mul rfl rfl rfl rfl rfl rfl (by omega) (by omega) (run_l tabOk ?_); conv => whnf) | (refine gs_dt (by first | assumption | omega) ?_; conv => whnf) | (refine gs_df (by first | assumption | omega) ?_; conv => whnf) | (refine gs_t (by assumption) ?_; conv => whnf) | (refine gs_f (by assumption) ?_; conv => whnf) | (refine gs_d (fun hg => ?_) (fun hg => ?_) <;> conv => whnf) | (refine gs_n (fun hg => ?_) (fun hg => ?_) <;> conv => whnf) | (refine gs_nb (fun hg => ?_) (fun hg => ?_) <;> conv => whnf) | (refine gs_b (fun hg => ?_) (fun hg => ?_) <;> conv => whnf) | refine fin1 rfl rfl ?_))
        exact ⟨(i + 1, s), ⟨rfl, rfl, rfl, trivial⟩, ⟨by omega, hB, ⟨O, vk, vn, hK⟩, hI, hp, hcnt, fun y hy => by
          have hy : y < i + 1 := hy
          show 0 < s.idx y
          by_cases e : y = i
          · rw [e]; omega
          · exact hall y (by omega)⟩, by omega⟩
    · obtain ⟨bs, hkg, _, _⟩ := hK.knots
      obtain ⟨An, cn, evn, hcn2, hrk⟩ := hkg.row
      subst evn
      have hkl : (knI s.kn).length = s.kn.length := by simp [knI]
      (repeat' (first | (refine wl_add rfl rfl rfl rfl rfl rfl (by omega) (by omega) (run_l tabOk ?_); conv => whnf) | (refine wl_sub rfl rfl rfl rfl rfl rfl (by omega) (by omega) (run_l tabOk ?_); conv => whnf) | (refine wl_cvA tabOk rfl rfl rfl (by simp only [inK]; omega) rfl rfl rfl (run_l tabOk ?_); conv => whnf) | (refine wl_cvB tabOk rfl rfl rfl rfl rfl rfl (run_l tabOk ?_); conv => whnf) | (refine wl_rem rfl rfl rfl rfl rfl rfl (by omega) (by omega) (fun r hr hr0 hr1 hr2 => run_l tabOk ?_); conv => whnf) | (refine wl_quo rfl rfl rfl rfl rfl rfl (by omega) (by omega) (by simp only [inK]; omega) (run_l tabOk ?_); conv => whnf) | (refine wl_mul rfl rfl rfl rfl rfl rfl (by omega) (by omega) (run_l tabOk ?_); conv => whnf) | (refine gs_dt (by first | assumption | omega) ?_; conv => whnf) | (refine gs_df (by first | assumption | omega) ?_; conv => whnf) | (refine gs_t (by assumption) ?_; conv => whnf) | (refine gs_f (by assumption) ?_; conv => whnf) | (refine gs_d (fun hg => ?_) (fun hg => ?_) <;> conv => whnf) | (refine gs_n (fun hg => ?_) (fun hg => ?_) <;> conv => whnf) | (refine gs_nb (fun hg => ?_) (fun hg => ?_) <;> conv => whnf) | (refine gs_b (fun hg => ?_) (fun hg => ?_) <;> conv => whnf) | refine fin1 rfl rfl ?_))
      refine wc_qr tabOk mixed (by kernel_rfl) ?_; conv => whnf
      (repeat' (first | (refine wq_Lg tabOk hbox rfl rfl rfl rfl rfl rfl rfl (run_q tabOk ?_); conv => whnf) | (refine wq_add rfl rfl rfl rfl rfl rfl (by omega) (by omega) (run_q tabOk ?_); conv => whnf) | (refine wq_sub rfl rfl rfl rfl rfl rfl (by omega) (by omega) (run_q tabOk ?_); conv => whnf) | (refine wq_cvA tabOk rfl rfl rfl (by simp only [inK]; omega) rfl rfl rfl (run_q tabOk ?_); conv => whnf) | (refine wq_cvB tabOk rfl rfl rfl rfl rfl rfl (run_q tabOk ?_); conv => whnf) | (refine wq_rem rfl rfl rfl rfl rfl rfl (by omega) (by omega) (fun r hr hr0 hr1 hr2 => run_q tabOk ?_); conv => whnf) | (refine wq_quo rfl rfl rfl rfl rfl rfl (by omega) (by omega) (by simp only [inK]; omega) (run_q tabOk ?_); conv => whnf) | (refine wq_mul rfl rfl rfl rfl rfl rfl (by omega) (by omega) (run_q tabOk ?_); conv => whnf) | (refine gs_dt (by first | assumption | omega) ?_; conv => whnf) | (refine gs_df (by first | assumption | omega) ?_; conv => whnf) | (refine gs_t (by assumption) ?_; conv => whnf) | (refine gs_f (by assumption) ?_; conv => whnf) | (refine gs_d (fun hg => ?_) (fun hg => ?_) <;> conv => whnf) | (refine gs_n (fun hg => ?_) (fun hg => ?_) <;> conv => whnf) | (refine gs_nb (fun hg => ?_) (fun hg => ?_) <;> conv => whnf) | (refine gs_b (fun hg => ?_) (fun hg => ?_) <;> conv => whnf)))
      intro w6 hB6
      conv => whnf
      have hin : i = g.length := by omega
      have hD := hI.done hp (fun v hv => hall v (by omega))
      have hof := hK.bo.1
      rw [fI_vi] at hof
      have hofR := row_of_blk hof (elems_viN (w := wr) (fun x hx => by
        obtain ⟨v, hv, rfl⟩ := List.mem_map.1 hx
        have := (hD.at_ v (by have := List.mem_range.1 hv; omega)).1
        have := hI.kn_le
        omega)) (by simp; omega)
      refine fin2 rfl rfl rfl ⟨⟨s.kn, s.of, An, cn, c.go, ?_, hD, hrk.up stays_Ints hB6, by omega, ?_⟩, bup hB hB6⟩
      · rw [hkl, hcg]
      · have e : ofI g.length s.of = ((List.range c.n).map s.of).map fun (x : Nat) => (x : Int) := by simp [ofI, hcg, List.map_map, Function.comp_def]
        rw [e]
        exact hofR.up (stays_I _) hB6
end Go.Proofs.Ytomldckplkecbaa

/- The example of the document's chapter on knots. -/
namespace Go.Proofs.Ytomldckplkecbaa
open Go.RowKit
set_option linter.unusedVariables false
set_option linter.unusedSimpArgs false
set_option maxRecDepth 100000
theorem knI_len (kn : List (List Nat)) : (knI kn).length = kn.length := by simp [knI]
theorem knI_at {kn : List (List Nat)} {k : Nat} (h : k < kn.length) : (knI kn)[k]! = (kn[k]!).map fun (x : Nat) => (x : Int) := by
  rw [getElem!_pos _ k (by rw [knI_len]; exact h), getElem!_pos kn k h]
  simp [knI]
theorem castI_at {l : List Nat} {i : Nat} (h : i < l.length) : (l.map fun (x : Nat) => (x : Int))[i]! = (l[i]! : Int) := by
  rw [getElem!_pos _ i (by simpa using h), getElem!_pos l i h]
  simp
/-- Two strictly rising rows of the same numbers are one. -/
theorem rise_eq : ∀ {a b : List Nat}, a.Pairwise (· < ·) → b.Pairwise (· < ·) → (∀ x, x ∈ a ↔ x ∈ b) → a = b
  | [], [], _, _, _ => rfl
  | [], y :: b, _, _, h => by have := (h y).2 (by simp); cases this
  | x :: a, [], _, _, h => by have := (h x).1 (by simp); cases this
  | x :: a, y :: b, ha, hb, h => by
    rw [List.pairwise_cons] at ha hb
    have hxy : x = y := by
      rcases List.mem_cons.1 ((h x).1 (by simp)) with e | h1
      · exact e
      · rcases List.mem_cons.1 ((h y).2 (by simp)) with e | h2
        · exact e.symm
        · have := ha.1 y h2
          have := hb.1 x h1
          omega
    subst hxy
    congr 1
    refine rise_eq ha.2 hb.2 fun z => ?_
    constructor
    · intro hz
      have := ha.1 z hz
      rcases List.mem_cons.1 ((h z).1 (by simp [hz])) with e | h1
      · omega
      · exact h1
    · intro hz
      have := hb.1 z hz
      rcases List.mem_cons.1 ((h z).2 (by simp [hz])) with e | h1
      · omega
      · exact h1
theorem kex {kn : List (List Nat)} {of : Nat → Nat} (h : KnOk [[1], [0], [1]] kn of) : kn.length = 2 ∧ kn[0]! = [0, 1] ∧ of 2 = 1 := by
  have e01 : Ed [[1], [0], [1]] 0 1 := ⟨0, by decide, by decide, by decide, rfl⟩
  have e10 : Ed [[1], [0], [1]] 1 0 := ⟨0, by decide, by decide, by decide, rfl⟩
  have e21 : Ed [[1], [0], [1]] 2 1 := ⟨0, by decide, by decide, by decide, rfl⟩
  have hno : ¬ Rg [[1], [0], [1]] 1 2 := fun hr => by
    have := hr.closed (P := fun x => x ≤ 1) (fun a b ha ⟨k, h1, h2, h3, h4⟩ => by
      have ha : a = 0 ∨ a = 1 := by omega
      rcases ha with rfl | rfl
      · have : k = 0 := by have : k < 1 := h3; omega
        subst this
        have : (1 : Int) = (b : Int) := h4
        show b ≤ 1
        omega
      · have : k = 0 := by have : k < 1 := h3; omega
        subst this
        have : (0 : Int) = (b : Int) := h4
        show b ≤ 1
        omega) (by show (1 : Nat) ≤ 1; omega)
    have : (2 : Nat) ≤ 1 := this
    omega
  have h01 : of 0 = of 1 := (h.scc 0 1 (by decide) (by decide)).2 ⟨.one e01, .one e10⟩
  have h12 : of 1 ≤ of 2 := h.ord 2 1 (by decide) (by decide) (.one e21)
  have hne : of 1 ≠ of 2 := fun e => hno ((h.scc 1 2 (by decide) (by decide)).1 e).1
  have hrep : ∀ k, k < kn.length → of 1 = k ∨ of 2 = k := fun k hk => by
    obtain ⟨v, hv, hvk⟩ := h.rep hk
    have hv : v < 3 := hv
    have : v = 0 ∨ v = 1 ∨ v = 2 := by omega
    rcases this with rfl | rfl | rfl
    · exact .inl (h01 ▸ hvk)
    · exact .inl hvk
    · exact .inr hvk
  have h2 := (h.at_ 2 (by decide)).1
  have h1z : of 1 = 0 := by
    have := hrep 0 (by omega)
    omega
  have h2o : of 2 = 1 := by
    have := hrep 1 (by omega)
    omega
  have hlen : kn.length = 2 := by
    apply Nat.le_antisymm _ (by omega)
    apply Nat.le_of_not_lt
    intro hlt
    have := hrep 2 hlt
    omega
  refine ⟨hlen, ?_, h2o⟩
  obtain ⟨_, hs, hm⟩ := h.kn 0 (by omega)
  refine rise_eq hs (by decide) fun x => ?_
  constructor
  · intro hx
    obtain ⟨h3, h4⟩ := hm x hx
    have h3 : x < 3 := h3
    have : x = 0 ∨ x = 1 ∨ x = 2 := by omega
    rcases this with rfl | rfl | rfl
    · simp
    · simp
    · omega
  · intro hx
    have hx : x = 0 ∨ x = 1 := by simpa using hx
    rcases hx with rfl | rfl
    · have := (h.at_ 0 (by decide)).2
      rw [h01, h1z] at this
      exact this
    · have := (h.at_ 1 (by decide)).2
      rw [h1z] at this
      exact this
set_option maxHeartbeats 4000000 in
theorem awake16 (w : World) : Calls Try.prog 12 #[] w fun e w' => e = .returned (.bool true) ∧ Below w.heap.size w w' := by
  refine enterR (args := []) tabOk Try.func12 rfl Try.ntmps12 rfl ?_; conv => whnf
  refine wl_bs tabOk 3 1 rfl rfl rfl rfl rfl rfl rfl rfl rfl rfl ?_
  intro g4 w1 hn1
  refine run_l tabOk ?_
  conv => whnf
  refine wl_bs tabOk 3 1 rfl rfl rfl rfl rfl rfl rfl rfl rfl rfl ?_
  intro g5 w2 hn2
  refine run_l tabOk ?_
  conv => whnf
  refine wl_bs tabOk 3 1 rfl rfl rfl rfl rfl rfl rfl rfl rfl rfl ?_
  intro g6 w3 hn3
  refine run_l tabOk ?_
  conv => whnf
  refine wl_bs tabOk 24 1 rfl rfl rfl rfl rfl rfl rfl rfl rfl rfl ?_
  intro g7 w4 hn4
  refine run_l tabOk ?_
  conv => whnf
  have b4 := hn4.old (hn3.old (hn2.old hn1.blk))
  have b5 := hn4.old (hn3.old hn2.blk)
  have b6 := hn4.old hn3.blk
  have b7 := hn4.blk
  have hB : Below w.heap.size w w4 := hn4.up (hn3.up (hn2.up hn1.below))
  have hone : ∀ (g : Nat) (x : Int), w4.heap[g]? = some (.cells #[.int .i64 x] 3 (0, 0)) → x = 0 ∨ x = 1 → dInts w4 [.slice (some ⟨g, 0, none⟩) 1 1] [x] := fun g x hb hx =>
    ⟨_, 1, rfl, Nat.le_refl _, row_of_blk hb (Elems.one (d := dI .i64) rfl (ints_one (w := w4) (flat := []) (xs := []) (by omega))) (by simp)⟩
  have hr : RRows w4 (some ⟨g7, 0, none⟩) [[1], [0], [1]] := by
    refine row_of_blk b7 ⟨rfl, fun i hi => ?_⟩ (by decide)
    have hi : i < 3 := hi
    have : i = 0 ∨ i = 1 ∨ i = 2 := by omega
    rcases this with rfl | rfl | rfl
    · exact hone g4 1 b4 (.inr rfl)
    · exact hone g5 0 b5 (.inl rfl)
    · exact hone g6 1 b6 (.inr rfl)
  refine wl_C fn13 (kFind [[1], [0], [1]] (some ⟨g7, 0, none⟩) 3 w4 hr (by decide)) rfl rfl rfl rfl rfl rfl rfl ?_
  rintro _ w5 ⟨⟨kn, of, An, cn, go, rfl, hK, hrk, hcn, hof⟩, hB5⟩
  refine ⟨_, rfl, run_l tabOk ?_⟩
  obtain ⟨k1, k2, k3⟩ := kex hK
  rw [k1, show ([[1], [0], [1]] : List (List Int)).length = 3 from rfl]
  conv => whnf
  obtain ⟨x, ad, B, c, ⟨hx⟩, rfl, hc1, hc2, ⟨hR⟩⟩ := rowsE hrk 0 (by rw [knI_len]; omega)
  rw [knI_at (by omega), k2] at hx
  subst hx
  obtain ⟨y, ad2, ⟨hy⟩, rfl, hc3, _, _⟩ := intsE hR 1 (by simp)
  have hy : (1 : Int) = y := hy
  subst hy
  obtain ⟨z, ad3, ⟨hz⟩, e3, hc4, _, _⟩ := intsE hof 2 (by rw [ofI_len]; decide)
  rw [ofI_at _ (by decide), k3] at hz
  have hz : (1 : Int) = z := hz
  subst hz
  injection e3 with e3
  subst e3
  have hc1' : w5.cell? (ad.add ((0 : Int).toNat * 1)) = some (.slice (some ad2) 2 c) := hc1
  have hc3' : w5.cell? (ad2.add ((1 : Int).toNat * 1)) = some (.int .i64 1) := hc3
  have hc4' : w5.cell? ((⟨go, 0, none⟩ : Addr).add ((2 : Int).toNat * 1)) = some (.int .i64 1) := hc4
  (repeat' (first | (refine wl_L tabOk rfl rfl rfl rfl rfl rfl hc1' (run_l tabOk ?_); conv => whnf) | (refine wl_L tabOk rfl rfl rfl rfl rfl rfl hc3' (run_l tabOk ?_); conv => whnf) | (refine wl_L tabOk rfl rfl rfl rfl rfl rfl hc4' (run_l tabOk ?_); conv => whnf) | (refine wl_X tabOk 24 1 rfl rfl rfl rfl rfl rfl rfl (by omega) (by omega) (run_l tabOk ?_); conv => whnf) | (refine wl_X tabOk 3 1 rfl rfl rfl rfl rfl rfl rfl (by omega) (by omega) (run_l tabOk ?_); conv => whnf) | (refine wl_add rfl rfl rfl rfl rfl rfl (by omega) (by omega) (run_l tabOk ?_); conv => whnf) | (refine wl_sub rfl rfl rfl rfl rfl rfl (by omega) (by omega) (run_l tabOk ?_); conv => whnf) | (refine wl_cvA tabOk rfl rfl rfl (by simp only [inK]; omega) rfl rfl rfl (run_l tabOk ?_); conv => whnf) | (refine wl_cvB tabOk rfl rfl rfl rfl rfl rfl (run_l tabOk ?_); conv => whnf) | (refine wl_rem rfl rfl rfl rfl rfl rfl (by omega) (by omega) (fun r hr hr0 hr1 hr2 => run_l tabOk ?_); conv => whnf) | (refine wl_quo rfl rfl rfl rfl rfl rfl (by omega) (by omega) (by simp only [inK]; omega) (run_l tabOk ?_); conv => whnf) | (refine wl_mul rfl rfl rfl rfl rfl rfl (by omega) (by omega) (run_l tabOk ?_); conv => whnf) | (refine gs_dt (by first | assumption | omega) ?_; conv => whnf) | (refine gs_df (by first | assumption | omega) ?_; conv => whnf) | (refine gs_t (by assumption) ?_; conv => whnf) | (refine gs_f (by assumption) ?_; conv => whnf) | (refine gs_d (fun hg => ?_) (fun hg => ?_) <;> conv => whnf) | (refine gs_n (fun hg => ?_) (fun hg => ?_) <;> conv => whnf) | (refine gs_nb (fun hg => ?_) (fun hg => ?_) <;> conv => whnf) | (refine gs_b (fun hg => ?_) (fun hg => ?_) <;> conv => whnf) | refine fin1 rfl rfl ?_))
  exact ⟨rfl, bup hB hB5⟩
end Go.Proofs.Ytomldckplkecbaa

/- Labels, in plain words. -/
namespace Go.Proofs.Ytomldckplkecbaa
set_option linter.unusedVariables false
set_option linter.unusedSimpArgs false
def fZ (K : Nat) (f : Nat → Int) : List Value := (List.range K).map fun k => Value.int .i64 (f k)
theorem fZ_len (K : Nat) (f : Nat → Int) : (fZ K f).length = K := by simp [fZ]
theorem fZ_get {K k : Nat} {f : Nat → Int} (h : k < K) : (fZ K f)[k]? = some (.int .i64 (f k)) := by simp [fZ, h]
theorem fZ_set (K : Nat) (f : Nat → Int) (k : Nat) (x : Int) : (fZ K f).set k (.int .i64 x) = fZ K (setF f k x) := by
  unfold fZ
  rw [range_setF]
  congr 1
  funext j
  unfold setF
  split <;> rfl
theorem fZ_zero (n : Nat) : (List.replicate n [Value.int .i64 0]).flatten = fZ n fun _ => 0 := by
  induction n with
  | zero => rfl
  | succ n ih =>
    have e : fZ (n + 1) (fun _ => 0) = fZ n (fun _ => 0) ++ [Value.int .i64 0] := by simp [fZ, List.range_succ]
    rw [e, ← ih, List.replicate_succ']
    simp
/-- What comes into a knot: other knots' labels, its own objects, and whether it is loose. -/
def seenX (of : Nat → Nat) (lab : Nat → Int) (k : Nat) (S : List Int) (x : Int) : List Int := if of x.toNat ≠ k ∧ lab (of x.toNat) ≠ -1 then addI S (lab (of x.toNat)) else S
def seenV (into : List (List Int)) (of : Nat → Nat) (lab : Nat → Int) (k : Nat) (S : List Int) (v : Nat) : List Int := (into[v]!).foldl (seenX of lab k) S
def ownV (bases : List (List Int)) (vars : Nat) (W : List Int) (v : Nat) : List Int := if v < vars then (bases[v]!).foldl addI W else W
def looV (lo : List Bool) (b : Bool) (v : Nat) : Bool := b || lo[v]!
/-- A graph of a system's: what Labels wants of it. -/
structure GOk (vars : Nat) (into bases : List (List Int)) (lo : List Bool) : Prop where
  ni : into.length = 2 * vars
  nb : bases.length = vars
  nl : lo.length = 2 * vars
  small : vars ≤ 16384
  ri : ∀ v, v < into.length → ∀ x ∈ into[v]!, 0 ≤ x ∧ x < (into.length : Int)
  rb : ∀ v, v < bases.length → ∀ x ∈ bases[v]!, 0 ≤ x ∧ x < 16384
structure LabS where
  lab : Nat → Int
  nx : Nat
  ob : Int → Option Nat
section
variable (vars : Nat) (into bases : List (List Int)) (lo : List Bool) (kn : List (List Nat)) (of : Nat → Nat)
def seenK (lab : Nat → Int) (k : Nat) : List Int := (kn[k]!).foldl (seenV into of lab k) []
def ownK (k : Nat) : List Int := (kn[k]!).foldl (ownV bases vars) []
def looK (k : Nat) : Bool := (kn[k]!).foldl (looV lo) false
def labR (s : LabS) (k : Nat) : Int × Nat × (Int → Option Nat) := labelF (seenK into kn of s.lab k) (ownK vars bases kn k) (looK lo kn k) s.ob s.nx
def labN : Nat → LabS
  | 0 => ⟨fun _ => 0, 0, fun _ => none⟩
  | k + 1 => let s := labN k; let r := labR vars into bases lo kn of s k; ⟨setF s.lab k r.1, r.2.1, r.2.2⟩
end
/-- What holds of labels: they are below the next number. -/
structure LOk (k : Nat) (s : LabS) : Prop where
  lab : ∀ j, j < k → -1 ≤ s.lab j ∧ s.lab j < s.nx
  ob : ∀ x m, s.ob x = some m → m < s.nx
  nx : s.nx ≤ k
theorem addI_nodup {L : List Int} (h : L.Nodup) (x : Int) : (addI L x).Nodup := by
  unfold addI
  split
  · exact h
  · rename_i hx
    rw [List.nodup_append]
    exact ⟨h, by simp, fun a ha c hc e => by simp at hc; subst hc; exact hx (e ▸ ha)⟩
theorem addI_all {p : Int → Prop} {L : List Int} {x : Int} (h : ∀ y ∈ L, p y) (hx : p x) : ∀ y ∈ addI L x, p y := fun y hy => by
  rcases addI_mem.1 hy with h1 | rfl
  · exact h y h1
  · exact hx
theorem nodupI_len {L : List Int} {b : Nat} (h : L.Nodup) (hb : ∀ x ∈ L, 0 ≤ x ∧ x < (b : Int)) : L.length ≤ b := by
  have := nodup_lenK (n := b) (l := L.map Int.toNat) (by
    rw [List.nodup_iff_pairwise_ne, List.pairwise_map]
    rw [List.nodup_iff_pairwise_ne] at h
    exact h.imp_of_mem fun {x y} hx hy hne e => hne (by have := hb x hx; have := hb y hy; omega)) (fun v hv => by
    obtain ⟨x, hx, rfl⟩ := List.mem_map.1 hv
    have := hb x hx
    omega)
  simpa using this
theorem fold_inv {α β : Type} {p : α → Prop} {f : α → β → α} (l : List β) (a : α) (ha : p a) (hf : ∀ a b, b ∈ l → p a → p (f a b)) : p (l.foldl f a) := by
  induction l generalizing a with
  | nil => exact ha
  | cons b r ih => exact ih (f a b) (hf a b (by simp) ha) fun a c hc hp => hf a c (by simp [hc]) hp
/-- Own objects: in their range. -/
def OwnP (W : List Int) : Prop := W.Nodup ∧ ∀ x ∈ W, 0 ≤ x ∧ x < 16384
theorem ownV_ok {vars : Nat} {bases : List (List Int)} {W : List Int} {v : Nat} (hb : ∀ v, v < vars → ∀ x ∈ bases[v]!, 0 ≤ x ∧ x < 16384) (h : OwnP W) : OwnP (ownV bases vars W v) := by
  unfold ownV
  split
  · rename_i hv
    exact fold_inv _ _ h fun W x hx hW => ⟨addI_nodup hW.1 x, addI_all hW.2 (hb v hv x hx)⟩
  · exact h
def SeenP (m : Nat) (S : List Int) : Prop := S.Nodup ∧ ∀ x ∈ S, 0 ≤ x ∧ x < (m : Int)
theorem seenX_ok {of : Nat → Nat} {lab : Nat → Int} {k m : Nat} {S : List Int} {x : Int} (hl : ∀ j, j < k → -1 ≤ lab j ∧ lab j < m) (ho : of x.toNat ≤ k) (h : SeenP m S) : SeenP m (seenX of lab k S x) := by
  unfold seenX
  split
  · rename_i hc
    have := hl _ (Nat.lt_of_le_of_ne ho hc.1)
    exact ⟨addI_nodup h.1 _, addI_all h.2 ⟨by omega, by omega⟩⟩
  · exact h
theorem seenV_ok {into : List (List Int)} {of : Nat → Nat} {lab : Nat → Int} {k m : Nat} {S : List Int} {v : Nat} (hl : ∀ j, j < k → -1 ≤ lab j ∧ lab j < m) (ho : ∀ x ∈ into[v]!, of x.toNat ≤ k) (h : SeenP m S) : SeenP m (seenV into of lab k S v) :=
  fold_inv _ _ h fun S x hx hS => seenX_ok hl (ho x hx) hS
theorem KnOk.down {into : List (List Int)} {kn : List (List Nat)} {of : Nat → Nat} (h : KnOk into kn of) (hri : ∀ v, v < into.length → ∀ x ∈ into[v]!, 0 ≤ x ∧ x < (into.length : Int)) {k v : Nat} (hk : k < kn.length) (hv : v ∈ kn[k]!) : v < into.length ∧ ∀ x ∈ into[v]!, of x.toNat ≤ k := by
  obtain ⟨h1, h2⟩ := (h.kn k hk).2.2 v hv
  refine ⟨h1, fun x hx => ?_⟩
  obtain ⟨h3, h4⟩ := hri v h1 x hx
  obtain ⟨j, hj, e⟩ := List.getElem_of_mem hx
  have he : Ed into v x.toNat := ⟨j, h1, by omega, hj, by rw [getElem!_pos _ j hj, e]; omega⟩
  rw [← h2]
  exact h.ord v x.toNat h1 (by omega) (.one he)
theorem labelF_ok {S W : List Int} {b : Bool} {f : Int → Option Nat} {m : Nat} (hS : ∀ x ∈ S, 0 ≤ x ∧ x < (m : Int)) (hf : ∀ x q, f x = some q → q < m) :
    (-1 ≤ (labelF S W b f m).1 ∧ (labelF S W b f m).1 < ((labelF S W b f m).2.1 : Int)) ∧ (m ≤ (labelF S W b f m).2.1 ∧ (labelF S W b f m).2.1 ≤ m + 1) ∧ ∀ x q, (labelF S W b f m).2.2 x = some q → q < (labelF S W b f m).2.1 := by
  unfold labelF
  split
  · refine ⟨⟨?_, ?_⟩, ⟨?_, ?_⟩, ?_⟩
    · simp only; omega
    · simp only; omega
    · simp only; omega
    · simp only; omega
    · intro x q h
      have := hf x q h
      simp only; omega
  · cases S with
    | cons x r =>
      have := hS x (by simp)
      refine ⟨⟨?_, ?_⟩, ⟨?_, ?_⟩, fun x q h => hf x q h⟩ <;> simp only [labelO] <;> omega
    | nil =>
      cases W with
      | nil => refine ⟨⟨?_, ?_⟩, ⟨?_, ?_⟩, fun x q h => hf x q h⟩ <;> simp only [labelO] <;> omega
      | cons o r =>
        cases hq : f o with
        | some q =>
          have := hf o q hq
          have e : labelO [] (o :: r) f m = ((q : Int), m, f) := by simp only [labelO, hq]
          rw [e]
          refine ⟨⟨?_, ?_⟩, ⟨?_, ?_⟩, fun x q h => hf x q h⟩ <;> simp only <;> omega
        | none =>
          have e : labelO [] (o :: r) f m = ((m : Int), m + 1, putN f o m) := by simp only [labelO, hq]
          rw [e]
          refine ⟨⟨?_, ?_⟩, ⟨?_, ?_⟩, fun x q h => ?_⟩
          · simp only; omega
          · simp only; omega
          · simp only; omega
          · simp only; omega
          · simp only at h ⊢
            unfold putN at h
            split at h
            · injection h with h; omega
            · have := hf x q h; omega
section
variable {vars : Nat} {into bases : List (List Int)} {lo : List Bool} {kn : List (List Nat)} {of : Nat → Nat}
theorem seenK_ok (hG : GOk vars into bases lo) (hK : KnOk into kn of) {s : LabS} {k : Nat} (hk : k < kn.length) (h : LOk k s) : SeenP s.nx (seenK into kn of s.lab k) :=
  fold_inv _ _ ⟨.nil, by simp⟩ fun S v hv hS => seenV_ok h.lab (hK.down hG.ri hk hv).2 hS
theorem labN_ok (hG : GOk vars into bases lo) (hK : KnOk into kn of) : ∀ k, k ≤ kn.length → LOk k (labN vars into bases lo kn of k)
  | 0, _ => ⟨fun j hj => absurd hj (Nat.not_lt_zero j), fun x m h => by (cases h), Nat.le_refl _⟩
  | k + 1, hk => by
    have ih := labN_ok hG hK k (by omega)
    have h1 := seenK_ok hG hK (by omega : k < kn.length) ih
    obtain ⟨h2, h3, h4⟩ := labelF_ok (W := ownK vars bases kn k) (b := looK lo kn k) h1.2 ih.ob
    refine ⟨fun j hj => ?_, h4, ?_⟩
    · show -1 ≤ setF _ k _ j ∧ setF _ k _ j < _
      by_cases e : j = k
      · subst e
        rw [setF_at]
        exact h2
      · rw [setF_ne _ _ e]
        have := ih.lab j (by omega)
        have h5 : (labN vars into bases lo kn of k).nx ≤ (labN vars into bases lo kn of (k + 1)).nx := h3.1
        omega
    · have h5 : (labN vars into bases lo kn of (k + 1)).nx ≤ (labN vars into bases lo kn of k).nx + 1 := h3.2
      have := ih.nx
      omega
end
end Go.Proofs.Ytomldckplkecbaa

/- weathervaneref12.Right: what it answers. -/
namespace Go.Proofs.Ytomldckplkecbaa
open Go.RowKit
set_option linter.unusedVariables false
set_option linter.unusedSimpArgs false
set_option maxRecDepth 100000
set_option maxHeartbeats 1000000
end Go.Proofs.Ytomldckplkecbaa
