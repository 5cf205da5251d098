/- The walks of SolveLeast, SolveRaw. -/
import Derived.Test.YtkjbkalakafnlaaDoorZ18
import Derived.Test.YtkjbkalakafnlaaDoorZ20
import Derived.Test.YtkjbkalakafnlaaDoorZ21
namespace Go.Proofs.YtkjbkalakafnlaaDoor
open Go.RowKit
set_option linter.unusedVariables false
set_option linter.unusedSimpArgs false
set_option maxRecDepth 100000
theorem retBt {b : Bool} (h : b = true) : Ending.returned (.bool b) = .returned (.bool true) := by rw [h]
set_option maxHeartbeats 8000000 in
theorem lawSolveLeast (d : Draft) (A : Option Addr) (c : Nat) (w : World) (hT : Tab w) (h : RActs w A d.acts) (hk : (0 ≤ d.vars ∧ d.vars ≤ 255) ∧ 0 ≤ d.cells ∧ d.cells ≤ 255) :
    Calls Tryd.prog 10 #[.agg #[.int .u8 d.vars, .int .u8 d.cells, .slice A d.acts.length c]] w fun e w' => e = .returned (.bool true) ∧ Below w.heap.size w w' := by
  refine enterR (args := [.agg #[.int .u8 d.vars, .int .u8 d.cells, .slice A d.acts.length c]]) tabOk Tryd.func10 rfl Tryd.ntmps10 rfl ?_; conv => whnf
  refine wl_box rfl rfl rfl rfl rfl rfl ?_
  intro g1 w1 hn1
  refine run_l tabOk ?_
  conv => whnf
  refine wl_C fn32 (awake20 _ (hT.up hn1.below)) rfl rfl rfl rfl rfl rfl rfl ?_
  rintro _ w2 ⟨rfl, hB2⟩
  have hb := blk_up hB2 hn1.blk
  have hB := bup hn1.below hB2
  clear hn1 hB2
  refine ⟨_, rfl, run_l tabOk ?_⟩
  conv => whnf
  (repeat' (first | (refine wl_Lg tabOk hb rfl rfl rfl rfl rfl rfl rfl (run_l tabOk ?_); conv => whnf) | (refine wl_add rfl rfl rfl rfl rfl rfl (by omega) (by omega) (run_l tabOk ?_); conv => whnf) | (refine wl_sub rfl rfl rfl rfl rfl rfl (by omega) (by omega) (run_l tabOk ?_); conv => whnf) | (refine wl_cvA tabOk rfl rfl rfl (by simp only [inK]; omega) rfl rfl rfl (run_l tabOk ?_); conv => whnf) | (refine wl_cvB tabOk rfl rfl rfl rfl rfl rfl (run_l tabOk ?_); conv => whnf) | (refine wl_rem rfl rfl rfl rfl rfl rfl (by omega) (by omega) (fun r hr hr0 hr1 hr2 => run_l tabOk ?_); conv => whnf) | (refine wl_quo rfl rfl rfl rfl rfl rfl (by omega) (by omega) (by simp only [inK]; omega) (run_l tabOk ?_); conv => whnf) | (refine wl_mul rfl rfl rfl rfl rfl rfl (by omega) (by omega) (run_l tabOk ?_); conv => whnf) | (refine gs_dt (by first | assumption | omega) ?_; conv => whnf) | (refine gs_df (by first | assumption | omega) ?_; conv => whnf) | (refine gs_t (by assumption) ?_; conv => whnf) | (refine gs_f (by assumption) ?_; conv => whnf) | (refine gs_d (fun hg => ?_) (fun hg => ?_) <;> conv => whnf) | (refine gs_n (fun hg => ?_) (fun hg => ?_) <;> conv => whnf) | (refine gs_nb (fun hg => ?_) (fun hg => ?_) <;> conv => whnf) | (refine gs_b (fun hg => ?_) (fun hg => ?_) <;> conv => whnf) | refine fin1 rfl rfl ?_))
  · refine wl_C fn32 (awake20 _ (hT.up hB)) rfl rfl rfl rfl rfl rfl rfl ?_
    rintro _ w3 ⟨rfl, hB3⟩
    refine ⟨_, rfl, run_l tabOk ?_⟩
    conv => whnf
    (repeat' (first | (refine wl_add rfl rfl rfl rfl rfl rfl (by omega) (by omega) (run_l tabOk ?_); conv => whnf) | (refine wl_sub rfl rfl rfl rfl rfl rfl (by omega) (by omega) (run_l tabOk ?_); conv => whnf) | (refine wl_cvA tabOk rfl rfl rfl (by simp only [inK]; omega) rfl rfl rfl (run_l tabOk ?_); conv => whnf) | (refine wl_cvB tabOk rfl rfl rfl rfl rfl rfl (run_l tabOk ?_); conv => whnf) | (refine wl_rem rfl rfl rfl rfl rfl rfl (by omega) (by omega) (fun r hr hr0 hr1 hr2 => run_l tabOk ?_); conv => whnf) | (refine wl_quo rfl rfl rfl rfl rfl rfl (by omega) (by omega) (by simp only [inK]; omega) (run_l tabOk ?_); conv => whnf) | (refine wl_mul rfl rfl rfl rfl rfl rfl (by omega) (by omega) (run_l tabOk ?_); conv => whnf) | (refine gs_dt (by first | assumption | omega) ?_; conv => whnf) | (refine gs_df (by first | assumption | omega) ?_; conv => whnf) | (refine gs_t (by assumption) ?_; conv => whnf) | (refine gs_f (by assumption) ?_; conv => whnf) | (refine gs_d (fun hg => ?_) (fun hg => ?_) <;> conv => whnf) | (refine gs_n (fun hg => ?_) (fun hg => ?_) <;> conv => whnf) | (refine gs_nb (fun hg => ?_) (fun hg => ?_) <;> conv => whnf) | (refine gs_b (fun hg => ?_) (fun hg => ?_) <;> conv => whnf) | refine fin1 rfl rfl ?_))
    exact ⟨rfl, bup hB hB3⟩
  (repeat' (first | (refine wl_Lag tabOk hb rfl rfl rfl rfl rfl rfl (run_l tabOk ?_); conv => whnf) | (refine wl_add rfl rfl rfl rfl rfl rfl (by omega) (by omega) (run_l tabOk ?_); conv => whnf) | (refine wl_sub rfl rfl rfl rfl rfl rfl (by omega) (by omega) (run_l tabOk ?_); conv => whnf) | (refine wl_cvA tabOk rfl rfl rfl (by simp only [inK]; omega) rfl rfl rfl (run_l tabOk ?_); conv => whnf) | (refine wl_cvB tabOk rfl rfl rfl rfl rfl rfl (run_l tabOk ?_); conv => whnf) | (refine wl_rem rfl rfl rfl rfl rfl rfl (by omega) (by omega) (fun r hr hr0 hr1 hr2 => run_l tabOk ?_); conv => whnf) | (refine wl_quo rfl rfl rfl rfl rfl rfl (by omega) (by omega) (by simp only [inK]; omega) (run_l tabOk ?_); conv => whnf) | (refine wl_mul rfl rfl rfl rfl rfl rfl (by omega) (by omega) (run_l tabOk ?_); conv => whnf) | (refine gs_dt (by first | assumption | omega) ?_; conv => whnf) | (refine gs_df (by first | assumption | omega) ?_; conv => whnf) | (refine gs_t (by assumption) ?_; conv => whnf) | (refine gs_f (by assumption) ?_; conv => whnf) | (refine gs_d (fun hg => ?_) (fun hg => ?_) <;> conv => whnf) | (refine gs_n (fun hg => ?_) (fun hg => ?_) <;> conv => whnf) | (refine gs_nb (fun hg => ?_) (fun hg => ?_) <;> conv => whnf) | (refine gs_b (fun hg => ?_) (fun hg => ?_) <;> conv => whnf) | refine fin1 rfl rfl ?_))
  refine wl_C fn33 (refMake d A c w2 (h.up stays_Act hB) hk.1 hk.2) rfl rfl rfl rfl rfl rfl rfl ?_
  rintro _ w3 ⟨s, va, vb', bs, cs, rfl, hB3, hM⟩
  have hright := hM.right
  have hvars := hM.vars
  have hncells := hM.ncells
  have hncons := hM.ncons
  obtain ⟨A1, c1, rfl, _, hq1⟩ := hM.cells.row
  obtain ⟨A2, c2, rfl, hlc2, hq2⟩ := hM.cons.row
  have hB03 := bup hB hB3
  clear hM hB
  obtain ⟨vars, xs, ys⟩ := s
  simp only at hright hvars hq1 hq2 hncells hncons hlc2
  obtain ⟨n, rfl⟩ : ∃ n : Nat, vars = n := ⟨vars.toNat, by omega⟩
  refine ⟨_, rfl, run_l tabOk ?_⟩
  conv => whnf
  refine wl_alloc tabOk rfl rfl rfl rfl rfl rfl ?_
  intro g3 w4 hn4
  refine wl_Sa tabOk hn4.blk rfl rfl rfl rfl rfl (by simp [Value.oneCell']) rfl rfl ?_
  intro w5 hp5
  have hB5 : Below w3.heap.size w3 w5 := hp5.below hn4.below (by have := hn4.at_; omega) (by have := hn4.size; omega)
  have hb3 : w5.heap[g3]? = some (.cells #[.int .i64 n, .slice A1 xs.length c1, .slice A2 ys.length c2] 54 (0, 0)) := hp5.blk
  have hb1 := blk_up hB5 (blk_up hB3 hb)
  have hq1 := hq1.up stays_Cell hB5
  have hq2 := hq2.up stays_Con hB5
  have hB05 := bup hB03 hB5
  clear hp5 hn4 hB03 hB5 hB3 hb
  refine run_l tabOk ?_
  conv => whnf
  (repeat' (first | (refine wl_Lag tabOk hb3 rfl rfl rfl rfl rfl rfl (run_l tabOk ?_); conv => whnf) | (refine wl_add rfl rfl rfl rfl rfl rfl (by omega) (by omega) (run_l tabOk ?_); conv => whnf) | (refine wl_sub rfl rfl rfl rfl rfl rfl (by omega) (by omega) (run_l tabOk ?_); conv => whnf) | (refine wl_cvA tabOk rfl rfl rfl (by simp only [inK]; omega) rfl rfl rfl (run_l tabOk ?_); conv => whnf) | (refine wl_cvB tabOk rfl rfl rfl rfl rfl rfl (run_l tabOk ?_); conv => whnf) | (refine wl_rem rfl rfl rfl rfl rfl rfl (by omega) (by omega) (fun r hr hr0 hr1 hr2 => run_l tabOk ?_); conv => whnf) | (refine wl_quo rfl rfl rfl rfl rfl rfl (by omega) (by omega) (by simp only [inK]; omega) (run_l tabOk ?_); conv => whnf) | (refine wl_mul rfl rfl rfl rfl rfl rfl (by omega) (by omega) (run_l tabOk ?_); conv => whnf) | (refine gs_dt (by first | assumption | omega) ?_; conv => whnf) | (refine gs_df (by first | assumption | omega) ?_; conv => whnf) | (refine gs_t (by assumption) ?_; conv => whnf) | (refine gs_f (by assumption) ?_; conv => whnf) | (refine gs_d (fun hg => ?_) (fun hg => ?_) <;> conv => whnf) | (refine gs_n (fun hg => ?_) (fun hg => ?_) <;> conv => whnf) | (refine gs_nb (fun hg => ?_) (fun hg => ?_) <;> conv => whnf) | (refine gs_b (fun hg => ?_) (fun hg => ?_) <;> conv => whnf) | refine fin1 rfl rfl ?_))
  refine wl_C fn34 (solveLeast n xs ys A1 A2 c1 c2 w5 hq1 hq2 hright (hT.up hB05)) rfl rfl rfl rfl rfl rfl rfl ?_
  rintro _ w6 ⟨M, Ap, cap, k, rfl, hIL, hrr, _, hkb, hB6⟩
  have hsh : Shape n xs.length M := by simpa using hIL.sh
  have hpl : (ptsOf M).length = n := by simp [ptsOf, hsh.rows]
  have hb3 := blk_up hB6 hb3
  have hq1 := hq1.up stays_Cell hB6
  have hq2 := hq2.up stays_Con hB6
  have hBw := bup hB05 hB6
  refine ⟨_, rfl, run_l tabOk ?_⟩
  conv => whnf
  (repeat' (first | (refine wl_Lg tabOk hb3 rfl rfl rfl rfl rfl rfl rfl (run_l tabOk ?_); conv => whnf) | (refine wl_Lag tabOk hb3 rfl rfl rfl rfl rfl rfl (run_l tabOk ?_); conv => whnf) | (refine wl_add rfl rfl rfl rfl rfl rfl (by omega) (by omega) (run_l tabOk ?_); conv => whnf) | (refine wl_sub rfl rfl rfl rfl rfl rfl (by omega) (by omega) (run_l tabOk ?_); conv => whnf) | (refine wl_cvA tabOk rfl rfl rfl (by simp only [inK]; omega) rfl rfl rfl (run_l tabOk ?_); conv => whnf) | (refine wl_cvB tabOk rfl rfl rfl rfl rfl rfl (run_l tabOk ?_); conv => whnf) | (refine wl_rem rfl rfl rfl rfl rfl rfl (by omega) (by omega) (fun r hr hr0 hr1 hr2 => run_l tabOk ?_); conv => whnf) | (refine wl_quo rfl rfl rfl rfl rfl rfl (by omega) (by omega) (by simp only [inK]; omega) (run_l tabOk ?_); conv => whnf) | (refine wl_mul rfl rfl rfl rfl rfl rfl (by omega) (by omega) (run_l tabOk ?_); conv => whnf) | (refine gs_dt (by first | assumption | omega) ?_; conv => whnf) | (refine gs_df (by first | assumption | omega) ?_; conv => whnf) | (refine gs_t (by assumption) ?_; conv => whnf) | (refine gs_f (by assumption) ?_; conv => whnf) | (refine gs_d (fun hg => ?_) (fun hg => ?_) <;> conv => whnf) | (refine gs_n (fun hg => ?_) (fun hg => ?_) <;> conv => whnf) | (refine gs_nb (fun hg => ?_) (fun hg => ?_) <;> conv => whnf) | (refine gs_b (fun hg => ?_) (fun hg => ?_) <;> conv => whnf) | refine fin1 rfl rfl ?_))
  refine wl_C fn36 (refLeast n xs ys A1 A2 c1 c2 w6 hq1 hq2 hright) rfl rfl rfl rfl rfl rfl rfl ?_
  rintro _ w7 ⟨M', Aq, capq, rfl, hIL', hrr', _, hB7⟩
  have hMM : M' = M := hIL'.unique hIL
  subst hMM
  have hrr := hrr.up stays_Ints hB7
  have hb3 := blk_up hB7 hb3
  have hBw := bup hBw hB7
  refine ⟨_, rfl, run_l tabOk ?_⟩
  conv => whnf
  (repeat' (first | (refine wl_add rfl rfl rfl rfl rfl rfl (by omega) (by omega) (run_l tabOk ?_); conv => whnf) | (refine wl_sub rfl rfl rfl rfl rfl rfl (by omega) (by omega) (run_l tabOk ?_); conv => whnf) | (refine wl_cvA tabOk rfl rfl rfl (by simp only [inK]; omega) rfl rfl rfl (run_l tabOk ?_); conv => whnf) | (refine wl_cvB tabOk rfl rfl rfl rfl rfl rfl (run_l tabOk ?_); conv => whnf) | (refine wl_rem rfl rfl rfl rfl rfl rfl (by omega) (by omega) (fun r hr hr0 hr1 hr2 => run_l tabOk ?_); conv => whnf) | (refine wl_quo rfl rfl rfl rfl rfl rfl (by omega) (by omega) (by simp only [inK]; omega) (run_l tabOk ?_); conv => whnf) | (refine wl_mul rfl rfl rfl rfl rfl rfl (by omega) (by omega) (run_l tabOk ?_); conv => whnf) | (refine gs_dt (by first | assumption | omega) ?_; conv => whnf) | (refine gs_df (by first | assumption | omega) ?_; conv => whnf) | (refine gs_t (by assumption) ?_; conv => whnf) | (refine gs_f (by assumption) ?_; conv => whnf) | (refine gs_d (fun hg => ?_) (fun hg => ?_) <;> conv => whnf) | (refine gs_n (fun hg => ?_) (fun hg => ?_) <;> conv => whnf) | (refine gs_nb (fun hg => ?_) (fun hg => ?_) <;> conv => whnf) | (refine gs_b (fun hg => ?_) (fun hg => ?_) <;> conv => whnf) | refine fin1 rfl rfl ?_))
  refine wl_C fn35 (by have := refSamePoints (ptsOf M') (ptsOf M') Ap Aq cap capq w7 hrr hrr'; rw [hpl] at this; exact this) rfl rfl rfl rfl rfl rfl rfl ?_
  rintro _ w8 ⟨rfl, hB8⟩
  rw [samePts_refl]
  have hb3 := blk_up hB8 hb3
  have hBw := bup hBw hB8
  have hble := bound_le hkb
  refine ⟨_, rfl, run_l tabOk ?_⟩
  conv => whnf
  (repeat' (first | (refine wl_Lg tabOk hb3 rfl rfl rfl rfl rfl rfl rfl (run_l tabOk ?_); conv => whnf) | ((refine wl_C fn37 (solveBound n xs.length (by omega) (by omega) _) rfl rfl rfl rfl rfl rfl rfl ?_); rintro _ _ ⟨rfl, rfl⟩; refine ⟨_, rfl, run_l tabOk ?_⟩; conv => whnf) | (refine wl_add rfl rfl rfl rfl rfl rfl (by omega) (by omega) (run_l tabOk ?_); conv => whnf) | (refine wl_sub rfl rfl rfl rfl rfl rfl (by omega) (by omega) (run_l tabOk ?_); conv => whnf) | (refine wl_cvA tabOk rfl rfl rfl (by simp only [inK]; omega) rfl rfl rfl (run_l tabOk ?_); conv => whnf) | (refine wl_cvB tabOk rfl rfl rfl rfl rfl rfl (run_l tabOk ?_); conv => whnf) | (refine wl_rem rfl rfl rfl rfl rfl rfl (by omega) (by omega) (fun r hr hr0 hr1 hr2 => run_l tabOk ?_); conv => whnf) | (refine wl_quo rfl rfl rfl rfl rfl rfl (by omega) (by omega) (by simp only [inK]; omega) (run_l tabOk ?_); conv => whnf) | (refine wl_mul rfl rfl rfl rfl rfl rfl (by omega) (by omega) (run_l tabOk ?_); conv => whnf) | (refine gs_dt (by first | assumption | omega) ?_; conv => whnf) | (refine gs_df (by first | assumption | omega) ?_; conv => whnf) | (refine gs_t (by assumption) ?_; conv => whnf) | (refine gs_f (by assumption) ?_; conv => whnf) | (refine gs_d (fun hg => ?_) (fun hg => ?_) <;> conv => whnf) | (refine gs_n (fun hg => ?_) (fun hg => ?_) <;> conv => whnf) | (refine gs_nb (fun hg => ?_) (fun hg => ?_) <;> conv => whnf) | (refine gs_b (fun hg => ?_) (fun hg => ?_) <;> conv => whnf) | refine fin1 rfl rfl ?_))
  all_goals exact ⟨retBt (by simp; omega), hBw⟩
set_option maxHeartbeats 8000000 in
theorem lawSolveRaw (s : Sys) (A1 A2 : Option Addr) (c1 c2 : Nat) (w : World) (hT : Tab w) (h1 : RCells w A1 s.cells) (h2 : RCons w A2 s.cons) (_ : IntKind.i64.min ≤ s.vars ∧ s.vars ≤ IntKind.i64.max) :
    Calls Tryd.prog 13 #[.agg #[.int .i64 s.vars, .slice A1 s.cells.length c1, .slice A2 s.cons.length c2]] w fun e w' => e = .returned (.bool true) ∧ Below w.heap.size w w' := by
  have m1 := h1.1
  have m2 := h2.1
  refine enterR (args := [.agg #[.int .i64 s.vars, .slice A1 s.cells.length c1, .slice A2 s.cons.length c2]]) tabOk Tryd.func13 rfl Tryd.ntmps13 rfl ?_; conv => whnf
  refine wl_box rfl rfl rfl rfl rfl rfl ?_
  intro g1 w1 hn1
  refine run_l tabOk ?_
  conv => whnf
  refine wl_C fn32 (awake20 _ (hT.up hn1.below)) rfl rfl rfl rfl rfl rfl rfl ?_
  rintro _ w2 ⟨rfl, hB2⟩
  have hb := blk_up hB2 hn1.blk
  have hB := bup hn1.below hB2
  clear hn1 hB2
  refine ⟨_, rfl, run_l tabOk ?_⟩
  conv => whnf
  (repeat' (first | (refine wl_Lg tabOk hb rfl rfl rfl rfl rfl rfl rfl (run_l tabOk ?_); conv => whnf) | (refine wl_add rfl rfl rfl rfl rfl rfl (by omega) (by omega) (run_l tabOk ?_); conv => whnf) | (refine wl_sub rfl rfl rfl rfl rfl rfl (by omega) (by omega) (run_l tabOk ?_); conv => whnf) | (refine wl_cvA tabOk rfl rfl rfl (by simp only [inK]; omega) rfl rfl rfl (run_l tabOk ?_); conv => whnf) | (refine wl_cvB tabOk rfl rfl rfl rfl rfl rfl (run_l tabOk ?_); conv => whnf) | (refine wl_rem rfl rfl rfl rfl rfl rfl (by omega) (by omega) (fun r hr hr0 hr1 hr2 => run_l tabOk ?_); conv => whnf) | (refine wl_quo rfl rfl rfl rfl rfl rfl (by omega) (by omega) (by simp only [inK]; omega) (run_l tabOk ?_); conv => whnf) | (refine wl_mul rfl rfl rfl rfl rfl rfl (by omega) (by omega) (run_l tabOk ?_); conv => whnf) | (refine gs_dt (by first | assumption | omega) ?_; conv => whnf) | (refine gs_df (by first | assumption | omega) ?_; conv => whnf) | (refine gs_t (by assumption) ?_; conv => whnf) | (refine gs_f (by assumption) ?_; conv => whnf) | (refine gs_d (fun hg => ?_) (fun hg => ?_) <;> conv => whnf) | (refine gs_n (fun hg => ?_) (fun hg => ?_) <;> conv => whnf) | (refine gs_nb (fun hg => ?_) (fun hg => ?_) <;> conv => whnf) | (refine gs_b (fun hg => ?_) (fun hg => ?_) <;> conv => whnf) | refine fin1 rfl rfl ?_))
  all_goals try (refine wl_C fn32 (awake20 _ (hT.up hB)) rfl rfl rfl rfl rfl rfl rfl ?_; rintro _ w3 ⟨rfl, hB3⟩; refine ⟨_, rfl, run_l tabOk ?_⟩; (conv => whnf); (repeat' (first | (refine wl_add rfl rfl rfl rfl rfl rfl (by omega) (by omega) (run_l tabOk ?_); conv => whnf) | (refine wl_sub rfl rfl rfl rfl rfl rfl (by omega) (by omega) (run_l tabOk ?_); conv => whnf) | (refine wl_cvA tabOk rfl rfl rfl (by simp only [inK]; omega) rfl rfl rfl (run_l tabOk ?_); conv => whnf) | (refine wl_cvB tabOk rfl rfl rfl rfl rfl rfl (run_l tabOk ?_); conv => whnf) | (refine wl_rem rfl rfl rfl rfl rfl rfl (by omega) (by omega) (fun r hr hr0 hr1 hr2 => run_l tabOk ?_); conv => whnf) | (refine wl_quo rfl rfl rfl rfl rfl rfl (by omega) (by omega) (by simp only [inK]; omega) (run_l tabOk ?_); conv => whnf) | (refine wl_mul rfl rfl rfl rfl rfl rfl (by omega) (by omega) (run_l tabOk ?_); conv => whnf) | (refine gs_dt (by first | assumption | omega) ?_; conv => whnf) | (refine gs_df (by first | assumption | omega) ?_; conv => whnf) | (refine gs_t (by assumption) ?_; conv => whnf) | (refine gs_f (by assumption) ?_; conv => whnf) | (refine gs_d (fun hg => ?_) (fun hg => ?_) <;> conv => whnf) | (refine gs_n (fun hg => ?_) (fun hg => ?_) <;> conv => whnf) | (refine gs_nb (fun hg => ?_) (fun hg => ?_) <;> conv => whnf) | (refine gs_b (fun hg => ?_) (fun hg => ?_) <;> conv => whnf) | refine fin1 rfl rfl ?_)); exact ⟨rfl, bup hB hB3⟩)
  (repeat' (first | (refine wl_Lag tabOk hb rfl rfl rfl rfl rfl rfl (run_l tabOk ?_); conv => whnf) | (refine wl_add rfl rfl rfl rfl rfl rfl (by omega) (by omega) (run_l tabOk ?_); conv => whnf) | (refine wl_sub rfl rfl rfl rfl rfl rfl (by omega) (by omega) (run_l tabOk ?_); conv => whnf) | (refine wl_cvA tabOk rfl rfl rfl (by simp only [inK]; omega) rfl rfl rfl (run_l tabOk ?_); conv => whnf) | (refine wl_cvB tabOk rfl rfl rfl rfl rfl rfl (run_l tabOk ?_); conv => whnf) | (refine wl_rem rfl rfl rfl rfl rfl rfl (by omega) (by omega) (fun r hr hr0 hr1 hr2 => run_l tabOk ?_); conv => whnf) | (refine wl_quo rfl rfl rfl rfl rfl rfl (by omega) (by omega) (by simp only [inK]; omega) (run_l tabOk ?_); conv => whnf) | (refine wl_mul rfl rfl rfl rfl rfl rfl (by omega) (by omega) (run_l tabOk ?_); conv => whnf) | (refine gs_dt (by first | assumption | omega) ?_; conv => whnf) | (refine gs_df (by first | assumption | omega) ?_; conv => whnf) | (refine gs_t (by assumption) ?_; conv => whnf) | (refine gs_f (by assumption) ?_; conv => whnf) | (refine gs_d (fun hg => ?_) (fun hg => ?_) <;> conv => whnf) | (refine gs_n (fun hg => ?_) (fun hg => ?_) <;> conv => whnf) | (refine gs_nb (fun hg => ?_) (fun hg => ?_) <;> conv => whnf) | (refine gs_b (fun hg => ?_) (fun hg => ?_) <;> conv => whnf) | refine fin1 rfl rfl ?_))
  have hq1 := h1.up stays_Cell hB
  have hq2 := h2.up stays_Con hB
  cases hright : rightB s with
  | true =>
    obtain ⟨vars, xs, ys⟩ := s
    have hr0 : 0 ≤ vars ∧ vars ≤ 16384 := by
      have hr := hright
      simp only [rightB, bigOk, Bool.and_eq_true, decide_eq_true_eq] at hr
      exact ⟨hr.1.1.1.1.1, hr.1.1.1.1.2⟩
    obtain ⟨n, rfl⟩ : ∃ n : Nat, vars = n := ⟨vars.toNat, by omega⟩
    simp only at hq1 hq2 hb m1 m2
    refine wl_C fn34 (solveLeast n xs ys A1 A2 c1 c2 w2 hq1 hq2 hright (hT.up hB)) rfl rfl rfl rfl rfl rfl rfl ?_
    rintro _ w6 ⟨M, Ap, cap, k, rfl, hIL, hrr, _, hkb, hB6⟩
    have hsh : Shape n xs.length M := by simpa using hIL.sh
    have hpl : (ptsOf M).length = n := by simp [ptsOf, hsh.rows]
    have hb := blk_up hB6 hb
    have hq1 := hq1.up stays_Cell hB6
    have hq2 := hq2.up stays_Con hB6
    have hBw := bup hB hB6
    refine ⟨_, rfl, run_l tabOk ?_⟩
    conv => whnf
    (repeat' (first | (refine wl_Lag tabOk hb rfl rfl rfl rfl rfl rfl (run_l tabOk ?_); conv => whnf) | (refine wl_add rfl rfl rfl rfl rfl rfl (by omega) (by omega) (run_l tabOk ?_); conv => whnf) | (refine wl_sub rfl rfl rfl rfl rfl rfl (by omega) (by omega) (run_l tabOk ?_); conv => whnf) | (refine wl_cvA tabOk rfl rfl rfl (by simp only [inK]; omega) rfl rfl rfl (run_l tabOk ?_); conv => whnf) | (refine wl_cvB tabOk rfl rfl rfl rfl rfl rfl (run_l tabOk ?_); conv => whnf) | (refine wl_rem rfl rfl rfl rfl rfl rfl (by omega) (by omega) (fun r hr hr0 hr1 hr2 => run_l tabOk ?_); conv => whnf) | (refine wl_quo rfl rfl rfl rfl rfl rfl (by omega) (by omega) (by simp only [inK]; omega) (run_l tabOk ?_); conv => whnf) | (refine wl_mul rfl rfl rfl rfl rfl rfl (by omega) (by omega) (run_l tabOk ?_); conv => whnf) | (refine gs_dt (by first | assumption | omega) ?_; conv => whnf) | (refine gs_df (by first | assumption | omega) ?_; conv => whnf) | (refine gs_t (by assumption) ?_; conv => whnf) | (refine gs_f (by assumption) ?_; conv => whnf) | (refine gs_d (fun hg => ?_) (fun hg => ?_) <;> conv => whnf) | (refine gs_n (fun hg => ?_) (fun hg => ?_) <;> conv => whnf) | (refine gs_nb (fun hg => ?_) (fun hg => ?_) <;> conv => whnf) | (refine gs_b (fun hg => ?_) (fun hg => ?_) <;> conv => whnf) | refine fin1 rfl rfl ?_))
    refine wl_C fn38 (refRight ⟨n, xs, ys⟩ A1 A2 c1 c2 w6 hq1 hq2) rfl rfl rfl rfl rfl rfl rfl ?_
    rintro _ w7 ⟨rfl, hB7⟩
    rw [hright]
    have hb := blk_up hB7 hb
    have hq1 := hq1.up stays_Cell hB7
    have hq2 := hq2.up stays_Con hB7
    have hrr := hrr.up stays_Ints hB7
    have hBw := bup hBw hB7
    refine ⟨_, rfl, run_l tabOk ?_⟩
    conv => whnf
    (repeat' (first | (refine wl_Lag tabOk hb rfl rfl rfl rfl rfl rfl (run_l tabOk ?_); conv => whnf) | (refine wl_add rfl rfl rfl rfl rfl rfl (by omega) (by omega) (run_l tabOk ?_); conv => whnf) | (refine wl_sub rfl rfl rfl rfl rfl rfl (by omega) (by omega) (run_l tabOk ?_); conv => whnf) | (refine wl_cvA tabOk rfl rfl rfl (by simp only [inK]; omega) rfl rfl rfl (run_l tabOk ?_); conv => whnf) | (refine wl_cvB tabOk rfl rfl rfl rfl rfl rfl (run_l tabOk ?_); conv => whnf) | (refine wl_rem rfl rfl rfl rfl rfl rfl (by omega) (by omega) (fun r hr hr0 hr1 hr2 => run_l tabOk ?_); conv => whnf) | (refine wl_quo rfl rfl rfl rfl rfl rfl (by omega) (by omega) (by simp only [inK]; omega) (run_l tabOk ?_); conv => whnf) | (refine wl_mul rfl rfl rfl rfl rfl rfl (by omega) (by omega) (run_l tabOk ?_); conv => whnf) | (refine gs_dt (by first | assumption | omega) ?_; conv => whnf) | (refine gs_df (by first | assumption | omega) ?_; conv => whnf) | (refine gs_t (by assumption) ?_; conv => whnf) | (refine gs_f (by assumption) ?_; conv => whnf) | (refine gs_d (fun hg => ?_) (fun hg => ?_) <;> conv => whnf) | (refine gs_n (fun hg => ?_) (fun hg => ?_) <;> conv => whnf) | (refine gs_nb (fun hg => ?_) (fun hg => ?_) <;> conv => whnf) | (refine gs_b (fun hg => ?_) (fun hg => ?_) <;> conv => whnf) | refine fin1 rfl rfl ?_))
    refine wl_C fn36 (refLeast n xs ys A1 A2 c1 c2 w7 hq1 hq2 hright) rfl rfl rfl rfl rfl rfl rfl ?_
    rintro _ w8 ⟨M', Aq, capq, rfl, hIL', hrr', _, hB8⟩
    have hMM : M' = M := hIL'.unique hIL
    subst hMM
    have hrr := hrr.up stays_Ints hB8
    have hBw := bup hBw hB8
    refine ⟨_, rfl, run_l tabOk ?_⟩
    conv => whnf
    (repeat' (first | (refine wl_add rfl rfl rfl rfl rfl rfl (by omega) (by omega) (run_l tabOk ?_); conv => whnf) | (refine wl_sub rfl rfl rfl rfl rfl rfl (by omega) (by omega) (run_l tabOk ?_); conv => whnf) | (refine wl_cvA tabOk rfl rfl rfl (by simp only [inK]; omega) rfl rfl rfl (run_l tabOk ?_); conv => whnf) | (refine wl_cvB tabOk rfl rfl rfl rfl rfl rfl (run_l tabOk ?_); conv => whnf) | (refine wl_rem rfl rfl rfl rfl rfl rfl (by omega) (by omega) (fun r hr hr0 hr1 hr2 => run_l tabOk ?_); conv => whnf) | (refine wl_quo rfl rfl rfl rfl rfl rfl (by omega) (by omega) (by simp only [inK]; omega) (run_l tabOk ?_); conv => whnf) | (refine wl_mul rfl rfl rfl rfl rfl rfl (by omega) (by omega) (run_l tabOk ?_); conv => whnf) | (refine gs_dt (by first | assumption | omega) ?_; conv => whnf) | (refine gs_df (by first | assumption | omega) ?_; conv => whnf) | (refine gs_t (by assumption) ?_; conv => whnf) | (refine gs_f (by assumption) ?_; conv => whnf) | (refine gs_d (fun hg => ?_) (fun hg => ?_) <;> conv => whnf) | (refine gs_n (fun hg => ?_) (fun hg => ?_) <;> conv => whnf) | (refine gs_nb (fun hg => ?_) (fun hg => ?_) <;> conv => whnf) | (refine gs_b (fun hg => ?_) (fun hg => ?_) <;> conv => whnf) | refine fin1 rfl rfl ?_))
    refine wl_C fn35 (by have := refSamePoints (ptsOf M') (ptsOf M') Ap Aq cap capq w8 hrr hrr'; rw [hpl] at this; exact this) rfl rfl rfl rfl rfl rfl rfl ?_
    rintro _ w9 ⟨rfl, hB9⟩
    rw [samePts_refl]
    have hBw := bup hBw hB9
    refine ⟨_, rfl, run_l tabOk ?_⟩
    conv => whnf
    (repeat' (first | (refine wl_add rfl rfl rfl rfl rfl rfl (by omega) (by omega) (run_l tabOk ?_); conv => whnf) | (refine wl_sub rfl rfl rfl rfl rfl rfl (by omega) (by omega) (run_l tabOk ?_); conv => whnf) | (refine wl_cvA tabOk rfl rfl rfl (by simp only [inK]; omega) rfl rfl rfl (run_l tabOk ?_); conv => whnf) | (refine wl_cvB tabOk rfl rfl rfl rfl rfl rfl (run_l tabOk ?_); conv => whnf) | (refine wl_rem rfl rfl rfl rfl rfl rfl (by omega) (by omega) (fun r hr hr0 hr1 hr2 => run_l tabOk ?_); conv => whnf) | (refine wl_quo rfl rfl rfl rfl rfl rfl (by omega) (by omega) (by simp only [inK]; omega) (run_l tabOk ?_); conv => whnf) | (refine wl_mul rfl rfl rfl rfl rfl rfl (by omega) (by omega) (run_l tabOk ?_); conv => whnf) | (refine gs_dt (by first | assumption | omega) ?_; conv => whnf) | (refine gs_df (by first | assumption | omega) ?_; conv => whnf) | (refine gs_t (by assumption) ?_; conv => whnf) | (refine gs_f (by assumption) ?_; conv => whnf) | (refine gs_d (fun hg => ?_) (fun hg => ?_) <;> conv => whnf) | (refine gs_n (fun hg => ?_) (fun hg => ?_) <;> conv => whnf) | (refine gs_nb (fun hg => ?_) (fun hg => ?_) <;> conv => whnf) | (refine gs_b (fun hg => ?_) (fun hg => ?_) <;> conv => whnf) | refine fin1 rfl rfl ?_))
    exact ⟨rfl, hBw⟩
  | false =>
    refine wl_C fn34 (solveErr s A1 A2 c1 c2 w2 hq1 hq2 hright) rfl rfl rfl rfl rfl rfl rfl ?_
    rintro _ w6 ⟨rfl, hB6⟩
    have hb := blk_up hB6 hb
    have hq1 := hq1.up stays_Cell hB6
    have hq2 := hq2.up stays_Con hB6
    have hBw := bup hB hB6
    refine ⟨_, rfl, run_l tabOk ?_⟩
    conv => whnf
    (repeat' (first | (refine wl_Lag tabOk hb rfl rfl rfl rfl rfl rfl (run_l tabOk ?_); conv => whnf) | (refine wl_add rfl rfl rfl rfl rfl rfl (by omega) (by omega) (run_l tabOk ?_); conv => whnf) | (refine wl_sub rfl rfl rfl rfl rfl rfl (by omega) (by omega) (run_l tabOk ?_); conv => whnf) | (refine wl_cvA tabOk rfl rfl rfl (by simp only [inK]; omega) rfl rfl rfl (run_l tabOk ?_); conv => whnf) | (refine wl_cvB tabOk rfl rfl rfl rfl rfl rfl (run_l tabOk ?_); conv => whnf) | (refine wl_rem rfl rfl rfl rfl rfl rfl (by omega) (by omega) (fun r hr hr0 hr1 hr2 => run_l tabOk ?_); conv => whnf) | (refine wl_quo rfl rfl rfl rfl rfl rfl (by omega) (by omega) (by simp only [inK]; omega) (run_l tabOk ?_); conv => whnf) | (refine wl_mul rfl rfl rfl rfl rfl rfl (by omega) (by omega) (run_l tabOk ?_); conv => whnf) | (refine gs_dt (by first | assumption | omega) ?_; conv => whnf) | (refine gs_df (by first | assumption | omega) ?_; conv => whnf) | (refine gs_t (by assumption) ?_; conv => whnf) | (refine gs_f (by assumption) ?_; conv => whnf) | (refine gs_d (fun hg => ?_) (fun hg => ?_) <;> conv => whnf) | (refine gs_n (fun hg => ?_) (fun hg => ?_) <;> conv => whnf) | (refine gs_nb (fun hg => ?_) (fun hg => ?_) <;> conv => whnf) | (refine gs_b (fun hg => ?_) (fun hg => ?_) <;> conv => whnf) | refine fin1 rfl rfl ?_))
    refine wl_C fn38 (refRight s A1 A2 c1 c2 w6 hq1 hq2) rfl rfl rfl rfl rfl rfl rfl ?_
    rintro _ w7 ⟨rfl, hB7⟩
    rw [hright]
    have hBw := bup hBw hB7
    refine ⟨_, rfl, run_l tabOk ?_⟩
    conv => whnf
    (repeat' (first | (refine wl_add rfl rfl rfl rfl rfl rfl (by omega) (by omega) (run_l tabOk ?_); conv => whnf) | (refine wl_sub rfl rfl rfl rfl rfl rfl (by omega) (by omega) (run_l tabOk ?_); conv => whnf) | (refine wl_cvA tabOk rfl rfl rfl (by simp only [inK]; omega) rfl rfl rfl (run_l tabOk ?_); conv => whnf) | (refine wl_cvB tabOk rfl rfl rfl rfl rfl rfl (run_l tabOk ?_); conv => whnf) | (refine wl_rem rfl rfl rfl rfl rfl rfl (by omega) (by omega) (fun r hr hr0 hr1 hr2 => run_l tabOk ?_); conv => whnf) | (refine wl_quo rfl rfl rfl rfl rfl rfl (by omega) (by omega) (by simp only [inK]; omega) (run_l tabOk ?_); conv => whnf) | (refine wl_mul rfl rfl rfl rfl rfl rfl (by omega) (by omega) (run_l tabOk ?_); conv => whnf) | (refine gs_dt (by first | assumption | omega) ?_; conv => whnf) | (refine gs_df (by first | assumption | omega) ?_; conv => whnf) | (refine gs_t (by assumption) ?_; conv => whnf) | (refine gs_f (by assumption) ?_; conv => whnf) | (refine gs_d (fun hg => ?_) (fun hg => ?_) <;> conv => whnf) | (refine gs_n (fun hg => ?_) (fun hg => ?_) <;> conv => whnf) | (refine gs_nb (fun hg => ?_) (fun hg => ?_) <;> conv => whnf) | (refine gs_b (fun hg => ?_) (fun hg => ?_) <;> conv => whnf) | refine fin1 rfl rfl ?_))
    exact ⟨rfl, hBw⟩
end Go.Proofs.YtkjbkalakafnlaaDoor
