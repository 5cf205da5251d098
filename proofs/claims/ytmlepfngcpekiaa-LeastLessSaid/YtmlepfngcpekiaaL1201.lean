/- weathervanelaw12.awake answers true; the walk of SystemRights. -/
import Derived.Test.YtmlepfngcpekiaaA2
import Derived.Test.YtmlepfngcpekiaaA3
import Derived.Test.YtmlepfngcpekiaaE5
namespace Go.Proofs.Ytmlepfngcpekiaa
open Go.RowKit
set_option linter.unusedVariables false
set_option linter.unusedSimpArgs false
set_option maxRecDepth 100000
theorem rightAwake1 : rightB ⟨1, [⟨false, 0, []⟩], [⟨1, 0, 0, []⟩]⟩ = true := by decide
theorem rightAwake2 : rightB ⟨1, [], [⟨1, 0, 0, []⟩]⟩ = false := by decide
theorem awake12 (w : World) : Calls Try.prog 19 #[] w fun e w' => e = .returned (.bool true) ∧ Below w.heap.size w w' := by
  refine enterR (args := []) tabOk Try.func19 rfl Try.ntmps19 rfl ?_; conv => whnf
  refine wl_bs tabOk 38 3 rfl rfl rfl rfl rfl rfl rfl rfl rfl rfl ?_
  intro g1 w1 hn1
  refine run_l tabOk ?_
  conv => whnf
  refine wl_bs tabOk 35 4 rfl rfl rfl rfl rfl rfl rfl rfl rfl rfl ?_
  intro g2 w2 hn2
  refine run_l tabOk ?_
  conv => whnf
  refine wl_alloc tabOk rfl rfl rfl rfl rfl rfl ?_
  intro g3 w3 hn3
  refine wl_Sa tabOk hn3.blk rfl rfl rfl rfl rfl (by simp [Value.oneCell']) rfl rfl ?_
  intro w4 hp
  have hB4 : Below w.heap.size w w4 := hp.below (hn3.up (hn2.up hn1.below)) (by have := hn3.at_; have := hn2.size; have := hn1.size; omega) (by have := hn3.size; have := hn2.size; have := hn1.size; omega)
  have k1 : w4.heap[g1]? = _ := hp.old (hn3.old (hn2.old hn1.blk)) (by have := hn3.at_; have := hn2.size; have := hn1.size; have := hn1.at_; omega)
  have k2 : w4.heap[g2]? = _ := hp.old (hn3.old hn2.blk) (by have := hn3.at_; have := hn2.size; have := hn2.at_; omega)
  have hb := hp.blk
  refine run_l tabOk ?_
  conv => whnf
  (repeat' (first | (refine wl_Lag tabOk hb rfl rfl rfl rfl rfl rfl (run_l tabOk ?_); conv => whnf) | (refine wl_add rfl rfl rfl rfl rfl rfl (by omega) (by omega) (run_l tabOk ?_); conv => whnf) | (refine wl_sub rfl rfl rfl rfl rfl rfl (by omega) (by omega) (run_l tabOk ?_); conv => whnf) | (refine gs_dt (by first | assumption | omega) ?_; conv => whnf) | (refine gs_df (by first | assumption | omega) ?_; conv => whnf) | (refine gs_t (by assumption) ?_; conv => whnf) | (refine gs_f (by assumption) ?_; conv => whnf) | (refine gs_d (fun hg => ?_) (fun hg => ?_) <;> conv => whnf) | (refine gs_n (fun hg => ?_) (fun hg => ?_) <;> conv => whnf) | (refine gs_nb (fun hg => ?_) (fun hg => ?_) <;> conv => whnf) | (refine gs_b (fun hg => ?_) (fun hg => ?_) <;> conv => whnf) | refine fin1 rfl rfl ?_))
  refine wl_C fn20 (sysRight ⟨1, [⟨false, 0, []⟩], [⟨1, 0, 0, []⟩]⟩ (some ⟨g1, 0, none⟩) (some ⟨g2, 0, none⟩) 1 1 w4 (row_of_blk k1 (Elems.one rfl (dCell_nil _ _ _ (by decide) (by decide))) (by simp)) (row_of_blk k2 (Elems.one rfl (dCon_nil _ _ _ _ (by decide) (by decide) (by decide))) (by simp))) rfl rfl rfl rfl rfl rfl rfl ?_
  rintro _ w5 ⟨rfl, hB5⟩
  rw [rightAwake1]
  refine ⟨_, rfl, run_l tabOk ?_⟩
  conv => whnf
  refine wl_bs tabOk 35 4 rfl rfl rfl rfl rfl rfl rfl rfl rfl rfl ?_
  intro g6 w6 hn6
  refine run_l tabOk ?_
  conv => whnf
  refine wl_C fn20 (sysRight ⟨1, [], [⟨1, 0, 0, []⟩]⟩ none (some ⟨g6, 0, none⟩) 0 1 w6 (RowR.nil ..) (row_of_blk hn6.blk (Elems.one rfl (dCon_nil _ _ _ _ (by decide) (by decide) (by decide))) (by simp))) rfl rfl rfl rfl rfl rfl rfl ?_
  rintro _ w7 ⟨rfl, hB7⟩
  rw [rightAwake2]
  refine ⟨_, rfl, run_l tabOk ?_⟩
  conv => whnf
  (repeat' (first | (refine wl_add rfl rfl rfl rfl rfl rfl (by omega) (by omega) (run_l tabOk ?_); conv => whnf) | (refine wl_sub rfl rfl rfl rfl rfl rfl (by omega) (by omega) (run_l tabOk ?_); conv => whnf) | (refine gs_dt (by first | assumption | omega) ?_; conv => whnf) | (refine gs_df (by first | assumption | omega) ?_; conv => whnf) | (refine gs_t (by assumption) ?_; conv => whnf) | (refine gs_f (by assumption) ?_; conv => whnf) | (refine gs_d (fun hg => ?_) (fun hg => ?_) <;> conv => whnf) | (refine gs_n (fun hg => ?_) (fun hg => ?_) <;> conv => whnf) | (refine gs_nb (fun hg => ?_) (fun hg => ?_) <;> conv => whnf) | (refine gs_b (fun hg => ?_) (fun hg => ?_) <;> conv => whnf) | refine fin1 rfl rfl ?_))
  exact ⟨rfl, bup (hn6.up (bup hB4 hB5)) hB7⟩
theorem lawSystemRights (s : Sys) (A1 A2 : Option Addr) (c1 c2 : Nat) (w : World) (h1 : RCells w A1 s.cells) (h2 : RCons w A2 s.cons) :
    Calls Try.prog 3 #[.agg #[.int .i64 s.vars, .slice A1 s.cells.length c1, .slice A2 s.cons.length c2]] w fun e w' => e = .returned (.bool true) ∧ Below w.heap.size w w' := by
  refine enterR (args := [.agg #[.int .i64 s.vars, .slice A1 s.cells.length c1, .slice A2 s.cons.length c2]]) tabOk Try.func3 rfl Try.ntmps3 rfl ?_; conv => whnf
  refine wl_box rfl rfl rfl rfl rfl rfl ?_
  intro g w1 hn
  refine run_l tabOk ?_
  conv => whnf
  refine wl_C fn19 (awake12 _) rfl rfl rfl rfl rfl rfl rfl ?_
  rintro _ w2 ⟨rfl, hB2⟩
  have hb := blk_up hB2 hn.blk
  have hB := bup hn.below hB2
  refine ⟨_, rfl, run_l tabOk ?_⟩
  conv => whnf
  (repeat' (first | (refine wl_Lg tabOk hb rfl rfl rfl rfl rfl rfl rfl (run_l tabOk ?_); conv => whnf) | (refine wl_add rfl rfl rfl rfl rfl rfl (by omega) (by omega) (run_l tabOk ?_); conv => whnf) | (refine wl_sub rfl rfl rfl rfl rfl rfl (by omega) (by omega) (run_l tabOk ?_); conv => whnf) | (refine gs_dt (by first | assumption | omega) ?_; conv => whnf) | (refine gs_df (by first | assumption | omega) ?_; conv => whnf) | (refine gs_t (by assumption) ?_; conv => whnf) | (refine gs_f (by assumption) ?_; conv => whnf) | (refine gs_d (fun hg => ?_) (fun hg => ?_) <;> conv => whnf) | (refine gs_n (fun hg => ?_) (fun hg => ?_) <;> conv => whnf) | (refine gs_nb (fun hg => ?_) (fun hg => ?_) <;> conv => whnf) | (refine gs_b (fun hg => ?_) (fun hg => ?_) <;> conv => whnf) | refine fin1 rfl rfl ?_))
  any_goals
    refine wl_C fn19 (awake12 _) rfl rfl rfl rfl rfl rfl rfl ?_
    rintro _ w3 ⟨rfl, hB3⟩
    refine ⟨_, rfl, run_l tabOk ?_⟩
    conv => whnf
    (repeat' (first | (refine wl_add rfl rfl rfl rfl rfl rfl (by omega) (by omega) (run_l tabOk ?_); conv => whnf) | (refine wl_sub rfl rfl rfl rfl rfl rfl (by omega) (by omega) (run_l tabOk ?_); conv => whnf) | (refine gs_dt (by first | assumption | omega) ?_; conv => whnf) | (refine gs_df (by first | assumption | omega) ?_; conv => whnf) | (refine gs_t (by assumption) ?_; conv => whnf) | (refine gs_f (by assumption) ?_; conv => whnf) | (refine gs_d (fun hg => ?_) (fun hg => ?_) <;> conv => whnf) | (refine gs_n (fun hg => ?_) (fun hg => ?_) <;> conv => whnf) | (refine gs_nb (fun hg => ?_) (fun hg => ?_) <;> conv => whnf) | (refine gs_b (fun hg => ?_) (fun hg => ?_) <;> conv => whnf) | refine fin1 rfl rfl ?_))
    exact ⟨rfl, bup hB hB3⟩
  refine wc_qr tabOk mixed (by kernel_rfl) ?_; conv => whnf
  (repeat' (first | (refine wq_Lag tabOk hb rfl rfl rfl rfl rfl rfl (run_q tabOk ?_); conv => whnf) | (refine wq_C fn20 (fun w' hw' => sysRight s A1 A2 c1 c2 w' (h1.up stays_Cell (bup hB hw')) (h2.up stays_Con (bup hB hw'))) rfl rfl rfl rfl rfl rfl rfl (run_q tabOk ?_); conv => whnf) | (refine wq_C fn21 (fun w' hw' => refRight s A1 A2 c1 c2 w' (h1.up stays_Cell (bup hB hw')) (h2.up stays_Con (bup hB hw'))) rfl rfl rfl rfl rfl rfl rfl (run_q tabOk ?_); conv => whnf) | (refine wq_add rfl rfl rfl rfl rfl rfl (by omega) (by omega) (run_q tabOk ?_); conv => whnf) | (refine wq_sub rfl rfl rfl rfl rfl rfl (by omega) (by omega) (run_q tabOk ?_); conv => whnf) | (refine gs_dt (by first | assumption | omega) ?_; conv => whnf) | (refine gs_df (by first | assumption | omega) ?_; conv => whnf) | (refine gs_t (by assumption) ?_; conv => whnf) | (refine gs_f (by assumption) ?_; conv => whnf) | (refine gs_d (fun hg => ?_) (fun hg => ?_) <;> conv => whnf) | (refine gs_n (fun hg => ?_) (fun hg => ?_) <;> conv => whnf) | (refine gs_nb (fun hg => ?_) (fun hg => ?_) <;> conv => whnf) | (refine gs_b (fun hg => ?_) (fun hg => ?_) <;> conv => whnf)))
  intro w3 hB3
  conv => whnf
  (repeat' (first | (refine wl_add rfl rfl rfl rfl rfl rfl (by omega) (by omega) (run_l tabOk ?_); conv => whnf) | (refine wl_sub rfl rfl rfl rfl rfl rfl (by omega) (by omega) (run_l tabOk ?_); conv => whnf) | (refine gs_dt (by first | assumption | omega) ?_; conv => whnf) | (refine gs_df (by first | assumption | omega) ?_; conv => whnf) | (refine gs_t (by assumption) ?_; conv => whnf) | (refine gs_f (by assumption) ?_; conv => whnf) | (refine gs_d (fun hg => ?_) (fun hg => ?_) <;> conv => whnf) | (refine gs_n (fun hg => ?_) (fun hg => ?_) <;> conv => whnf) | (refine gs_nb (fun hg => ?_) (fun hg => ?_) <;> conv => whnf) | (refine gs_b (fun hg => ?_) (fun hg => ?_) <;> conv => whnf) | refine fin1 rfl rfl ?_))
  exact ⟨retB (by simp), bup hB hB3⟩
theorem lawSystemRightsW (s : Sys) (A1 A2 : Option Addr) (c1 c2 : Nat) (w : World) (h1 : RCells w A1 s.cells) (h2 : RCons w A2 s.cons) (hk : -9223372036854775808 ≤ s.vars ∧ s.vars ≤ 9223372036854775807) :
    Calls Try.prog 3 #[.agg #[.int .i64 s.vars, .slice A1 s.cells.length c1, .slice A2 s.cons.length c2]] w fun e w' => e = .returned (.bool true) ∧ Below w.heap.size w w' := lawSystemRights s A1 A2 c1 c2 w h1 h2
end Go.Proofs.Ytmlepfngcpekiaa
