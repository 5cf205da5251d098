/- system.Right: what it answers. -/
import Derived.Test.YtkmnhkfgjadppaaE4
namespace Go.Proofs.Ytkmnhkfgjadppaa
open Go.RowKit
set_option linter.unusedVariables false
set_option linter.unusedSimpArgs false
set_option maxRecDepth 100000
theorem within_any (a b c : Int) (w : World) :
    Calls Try.prog 32 #[.int .i64 a, .int .i64 b, .int .i64 c] w fun e w' => e = .returned (.bool (inR a b c)) ∧ w = w' := by
  refine enterR (args := [.int .i64 a, .int .i64 b, .int .i64 c]) tabOk Try.func32 rfl Try.ntmps32 rfl ?_; conv => whnf
  (repeat' (first | (refine wl_add rfl rfl rfl rfl rfl rfl (by omega) (by omega) (run_l tabOk ?_); conv => whnf) | (refine wl_sub rfl rfl rfl rfl rfl rfl (by omega) (by omega) (run_l tabOk ?_); conv => whnf) | (refine gs_dt (by first | assumption | omega) ?_; conv => whnf) | (refine gs_df (by first | assumption | omega) ?_; conv => whnf) | (refine gs_t (by assumption) ?_; conv => whnf) | (refine gs_f (by assumption) ?_; conv => whnf) | (refine gs_d (fun hg => ?_) (fun hg => ?_) <;> conv => whnf) | (refine gs_n (fun hg => ?_) (fun hg => ?_) <;> conv => whnf) | (refine gs_nb (fun hg => ?_) (fun hg => ?_) <;> conv => whnf) | (refine gs_b (fun hg => ?_) (fun hg => ?_) <;> conv => whnf) | refine fin1 rfl rfl ?_))
  all_goals exact ⟨retB (by simp_all [inR]; try omega), rfl⟩
set_option maxHeartbeats 1000000
theorem sysCell (x : Cell) (vars : Int) (B : Option Addr) (c : Nat) (w : World) (h : RI w B x.args) :
    Calls Try.prog 28 #[.agg #[.bool x.fn, .int .i64 x.v, .slice B x.args.length c], .int .i64 vars] w fun e w' => e = .returned (.bool (cellOk vars x)) ∧ Below w.heap.size w w' := by
  have L1 := h.1
  refine enterR (args := [.agg #[.bool x.fn, .int .i64 x.v, .slice B x.args.length c], .int .i64 vars]) tabOk Try.func28 rfl Try.ntmps28 rfl ?_; conv => whnf
  refine wl_box rfl rfl rfl rfl rfl rfl ?_
  intro g w1 hn
  have hb := hn.blk
  have hB := hn.below
  refine run_l tabOk ?_
  conv => whnf
  (repeat' (first | (refine wl_Lg tabOk hb rfl rfl rfl rfl rfl rfl rfl (run_l tabOk ?_); conv => whnf) | (refine wl_add rfl rfl rfl rfl rfl rfl (by omega) (by omega) (run_l tabOk ?_); conv => whnf) | (refine wl_sub rfl rfl rfl rfl rfl rfl (by omega) (by omega) (run_l tabOk ?_); conv => whnf) | (refine gs_dt (by first | assumption | omega) ?_; conv => whnf) | (refine gs_df (by first | assumption | omega) ?_; conv => whnf) | (refine gs_t (by assumption) ?_; conv => whnf) | (refine gs_f (by assumption) ?_; conv => whnf) | (refine gs_d (fun hg => ?_) (fun hg => ?_) <;> conv => whnf) | (refine gs_n (fun hg => ?_) (fun hg => ?_) <;> conv => whnf) | (refine gs_nb (fun hg => ?_) (fun hg => ?_) <;> conv => whnf) | (refine gs_b (fun hg => ?_) (fun hg => ?_) <;> conv => whnf) | refine fin1 rfl rfl ?_))
  refine lp_loop tabOk (X := Nat) (fun k => [(1, .int .i64 vars), (2, .pointer (some ⟨g, 0, none⟩)), (8, .slice B x.args.length c), (9, .int .i64 x.args.length), (10, .int .i64 k)])
    (fun k wr => k ≤ x.args.length ∧ (∀ j, j < k → inR x.args[j]! 0 vars = true) ∧ wr = w1) (fun k => x.args.length - k) 0 ⟨rfl, rfl, rfl, rfl, rfl, trivial⟩ ⟨by omega, by omega, rfl⟩ ?_
  rintro k G _ ⟨hk, hok, rfl⟩
  conv => whnf
  by_cases hlt : k < x.args.length
  · obtain ⟨y, ad, hy, rfl, f0, _⟩ := intsE (h.up (stays_I _) hB) k hlt
    (repeat' (first | (refine wl_Lg tabOk hb rfl rfl rfl rfl rfl rfl rfl (run_l tabOk ?_); conv => whnf) | (refine wl_L tabOk rfl rfl rfl rfl rfl rfl f0 (run_l tabOk ?_); conv => whnf) | (refine wl_Xn tabOk 3 1 rfl rfl rfl rfl rfl rfl rfl (by omega) (run_l tabOk ?_); conv => whnf) | ((refine wl_C fn32 (within_any _ _ _ _) rfl rfl rfl rfl rfl rfl rfl ?_); rintro _ _ ⟨rfl, rfl⟩; refine ⟨_, rfl, run_l tabOk ?_⟩; conv => whnf) | (refine wl_add rfl rfl rfl rfl rfl rfl (by omega) (by omega) (run_l tabOk ?_); conv => whnf) | (refine wl_sub rfl rfl rfl rfl rfl rfl (by omega) (by omega) (run_l tabOk ?_); conv => whnf) | (refine gs_dt (by first | assumption | omega) ?_; conv => whnf) | (refine gs_df (by first | assumption | omega) ?_; conv => whnf) | (refine gs_t (by assumption) ?_; conv => whnf) | (refine gs_f (by assumption) ?_; conv => whnf) | (refine gs_d (fun hg => ?_) (fun hg => ?_) <;> conv => whnf) | (refine gs_n (fun hg => ?_) (fun hg => ?_) <;> conv => whnf) | (refine gs_nb (fun hg => ?_) (fun hg => ?_) <;> conv => whnf) | (refine gs_b (fun hg => ?_) (fun hg => ?_) <;> conv => whnf) | refine fin1 rfl rfl ?_))
    all_goals try exact ⟨retB (by rw [cell_arg hlt (by rw [hy.out]; assumption)]), hB⟩
    all_goals exact ⟨k + 1, ⟨rfl, rfl, rfl, rfl, rfl, trivial⟩, ⟨by omega, all_succ hok (by rw [hy.out]; assumption), rfl⟩, by omega⟩
  · have hall := all_true (p := fun n => inR n 0 vars) (all_ge hok hlt)
    (repeat' (first | (refine wl_Lg tabOk hb rfl rfl rfl rfl rfl rfl rfl (run_l tabOk ?_); conv => whnf) | ((refine wl_C fn32 (within_any _ _ _ _) rfl rfl rfl rfl rfl rfl rfl ?_); rintro _ _ ⟨rfl, rfl⟩; refine ⟨_, rfl, run_l tabOk ?_⟩; conv => whnf) | (refine wl_add rfl rfl rfl rfl rfl rfl (by omega) (by omega) (run_l tabOk ?_); conv => whnf) | (refine wl_sub rfl rfl rfl rfl rfl rfl (by omega) (by omega) (run_l tabOk ?_); conv => whnf) | (refine gs_dt (by first | assumption | omega) ?_; conv => whnf) | (refine gs_df (by first | assumption | omega) ?_; conv => whnf) | (refine gs_t (by assumption) ?_; conv => whnf) | (refine gs_f (by assumption) ?_; conv => whnf) | (refine gs_d (fun hg => ?_) (fun hg => ?_) <;> conv => whnf) | (refine gs_n (fun hg => ?_) (fun hg => ?_) <;> conv => whnf) | (refine gs_nb (fun hg => ?_) (fun hg => ?_) <;> conv => whnf) | (refine gs_b (fun hg => ?_) (fun hg => ?_) <;> conv => whnf) | refine fin1 rfl rfl ?_))
    all_goals refine ⟨retB ?_, hB⟩
    all_goals unfold cellOk; rw [hall]; clear hall hok h hb hB hn; simp_all; try omega
set_option maxHeartbeats 2000000
theorem sysCon (x : Con) (vars : Int) (cells : Nat) (B : Option Addr) (c : Nat) (w : World) (h : RI w B x.args) :
    Calls Try.prog 29 #[.agg #[.int .u8 x.k, .int .i64 x.a, .int .i64 x.b, .slice B x.args.length c], .int .i64 vars, .int .i64 cells] w fun e w' => e = .returned (.bool (conOk vars cells x)) ∧ Below w.heap.size w w' := by
  have L1 := h.1
  refine enterR (args := [.agg #[.int .u8 x.k, .int .i64 x.a, .int .i64 x.b, .slice B x.args.length c], .int .i64 vars, .int .i64 cells]) tabOk Try.func29 rfl Try.ntmps29 rfl ?_; conv => whnf
  refine wl_box rfl rfl rfl rfl rfl rfl ?_
  intro g w1 hn
  have hb := hn.blk
  have hB := hn.below
  refine run_l tabOk ?_
  conv => whnf
  (repeat' (first | (refine wl_Lg tabOk hb rfl rfl rfl rfl rfl rfl rfl (run_l tabOk ?_); conv => whnf) | ((refine wl_C fn32 (within_any _ _ _ _) rfl rfl rfl rfl rfl rfl rfl ?_); rintro _ _ ⟨rfl, rfl⟩; refine ⟨_, rfl, run_l tabOk ?_⟩; conv => whnf) | (refine wl_add rfl rfl rfl rfl rfl rfl (by omega) (by omega) (run_l tabOk ?_); conv => whnf) | (refine wl_sub rfl rfl rfl rfl rfl rfl (by omega) (by omega) (run_l tabOk ?_); conv => whnf) | (refine gs_dt (by first | assumption | omega) ?_; conv => whnf) | (refine gs_df (by first | assumption | omega) ?_; conv => whnf) | (refine gs_t (by assumption) ?_; conv => whnf) | (refine gs_f (by assumption) ?_; conv => whnf) | (refine gs_d (fun hg => ?_) (fun hg => ?_) <;> conv => whnf) | (refine gs_n (fun hg => ?_) (fun hg => ?_) <;> conv => whnf) | (refine gs_nb (fun hg => ?_) (fun hg => ?_) <;> conv => whnf) | (refine gs_b (fun hg => ?_) (fun hg => ?_) <;> conv => whnf) | refine fin1 rfl rfl ?_))
  all_goals try (refine ⟨retB ?_, hB⟩; (first | rw [con_val1 (by omega)] | rw [con_valk (by omega) (by omega)] | rw [con_valn (by omega)]); try (clear h hb hB hn L1; simp_all; done))
  refine lp_loop tabOk (X := Nat) (fun k => [(1, .int .i64 vars), (3, .pointer (some ⟨g, 0, none⟩)), (7, .int .i64 (-1)), (53, .slice B x.args.length c), (54, .int .i64 x.args.length), (55, .int .i64 k)])
    (fun k wr => k ≤ x.args.length ∧ (∀ j, j < k → inR x.args[j]! (-1) vars = true) ∧ wr = w1) (fun k => x.args.length - k) 0 ⟨rfl, rfl, rfl, rfl, rfl, rfl, trivial⟩ ⟨by omega, by omega, rfl⟩ ?_
  rintro k G _ ⟨hk, hok, rfl⟩
  conv => whnf
  by_cases hlt : k < x.args.length
  · obtain ⟨y, ad, hy, rfl, f0, _⟩ := intsE (h.up (stays_I _) hB) k hlt
    (repeat' (first | (refine wl_Lg tabOk hb rfl rfl rfl rfl rfl rfl rfl (run_l tabOk ?_); conv => whnf) | (refine wl_L tabOk rfl rfl rfl rfl rfl rfl f0 (run_l tabOk ?_); conv => whnf) | (refine wl_Xn tabOk 3 1 rfl rfl rfl rfl rfl rfl rfl (by omega) (run_l tabOk ?_); conv => whnf) | ((refine wl_C fn32 (within_any _ _ _ _) rfl rfl rfl rfl rfl rfl rfl ?_); rintro _ _ ⟨rfl, rfl⟩; refine ⟨_, rfl, run_l tabOk ?_⟩; conv => whnf) | (refine wl_add rfl rfl rfl rfl rfl rfl (by omega) (by omega) (run_l tabOk ?_); conv => whnf) | (refine wl_sub rfl rfl rfl rfl rfl rfl (by omega) (by omega) (run_l tabOk ?_); conv => whnf) | (refine gs_dt (by first | assumption | omega) ?_; conv => whnf) | (refine gs_df (by first | assumption | omega) ?_; conv => whnf) | (refine gs_t (by assumption) ?_; conv => whnf) | (refine gs_f (by assumption) ?_; conv => whnf) | (refine gs_d (fun hg => ?_) (fun hg => ?_) <;> conv => whnf) | (refine gs_n (fun hg => ?_) (fun hg => ?_) <;> conv => whnf) | (refine gs_nb (fun hg => ?_) (fun hg => ?_) <;> conv => whnf) | (refine gs_b (fun hg => ?_) (fun hg => ?_) <;> conv => whnf) | refine fin1 rfl rfl ?_))
    all_goals try exact ⟨retB (by rw [con_arg hlt (by rw [hy.out]; assumption)]), hB⟩
    all_goals exact ⟨k + 1, ⟨rfl, rfl, rfl, rfl, rfl, rfl, trivial⟩, ⟨by omega, all_succ hok (by rw [hy.out]; assumption), rfl⟩, by omega⟩
  · have hall := all_true (p := fun n => inR n (-1) vars) (all_ge hok hlt)
    (repeat' (first | (refine wl_Lg tabOk hb rfl rfl rfl rfl rfl rfl rfl (run_l tabOk ?_); conv => whnf) | ((refine wl_C fn32 (within_any _ _ _ _) rfl rfl rfl rfl rfl rfl rfl ?_); rintro _ _ ⟨rfl, rfl⟩; refine ⟨_, rfl, run_l tabOk ?_⟩; conv => whnf) | (refine wl_add rfl rfl rfl rfl rfl rfl (by omega) (by omega) (run_l tabOk ?_); conv => whnf) | (refine wl_sub rfl rfl rfl rfl rfl rfl (by omega) (by omega) (run_l tabOk ?_); conv => whnf) | (refine gs_dt (by first | assumption | omega) ?_; conv => whnf) | (refine gs_df (by first | assumption | omega) ?_; conv => whnf) | (refine gs_t (by assumption) ?_; conv => whnf) | (refine gs_f (by assumption) ?_; conv => whnf) | (refine gs_d (fun hg => ?_) (fun hg => ?_) <;> conv => whnf) | (refine gs_n (fun hg => ?_) (fun hg => ?_) <;> conv => whnf) | (refine gs_nb (fun hg => ?_) (fun hg => ?_) <;> conv => whnf) | (refine gs_b (fun hg => ?_) (fun hg => ?_) <;> conv => whnf) | refine fin1 rfl rfl ?_))
    all_goals (refine ⟨retB ?_, hB⟩; rw [con_val5 (by omega) hall]; clear hall hok h hb hB hn L1; simp_all; done)
theorem sysRight (s : Sys) (A1 A2 : Option Addr) (c1 c2 : Nat) (w : World) (h1 : RCells w A1 s.cells) (h2 : RCons w A2 s.cons) :
    Calls Try.prog 20 #[.agg #[.int .i64 s.vars, .slice A1 s.cells.length c1, .slice A2 s.cons.length c2]] w fun e w' => e = .returned (.bool (rightB s)) ∧ Below w.heap.size w w' := by
  have L1 := h1.1
  have L2 := h2.1
  refine enterR (args := [.agg #[.int .i64 s.vars, .slice A1 s.cells.length c1, .slice A2 s.cons.length c2]]) tabOk Try.func20 rfl Try.ntmps20 rfl ?_; conv => whnf
  refine wl_box rfl rfl rfl rfl rfl rfl ?_
  intro g w1 hn
  have hb := hn.blk
  refine run_l tabOk ?_
  conv => whnf
  (repeat' (first | (refine wl_Lg tabOk hb rfl rfl rfl rfl rfl rfl rfl (run_l tabOk ?_); conv => whnf) | (refine wl_add rfl rfl rfl rfl rfl rfl (by omega) (by omega) (run_l tabOk ?_); conv => whnf) | (refine wl_sub rfl rfl rfl rfl rfl rfl (by omega) (by omega) (run_l tabOk ?_); conv => whnf) | (refine gs_dt (by first | assumption | omega) ?_; conv => whnf) | (refine gs_df (by first | assumption | omega) ?_; conv => whnf) | (refine gs_t (by assumption) ?_; conv => whnf) | (refine gs_f (by assumption) ?_; conv => whnf) | (refine gs_d (fun hg => ?_) (fun hg => ?_) <;> conv => whnf) | (refine gs_n (fun hg => ?_) (fun hg => ?_) <;> conv => whnf) | (refine gs_nb (fun hg => ?_) (fun hg => ?_) <;> conv => whnf) | (refine gs_b (fun hg => ?_) (fun hg => ?_) <;> conv => whnf) | refine fin1 rfl rfl ?_))
  all_goals try exact ⟨retB (right_big (by omega)).symm, hn.below⟩
  refine lp_loop tabOk (X := Nat) (fun k => [(1, .pointer (some ⟨g, 0, none⟩)), (28, .slice A1 s.cells.length c1), (29, .int .i64 s.cells.length), (30, .int .i64 k)])
    (fun k wr => k ≤ s.cells.length ∧ (∀ j, j < k → cellOk s.vars s.cells[j]! = true) ∧ Below w.heap.size w wr ∧ wr.heap[g]? = some (.cells #[.int .i64 s.vars, .slice A1 s.cells.length c1, .slice A2 s.cons.length c2] 30 (0, 0)))
    (fun k => s.cells.length - k) 0 ⟨rfl, rfl, rfl, rfl, trivial⟩ ⟨by omega, by omega, hn.below, hb⟩ ?_
  clear hb hn
  intro k G wr ⟨hk, hok, hB, hb⟩
  conv => whnf
  by_cases hlt : k < s.cells.length
  · obtain ⟨x, ad, B, c, hx, rfl, e0, e1, e2, _⟩ := cellsE (h1.up stays_Cell hB) k hlt
    (repeat' (first | (refine wl_Lg tabOk hb rfl rfl rfl rfl rfl rfl rfl (run_l tabOk ?_); conv => whnf) | (refine wl_Xn tabOk 55 3 rfl rfl rfl rfl rfl rfl rfl (by omega) (run_l tabOk ?_); conv => whnf) | (refine wl_La tabOk e0 rfl rfl rfl rfl rfl rfl (run_l tabOk ?_); conv => whnf) | (refine wl_add rfl rfl rfl rfl rfl rfl (by omega) (by omega) (run_l tabOk ?_); conv => whnf) | (refine wl_sub rfl rfl rfl rfl rfl rfl (by omega) (by omega) (run_l tabOk ?_); conv => whnf) | (refine gs_dt (by first | assumption | omega) ?_; conv => whnf) | (refine gs_df (by first | assumption | omega) ?_; conv => whnf) | (refine gs_t (by assumption) ?_; conv => whnf) | (refine gs_f (by assumption) ?_; conv => whnf) | (refine gs_d (fun hg => ?_) (fun hg => ?_) <;> conv => whnf) | (refine gs_n (fun hg => ?_) (fun hg => ?_) <;> conv => whnf) | (refine gs_nb (fun hg => ?_) (fun hg => ?_) <;> conv => whnf) | (refine gs_b (fun hg => ?_) (fun hg => ?_) <;> conv => whnf) | refine fin1 rfl rfl ?_))
    refine wl_alloc tabOk rfl rfl rfl rfl rfl rfl ?_
    intro g2 w2 hn2
    refine wl_Sa tabOk hn2.blk rfl rfl rfl rfl rfl (by simp [Value.oneCell']) rfl rfl ?_
    intro w3 hp
    have hg : g ≠ g2 := by have := blk_lt hb; have := hn2.at_; omega
    have hb3 := hp.old (hn2.old hb) hg
    have hc3 := hp.blk
    have hB3 : Below wr.heap.size wr w3 := hp.below hn2.below (by have := hn2.at_; omega) (by have := hn2.size; omega)
    have hBw := bup hB hB3
    refine run_l tabOk ?_
    conv => whnf
    (repeat' (first | (refine wl_Lg tabOk hb3 rfl rfl rfl rfl rfl rfl rfl (run_l tabOk ?_); conv => whnf) | (refine wl_Lg tabOk hc3 rfl rfl rfl rfl rfl rfl rfl (run_l tabOk ?_); conv => whnf) | (refine wl_Lag tabOk hc3 rfl rfl rfl rfl rfl rfl (run_l tabOk ?_); conv => whnf) | (refine wl_add rfl rfl rfl rfl rfl rfl (by omega) (by omega) (run_l tabOk ?_); conv => whnf) | (refine wl_sub rfl rfl rfl rfl rfl rfl (by omega) (by omega) (run_l tabOk ?_); conv => whnf) | (refine gs_dt (by first | assumption | omega) ?_; conv => whnf) | (refine gs_df (by first | assumption | omega) ?_; conv => whnf) | (refine gs_t (by assumption) ?_; conv => whnf) | (refine gs_f (by assumption) ?_; conv => whnf) | (refine gs_d (fun hg => ?_) (fun hg => ?_) <;> conv => whnf) | (refine gs_n (fun hg => ?_) (fun hg => ?_) <;> conv => whnf) | (refine gs_nb (fun hg => ?_) (fun hg => ?_) <;> conv => whnf) | (refine gs_b (fun hg => ?_) (fun hg => ?_) <;> conv => whnf) | refine fin1 rfl rfl ?_))
    refine wl_C fn28 (sysCell x _ _ _ _ (e2.out.up (stays_I _) hB3)) rfl rfl rfl rfl rfl rfl rfl ?_
    rintro _ w4 ⟨rfl, hB4⟩
    refine ⟨_, rfl, run_l tabOk ?_⟩
    conv => whnf
    (repeat' (first | (refine wl_add rfl rfl rfl rfl rfl rfl (by omega) (by omega) (run_l tabOk ?_); conv => whnf) | (refine wl_sub rfl rfl rfl rfl rfl rfl (by omega) (by omega) (run_l tabOk ?_); conv => whnf) | (refine gs_dt (by first | assumption | omega) ?_; conv => whnf) | (refine gs_df (by first | assumption | omega) ?_; conv => whnf) | (refine gs_t (by assumption) ?_; conv => whnf) | (refine gs_f (by assumption) ?_; conv => whnf) | (refine gs_d (fun hg => ?_) (fun hg => ?_) <;> conv => whnf) | (refine gs_n (fun hg => ?_) (fun hg => ?_) <;> conv => whnf) | (refine gs_nb (fun hg => ?_) (fun hg => ?_) <;> conv => whnf) | (refine gs_b (fun hg => ?_) (fun hg => ?_) <;> conv => whnf) | refine fin1 rfl rfl ?_))
    · exact ⟨retB (by rw [right_cell hlt (by rw [hx.out]; assumption)]), bup hBw hB4⟩
    · exact ⟨k + 1, ⟨rfl, rfl, rfl, rfl, trivial⟩, ⟨by omega, all_succ hok (by rw [hx.out]; assumption), bup hBw hB4, blk_up (bup hB3 hB4) hb⟩, by omega⟩
  · have hokA := all_ge hok hlt
    (repeat' (first | (refine wl_Lg tabOk hb rfl rfl rfl rfl rfl rfl rfl (run_l tabOk ?_); conv => whnf) | (refine wl_add rfl rfl rfl rfl rfl rfl (by omega) (by omega) (run_l tabOk ?_); conv => whnf) | (refine wl_sub rfl rfl rfl rfl rfl rfl (by omega) (by omega) (run_l tabOk ?_); conv => whnf) | (refine gs_dt (by first | assumption | omega) ?_; conv => whnf) | (refine gs_df (by first | assumption | omega) ?_; conv => whnf) | (refine gs_t (by assumption) ?_; conv => whnf) | (refine gs_f (by assumption) ?_; conv => whnf) | (refine gs_d (fun hg => ?_) (fun hg => ?_) <;> conv => whnf) | (refine gs_n (fun hg => ?_) (fun hg => ?_) <;> conv => whnf) | (refine gs_nb (fun hg => ?_) (fun hg => ?_) <;> conv => whnf) | (refine gs_b (fun hg => ?_) (fun hg => ?_) <;> conv => whnf) | refine fin1 rfl rfl ?_))
    refine lp_loop tabOk (X := Nat) (fun k => [(1, .pointer (some ⟨g, 0, none⟩)), (41, .slice A2 s.cons.length c2), (42, .int .i64 s.cons.length), (43, .int .i64 k)])
      (fun k wr => k ≤ s.cons.length ∧ (∀ j, j < k → conOk s.vars s.cells.length s.cons[j]! = true) ∧ Below w.heap.size w wr ∧ wr.heap[g]? = some (.cells #[.int .i64 s.vars, .slice A1 s.cells.length c1, .slice A2 s.cons.length c2] 30 (0, 0)))
      (fun k => s.cons.length - k) 0 ⟨rfl, rfl, rfl, rfl, trivial⟩ ⟨by omega, by omega, hB, hb⟩ ?_
    clear hb hB
    intro k G wr ⟨hk, hokc, hB, hb⟩
    conv => whnf
    by_cases hlt : k < s.cons.length
    · obtain ⟨x, ad, B, c, hx, rfl, e0, e1, e2, e3, e4, _⟩ := consE (h2.up stays_Con hB) k hlt
      (repeat' (first | (refine wl_Lg tabOk hb rfl rfl rfl rfl rfl rfl rfl (run_l tabOk ?_); conv => whnf) | (refine wl_Xn tabOk 48 4 rfl rfl rfl rfl rfl rfl rfl (by omega) (run_l tabOk ?_); conv => whnf) | (refine wl_La tabOk e0 rfl rfl rfl rfl rfl rfl (run_l tabOk ?_); conv => whnf) | (refine wl_add rfl rfl rfl rfl rfl rfl (by omega) (by omega) (run_l tabOk ?_); conv => whnf) | (refine wl_sub rfl rfl rfl rfl rfl rfl (by omega) (by omega) (run_l tabOk ?_); conv => whnf) | (refine gs_dt (by first | assumption | omega) ?_; conv => whnf) | (refine gs_df (by first | assumption | omega) ?_; conv => whnf) | (refine gs_t (by assumption) ?_; conv => whnf) | (refine gs_f (by assumption) ?_; conv => whnf) | (refine gs_d (fun hg => ?_) (fun hg => ?_) <;> conv => whnf) | (refine gs_n (fun hg => ?_) (fun hg => ?_) <;> conv => whnf) | (refine gs_nb (fun hg => ?_) (fun hg => ?_) <;> conv => whnf) | (refine gs_b (fun hg => ?_) (fun hg => ?_) <;> conv => whnf) | refine fin1 rfl rfl ?_))
      refine wl_alloc tabOk rfl rfl rfl rfl rfl rfl ?_
      intro g2 w2 hn2
      refine wl_Sa tabOk hn2.blk rfl rfl rfl rfl rfl (by simp [Value.oneCell']) rfl rfl ?_
      intro w3 hp
      have hg : g ≠ g2 := by have := blk_lt hb; have := hn2.at_; omega
      have hb3 := hp.old (hn2.old hb) hg
      have hc3 := hp.blk
      have hB3 : Below wr.heap.size wr w3 := hp.below hn2.below (by have := hn2.at_; omega) (by have := hn2.size; omega)
      have hBw := bup hB hB3
      refine run_l tabOk ?_
      conv => whnf
      (repeat' (first | (refine wl_Lg tabOk hb3 rfl rfl rfl rfl rfl rfl rfl (run_l tabOk ?_); conv => whnf) | (refine wl_Lg tabOk hc3 rfl rfl rfl rfl rfl rfl rfl (run_l tabOk ?_); conv => whnf) | (refine wl_Lag tabOk hc3 rfl rfl rfl rfl rfl rfl (run_l tabOk ?_); conv => whnf) | (refine wl_add rfl rfl rfl rfl rfl rfl (by omega) (by omega) (run_l tabOk ?_); conv => whnf) | (refine wl_sub rfl rfl rfl rfl rfl rfl (by omega) (by omega) (run_l tabOk ?_); conv => whnf) | (refine gs_dt (by first | assumption | omega) ?_; conv => whnf) | (refine gs_df (by first | assumption | omega) ?_; conv => whnf) | (refine gs_t (by assumption) ?_; conv => whnf) | (refine gs_f (by assumption) ?_; conv => whnf) | (refine gs_d (fun hg => ?_) (fun hg => ?_) <;> conv => whnf) | (refine gs_n (fun hg => ?_) (fun hg => ?_) <;> conv => whnf) | (refine gs_nb (fun hg => ?_) (fun hg => ?_) <;> conv => whnf) | (refine gs_b (fun hg => ?_) (fun hg => ?_) <;> conv => whnf) | refine fin1 rfl rfl ?_))
      refine wl_C fn29 (sysCon x _ _ _ _ _ (e2.out.up (stays_I _) hB3)) rfl rfl rfl rfl rfl rfl rfl ?_
      rintro _ w4 ⟨rfl, hB4⟩
      refine ⟨_, rfl, run_l tabOk ?_⟩
      conv => whnf
      (repeat' (first | (refine wl_add rfl rfl rfl rfl rfl rfl (by omega) (by omega) (run_l tabOk ?_); conv => whnf) | (refine wl_sub rfl rfl rfl rfl rfl rfl (by omega) (by omega) (run_l tabOk ?_); conv => whnf) | (refine gs_dt (by first | assumption | omega) ?_; conv => whnf) | (refine gs_df (by first | assumption | omega) ?_; conv => whnf) | (refine gs_t (by assumption) ?_; conv => whnf) | (refine gs_f (by assumption) ?_; conv => whnf) | (refine gs_d (fun hg => ?_) (fun hg => ?_) <;> conv => whnf) | (refine gs_n (fun hg => ?_) (fun hg => ?_) <;> conv => whnf) | (refine gs_nb (fun hg => ?_) (fun hg => ?_) <;> conv => whnf) | (refine gs_b (fun hg => ?_) (fun hg => ?_) <;> conv => whnf) | refine fin1 rfl rfl ?_))
      · exact ⟨retB (by rw [right_con hlt (by rw [hx.out]; assumption)]), bup hBw hB4⟩
      · exact ⟨k + 1, ⟨rfl, rfl, rfl, rfl, trivial⟩, ⟨by omega, all_succ hokc (by rw [hx.out]; assumption), bup hBw hB4, blk_up (bup hB3 hB4) hb⟩, by omega⟩
    · (repeat' (first | (refine wl_Lg tabOk hb rfl rfl rfl rfl rfl rfl rfl (run_l tabOk ?_); conv => whnf) | (refine wl_add rfl rfl rfl rfl rfl rfl (by omega) (by omega) (run_l tabOk ?_); conv => whnf) | (refine wl_sub rfl rfl rfl rfl rfl rfl (by omega) (by omega) (run_l tabOk ?_); conv => whnf) | (refine gs_dt (by first | assumption | omega) ?_; conv => whnf) | (refine gs_df (by first | assumption | omega) ?_; conv => whnf) | (refine gs_t (by assumption) ?_; conv => whnf) | (refine gs_f (by assumption) ?_; conv => whnf) | (refine gs_d (fun hg => ?_) (fun hg => ?_) <;> conv => whnf) | (refine gs_n (fun hg => ?_) (fun hg => ?_) <;> conv => whnf) | (refine gs_nb (fun hg => ?_) (fun hg => ?_) <;> conv => whnf) | (refine gs_b (fun hg => ?_) (fun hg => ?_) <;> conv => whnf) | refine fin1 rfl rfl ?_))
      exact ⟨retB (by rw [right_all (by omega) (by omega) (by omega) (by omega) hokA (all_ge hokc hlt)]), hB⟩
end Go.Proofs.Ytkmnhkfgjadppaa
