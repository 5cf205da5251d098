/- Several texts of one claim in one file: A3 C12 L12L P12L. -/
import Derived.Test.YtjggjhgbobmkhaaC4
import Derived.Test.YtjggjhgbobmkhaaC10
import Derived.Test.YtjggjhgbobmkhaaC5
/- system.Right: what it answers. -/
namespace Go.Proofs.Ytjggjhgbobmkhaa
open Go.RowKit
set_option linter.unusedVariables false
set_option linter.unusedSimpArgs false
set_option maxRecDepth 100000
theorem within_any (a b c : Int) (w : World) :
    Calls Try.prog 51 #[.int .i64 a, .int .i64 b, .int .i64 c] w fun e w' => e = .returned (.bool (inR a b c)) ∧ w = w' := by
  refine enterR (args := [.int .i64 a, .int .i64 b, .int .i64 c]) tabOk Try.func51 rfl Try.ntmps51 rfl ?_; conv => whnf
  (repeat' (first | ((first | refine wl_add rfl rfl rfl rfl rfl rfl (by omega) (by omega) (run_l tabOk ?_) | refine wl_sub rfl rfl rfl rfl rfl rfl (by omega) (by omega) (run_l tabOk ?_) | refine gs_dt (by first | assumption | omega) ?_ | refine gs_df (by first | assumption | omega) ?_ | refine gs_t (by assumption) ?_ | refine gs_f (by assumption) ?_ | refine gs_d (fun hg => ?_) (fun hg => ?_) | refine gs_n (fun hg => ?_) (fun hg => ?_) | refine gs_nb (fun hg => ?_) (fun hg => ?_) | refine gs_b (fun hg => ?_) (fun hg => ?_)) <;> conv => whnf) | refine fin1 rfl rfl ?_))
  all_goals exact ⟨retB (by simp_all [inR]; try omega), rfl⟩
set_option maxHeartbeats 1000000
theorem sysCell (x : Cell) (vars : Int) (B : Option Addr) (c : Nat) (w : World) (h : RI w B x.args) :
    Calls Try.prog 48 #[.agg #[.bool x.fn, .int .i64 x.v, .slice B x.args.length c], .int .i64 vars] w fun e w' => e = .returned (.bool (cellOk vars x)) ∧ Below w.heap.size w w' := by
  have L1 := h.1
  refine enterR (args := [.agg #[.bool x.fn, .int .i64 x.v, .slice B x.args.length c], .int .i64 vars]) tabOk Try.func48 rfl Try.ntmps48 rfl ?_; conv => whnf
  refine wl_box rfl rfl rfl rfl rfl rfl ?_
  intro g w1 hn
  have hb := hn.blk
  have hB := hn.below
  refine run_l tabOk ?_
  conv => whnf
  (repeat' (first | (refine wl_Lg tabOk hb rfl rfl rfl rfl rfl rfl rfl (run_l tabOk ?_); conv => whnf) | ((first | refine wl_add rfl rfl rfl rfl rfl rfl (by omega) (by omega) (run_l tabOk ?_) | refine wl_sub rfl rfl rfl rfl rfl rfl (by omega) (by omega) (run_l tabOk ?_) | refine gs_dt (by first | assumption | omega) ?_ | refine gs_df (by first | assumption | omega) ?_ | refine gs_t (by assumption) ?_ | refine gs_f (by assumption) ?_ | refine gs_d (fun hg => ?_) (fun hg => ?_) | refine gs_n (fun hg => ?_) (fun hg => ?_) | refine gs_nb (fun hg => ?_) (fun hg => ?_) | refine gs_b (fun hg => ?_) (fun hg => ?_)) <;> conv => whnf) | refine fin1 rfl rfl ?_))
  refine lp_loop tabOk (X := Nat) (fun k => [(1, .int .i64 vars), (2, .pointer (some ⟨g, 0, none⟩)), (8, .slice B x.args.length c), (9, .int .i64 x.args.length), (10, .int .i64 k)])
    (fun k wr => k ≤ x.args.length ∧ (∀ j, j < k → inR x.args[j]! 0 vars = true) ∧ wr = w1) (fun k => x.args.length - k) 0 ⟨rfl, rfl, rfl, rfl, rfl, trivial⟩ ⟨by omega, by omega, rfl⟩ ?_
  rintro k G _ ⟨hk, hok, rfl⟩
  conv => whnf
  by_cases hlt : k < x.args.length
  · obtain ⟨y, ad, hy, rfl, f0, _⟩ := intsE (h.up (stays_I _) hB) k hlt
    (repeat' (first | (refine wl_Lg tabOk hb rfl rfl rfl rfl rfl rfl rfl (run_l tabOk ?_); conv => whnf) | (refine wl_L tabOk rfl rfl rfl rfl rfl rfl f0 (run_l tabOk ?_); conv => whnf) | (refine wl_Xn tabOk 3 1 rfl rfl rfl rfl rfl rfl rfl (by omega) (run_l tabOk ?_); conv => whnf) | ((refine wl_C fn51 (within_any _ _ _ _) rfl rfl rfl rfl rfl rfl rfl ?_); rintro _ _ ⟨rfl, rfl⟩; refine ⟨_, rfl, run_l tabOk ?_⟩; conv => whnf) | ((first | refine wl_add rfl rfl rfl rfl rfl rfl (by omega) (by omega) (run_l tabOk ?_) | refine wl_sub rfl rfl rfl rfl rfl rfl (by omega) (by omega) (run_l tabOk ?_) | refine gs_dt (by first | assumption | omega) ?_ | refine gs_df (by first | assumption | omega) ?_ | refine gs_t (by assumption) ?_ | refine gs_f (by assumption) ?_ | refine gs_d (fun hg => ?_) (fun hg => ?_) | refine gs_n (fun hg => ?_) (fun hg => ?_) | refine gs_nb (fun hg => ?_) (fun hg => ?_) | refine gs_b (fun hg => ?_) (fun hg => ?_)) <;> conv => whnf) | refine fin1 rfl rfl ?_))
    all_goals try exact ⟨retB (by rw [cell_arg hlt (by rw [hy.out]; assumption)]), hB⟩
    all_goals exact ⟨k + 1, ⟨rfl, rfl, rfl, rfl, rfl, trivial⟩, ⟨by omega, all_succ hok (by rw [hy.out]; assumption), rfl⟩, by omega⟩
  · have hall := all_true (p := fun n => inR n 0 vars) (all_ge hok hlt)
    (repeat' (first | (refine wl_Lg tabOk hb rfl rfl rfl rfl rfl rfl rfl (run_l tabOk ?_); conv => whnf) | ((refine wl_C fn51 (within_any _ _ _ _) rfl rfl rfl rfl rfl rfl rfl ?_); rintro _ _ ⟨rfl, rfl⟩; refine ⟨_, rfl, run_l tabOk ?_⟩; conv => whnf) | ((first | refine wl_add rfl rfl rfl rfl rfl rfl (by omega) (by omega) (run_l tabOk ?_) | refine wl_sub rfl rfl rfl rfl rfl rfl (by omega) (by omega) (run_l tabOk ?_) | refine gs_dt (by first | assumption | omega) ?_ | refine gs_df (by first | assumption | omega) ?_ | refine gs_t (by assumption) ?_ | refine gs_f (by assumption) ?_ | refine gs_d (fun hg => ?_) (fun hg => ?_) | refine gs_n (fun hg => ?_) (fun hg => ?_) | refine gs_nb (fun hg => ?_) (fun hg => ?_) | refine gs_b (fun hg => ?_) (fun hg => ?_)) <;> conv => whnf) | refine fin1 rfl rfl ?_))
    all_goals refine ⟨retB ?_, hB⟩
    all_goals unfold cellOk; rw [hall]; clear hall hok h hb hB hn; simp_all; try omega
set_option maxHeartbeats 2000000
theorem sysCon (x : Con) (vars : Int) (cells : Nat) (B : Option Addr) (c : Nat) (w : World) (h : RI w B x.args) :
    Calls Try.prog 49 #[.agg #[.int .u8 x.k, .int .i64 x.a, .int .i64 x.b, .slice B x.args.length c], .int .i64 vars, .int .i64 cells] w fun e w' => e = .returned (.bool (conOk vars cells x)) ∧ Below w.heap.size w w' := by
  have L1 := h.1
  refine enterR (args := [.agg #[.int .u8 x.k, .int .i64 x.a, .int .i64 x.b, .slice B x.args.length c], .int .i64 vars, .int .i64 cells]) tabOk Try.func49 rfl Try.ntmps49 rfl ?_; conv => whnf
  refine wl_box rfl rfl rfl rfl rfl rfl ?_
  intro g w1 hn
  have hb := hn.blk
  have hB := hn.below
  refine run_l tabOk ?_
  conv => whnf
  (repeat' (first | (refine wl_Lg tabOk hb rfl rfl rfl rfl rfl rfl rfl (run_l tabOk ?_); conv => whnf) | ((refine wl_C fn51 (within_any _ _ _ _) rfl rfl rfl rfl rfl rfl rfl ?_); rintro _ _ ⟨rfl, rfl⟩; refine ⟨_, rfl, run_l tabOk ?_⟩; conv => whnf) | ((first | refine wl_add rfl rfl rfl rfl rfl rfl (by omega) (by omega) (run_l tabOk ?_) | refine wl_sub rfl rfl rfl rfl rfl rfl (by omega) (by omega) (run_l tabOk ?_) | refine gs_dt (by first | assumption | omega) ?_ | refine gs_df (by first | assumption | omega) ?_ | refine gs_t (by assumption) ?_ | refine gs_f (by assumption) ?_ | refine gs_d (fun hg => ?_) (fun hg => ?_) | refine gs_n (fun hg => ?_) (fun hg => ?_) | refine gs_nb (fun hg => ?_) (fun hg => ?_) | refine gs_b (fun hg => ?_) (fun hg => ?_)) <;> conv => whnf) | refine fin1 rfl rfl ?_))
  all_goals try (refine ⟨retB ?_, hB⟩; (first | rw [con_val1 (by omega)] | rw [con_valk (by omega) (by omega)] | rw [con_valn (by omega)]); try (clear h hb hB hn L1; simp_all; done))
  refine lp_loop tabOk (X := Nat) (fun k => [(1, .int .i64 vars), (3, .pointer (some ⟨g, 0, none⟩)), (7, .int .i64 (-1)), (53, .slice B x.args.length c), (54, .int .i64 x.args.length), (55, .int .i64 k)])
    (fun k wr => k ≤ x.args.length ∧ (∀ j, j < k → inR x.args[j]! (-1) vars = true) ∧ wr = w1) (fun k => x.args.length - k) 0 ⟨rfl, rfl, rfl, rfl, rfl, rfl, trivial⟩ ⟨by omega, by omega, rfl⟩ ?_
  rintro k G _ ⟨hk, hok, rfl⟩
  conv => whnf
  by_cases hlt : k < x.args.length
  · obtain ⟨y, ad, hy, rfl, f0, _⟩ := intsE (h.up (stays_I _) hB) k hlt
    (repeat' (first | (refine wl_Lg tabOk hb rfl rfl rfl rfl rfl rfl rfl (run_l tabOk ?_); conv => whnf) | (refine wl_L tabOk rfl rfl rfl rfl rfl rfl f0 (run_l tabOk ?_); conv => whnf) | (refine wl_Xn tabOk 3 1 rfl rfl rfl rfl rfl rfl rfl (by omega) (run_l tabOk ?_); conv => whnf) | ((refine wl_C fn51 (within_any _ _ _ _) rfl rfl rfl rfl rfl rfl rfl ?_); rintro _ _ ⟨rfl, rfl⟩; refine ⟨_, rfl, run_l tabOk ?_⟩; conv => whnf) | ((first | refine wl_add rfl rfl rfl rfl rfl rfl (by omega) (by omega) (run_l tabOk ?_) | refine wl_sub rfl rfl rfl rfl rfl rfl (by omega) (by omega) (run_l tabOk ?_) | refine gs_dt (by first | assumption | omega) ?_ | refine gs_df (by first | assumption | omega) ?_ | refine gs_t (by assumption) ?_ | refine gs_f (by assumption) ?_ | refine gs_d (fun hg => ?_) (fun hg => ?_) | refine gs_n (fun hg => ?_) (fun hg => ?_) | refine gs_nb (fun hg => ?_) (fun hg => ?_) | refine gs_b (fun hg => ?_) (fun hg => ?_)) <;> conv => whnf) | refine fin1 rfl rfl ?_))
    all_goals try exact ⟨retB (by rw [con_arg hlt (by rw [hy.out]; assumption)]), hB⟩
    all_goals exact ⟨k + 1, ⟨rfl, rfl, rfl, rfl, rfl, rfl, trivial⟩, ⟨by omega, all_succ hok (by rw [hy.out]; assumption), rfl⟩, by omega⟩
  · have hall := all_true (p := fun n => inR n (-1) vars) (all_ge hok hlt)
    (repeat' (first | (refine wl_Lg tabOk hb rfl rfl rfl rfl rfl rfl rfl (run_l tabOk ?_); conv => whnf) | ((refine wl_C fn51 (within_any _ _ _ _) rfl rfl rfl rfl rfl rfl rfl ?_); rintro _ _ ⟨rfl, rfl⟩; refine ⟨_, rfl, run_l tabOk ?_⟩; conv => whnf) | ((first | refine wl_add rfl rfl rfl rfl rfl rfl (by omega) (by omega) (run_l tabOk ?_) | refine wl_sub rfl rfl rfl rfl rfl rfl (by omega) (by omega) (run_l tabOk ?_) | refine gs_dt (by first | assumption | omega) ?_ | refine gs_df (by first | assumption | omega) ?_ | refine gs_t (by assumption) ?_ | refine gs_f (by assumption) ?_ | refine gs_d (fun hg => ?_) (fun hg => ?_) | refine gs_n (fun hg => ?_) (fun hg => ?_) | refine gs_nb (fun hg => ?_) (fun hg => ?_) | refine gs_b (fun hg => ?_) (fun hg => ?_)) <;> conv => whnf) | refine fin1 rfl rfl ?_))
    all_goals (refine ⟨retB ?_, hB⟩; rw [con_val5 (by omega) hall]; clear hall hok h hb hB hn L1; simp_all; done)
theorem sysRight (s : Sys) (A1 A2 : Option Addr) (c1 c2 : Nat) (w : World) (h1 : RCells w A1 s.cells) (h2 : RCons w A2 s.cons) :
    Calls Try.prog 33 #[.agg #[.int .i64 s.vars, .slice A1 s.cells.length c1, .slice A2 s.cons.length c2]] w fun e w' => e = .returned (.bool (rightB s)) ∧ Below w.heap.size w w' := by
  have L1 := h1.1
  have L2 := h2.1
  refine enterR (args := [.agg #[.int .i64 s.vars, .slice A1 s.cells.length c1, .slice A2 s.cons.length c2]]) tabOk Try.func33 rfl Try.ntmps33 rfl ?_; conv => whnf
  refine wl_box rfl rfl rfl rfl rfl rfl ?_
  intro g w1 hn
  have hb := hn.blk
  refine run_l tabOk ?_
  conv => whnf
  (repeat' (first | (refine wl_Lg tabOk hb rfl rfl rfl rfl rfl rfl rfl (run_l tabOk ?_); conv => whnf) | ((first | refine wl_add rfl rfl rfl rfl rfl rfl (by omega) (by omega) (run_l tabOk ?_) | refine wl_sub rfl rfl rfl rfl rfl rfl (by omega) (by omega) (run_l tabOk ?_) | refine gs_dt (by first | assumption | omega) ?_ | refine gs_df (by first | assumption | omega) ?_ | refine gs_t (by assumption) ?_ | refine gs_f (by assumption) ?_ | refine gs_d (fun hg => ?_) (fun hg => ?_) | refine gs_n (fun hg => ?_) (fun hg => ?_) | refine gs_nb (fun hg => ?_) (fun hg => ?_) | refine gs_b (fun hg => ?_) (fun hg => ?_)) <;> conv => whnf) | refine fin1 rfl rfl ?_))
  all_goals try exact ⟨retB (right_big (by omega)).symm, hn.below⟩
  refine lp_loop tabOk (X := Nat) (fun k => [(1, .pointer (some ⟨g, 0, none⟩)), (28, .slice A1 s.cells.length c1), (29, .int .i64 s.cells.length), (30, .int .i64 k)])
    (fun k wr => k ≤ s.cells.length ∧ (∀ j, j < k → cellOk s.vars s.cells[j]! = true) ∧ Below w.heap.size w wr ∧ wr.heap[g]? = some (.cells #[.int .i64 s.vars, .slice A1 s.cells.length c1, .slice A2 s.cons.length c2] 29 (0, 0)))
    (fun k => s.cells.length - k) 0 ⟨rfl, rfl, rfl, rfl, trivial⟩ ⟨by omega, by omega, hn.below, hb⟩ ?_
  clear hb hn
  intro k G wr ⟨hk, hok, hB, hb⟩
  conv => whnf
  by_cases hlt : k < s.cells.length
  · obtain ⟨x, ad, B, c, hx, rfl, e0, e1, e2, _⟩ := cellsE (h1.up stays_Cell hB) k hlt
    (repeat' (first | (refine wl_Lg tabOk hb rfl rfl rfl rfl rfl rfl rfl (run_l tabOk ?_); conv => whnf) | (refine wl_Xn tabOk 44 3 rfl rfl rfl rfl rfl rfl rfl (by omega) (run_l tabOk ?_); conv => whnf) | (refine wl_La tabOk e0 rfl rfl rfl rfl rfl rfl (run_l tabOk ?_); conv => whnf) | ((first | refine wl_add rfl rfl rfl rfl rfl rfl (by omega) (by omega) (run_l tabOk ?_) | refine wl_sub rfl rfl rfl rfl rfl rfl (by omega) (by omega) (run_l tabOk ?_) | refine gs_dt (by first | assumption | omega) ?_ | refine gs_df (by first | assumption | omega) ?_ | refine gs_t (by assumption) ?_ | refine gs_f (by assumption) ?_ | refine gs_d (fun hg => ?_) (fun hg => ?_) | refine gs_n (fun hg => ?_) (fun hg => ?_) | refine gs_nb (fun hg => ?_) (fun hg => ?_) | refine gs_b (fun hg => ?_) (fun hg => ?_)) <;> conv => whnf) | refine fin1 rfl rfl ?_))
    refine wl_alloc tabOk rfl rfl rfl rfl rfl rfl ?_
    intro g2 w2 hn2
    refine wl_Sa tabOk hn2.blk rfl rfl rfl rfl rfl (by simp [Value.oneCell']) rfl rfl ?_
    intro w3 hp
    have hg : g ≠ g2 := by have := blk_lt hb; have := hn2.at_; omega
    have hb3 := hp.old (hn2.old hb) hg
    have hc3 := hp.blk
    have hB3 : Below wr.heap.size wr w3 := hp.below hn2.below (by have := hn2.at_; omega) (by have := hn2.size; omega)
    have hBw := bup hB hB3
    refine run_l tabOk ?_
    conv => whnf
    (repeat' (first | (refine wl_Lg tabOk hb3 rfl rfl rfl rfl rfl rfl rfl (run_l tabOk ?_); conv => whnf) | (refine wl_Lg tabOk hc3 rfl rfl rfl rfl rfl rfl rfl (run_l tabOk ?_); conv => whnf) | (refine wl_Lag tabOk hc3 rfl rfl rfl rfl rfl rfl (run_l tabOk ?_); conv => whnf) | ((first | refine wl_add rfl rfl rfl rfl rfl rfl (by omega) (by omega) (run_l tabOk ?_) | refine wl_sub rfl rfl rfl rfl rfl rfl (by omega) (by omega) (run_l tabOk ?_) | refine gs_dt (by first | assumption | omega) ?_ | refine gs_df (by first | assumption | omega) ?_ | refine gs_t (by assumption) ?_ | refine gs_f (by assumption) ?_ | refine gs_d (fun hg => ?_) (fun hg => ?_) | refine gs_n (fun hg => ?_) (fun hg => ?_) | refine gs_nb (fun hg => ?_) (fun hg => ?_) | refine gs_b (fun hg => ?_) (fun hg => ?_)) <;> conv => whnf) | refine fin1 rfl rfl ?_))
    refine wl_C fn48 (sysCell x _ _ _ _ (e2.out.up (stays_I _) hB3)) rfl rfl rfl rfl rfl rfl rfl ?_
    rintro _ w4 ⟨rfl, hB4⟩
    refine ⟨_, rfl, run_l tabOk ?_⟩
    conv => whnf
    (repeat' (first | ((first | refine wl_add rfl rfl rfl rfl rfl rfl (by omega) (by omega) (run_l tabOk ?_) | refine wl_sub rfl rfl rfl rfl rfl rfl (by omega) (by omega) (run_l tabOk ?_) | refine gs_dt (by first | assumption | omega) ?_ | refine gs_df (by first | assumption | omega) ?_ | refine gs_t (by assumption) ?_ | refine gs_f (by assumption) ?_ | refine gs_d (fun hg => ?_) (fun hg => ?_) | refine gs_n (fun hg => ?_) (fun hg => ?_) | refine gs_nb (fun hg => ?_) (fun hg => ?_) | refine gs_b (fun hg => ?_) (fun hg => ?_)) <;> conv => whnf) | refine fin1 rfl rfl ?_))
    · exact ⟨retB (by rw [right_cell hlt (by rw [hx.out]; assumption)]), bup hBw hB4⟩
    · exact ⟨k + 1, ⟨rfl, rfl, rfl, rfl, trivial⟩, ⟨by omega, all_succ hok (by rw [hx.out]; assumption), bup hBw hB4, blk_up (bup hB3 hB4) hb⟩, by omega⟩
  · have hokA := all_ge hok hlt
    (repeat' (first | (refine wl_Lg tabOk hb rfl rfl rfl rfl rfl rfl rfl (run_l tabOk ?_); conv => whnf) | ((first | refine wl_add rfl rfl rfl rfl rfl rfl (by omega) (by omega) (run_l tabOk ?_) | refine wl_sub rfl rfl rfl rfl rfl rfl (by omega) (by omega) (run_l tabOk ?_) | refine gs_dt (by first | assumption | omega) ?_ | refine gs_df (by first | assumption | omega) ?_ | refine gs_t (by assumption) ?_ | refine gs_f (by assumption) ?_ | refine gs_d (fun hg => ?_) (fun hg => ?_) | refine gs_n (fun hg => ?_) (fun hg => ?_) | refine gs_nb (fun hg => ?_) (fun hg => ?_) | refine gs_b (fun hg => ?_) (fun hg => ?_)) <;> conv => whnf) | refine fin1 rfl rfl ?_))
    refine lp_loop tabOk (X := Nat) (fun k => [(1, .pointer (some ⟨g, 0, none⟩)), (41, .slice A2 s.cons.length c2), (42, .int .i64 s.cons.length), (43, .int .i64 k)])
      (fun k wr => k ≤ s.cons.length ∧ (∀ j, j < k → conOk s.vars s.cells.length s.cons[j]! = true) ∧ Below w.heap.size w wr ∧ wr.heap[g]? = some (.cells #[.int .i64 s.vars, .slice A1 s.cells.length c1, .slice A2 s.cons.length c2] 29 (0, 0)))
      (fun k => s.cons.length - k) 0 ⟨rfl, rfl, rfl, rfl, trivial⟩ ⟨by omega, by omega, hB, hb⟩ ?_
    clear hb hB
    intro k G wr ⟨hk, hokc, hB, hb⟩
    conv => whnf
    by_cases hlt : k < s.cons.length
    · obtain ⟨x, ad, B, c, hx, rfl, e0, e1, e2, e3, e4, _⟩ := consE (h2.up stays_Con hB) k hlt
      (repeat' (first | (refine wl_Lg tabOk hb rfl rfl rfl rfl rfl rfl rfl (run_l tabOk ?_); conv => whnf) | (refine wl_Xn tabOk 46 4 rfl rfl rfl rfl rfl rfl rfl (by omega) (run_l tabOk ?_); conv => whnf) | (refine wl_La tabOk e0 rfl rfl rfl rfl rfl rfl (run_l tabOk ?_); conv => whnf) | ((first | refine wl_add rfl rfl rfl rfl rfl rfl (by omega) (by omega) (run_l tabOk ?_) | refine wl_sub rfl rfl rfl rfl rfl rfl (by omega) (by omega) (run_l tabOk ?_) | refine gs_dt (by first | assumption | omega) ?_ | refine gs_df (by first | assumption | omega) ?_ | refine gs_t (by assumption) ?_ | refine gs_f (by assumption) ?_ | refine gs_d (fun hg => ?_) (fun hg => ?_) | refine gs_n (fun hg => ?_) (fun hg => ?_) | refine gs_nb (fun hg => ?_) (fun hg => ?_) | refine gs_b (fun hg => ?_) (fun hg => ?_)) <;> conv => whnf) | refine fin1 rfl rfl ?_))
      refine wl_alloc tabOk rfl rfl rfl rfl rfl rfl ?_
      intro g2 w2 hn2
      refine wl_Sa tabOk hn2.blk rfl rfl rfl rfl rfl (by simp [Value.oneCell']) rfl rfl ?_
      intro w3 hp
      have hg : g ≠ g2 := by have := blk_lt hb; have := hn2.at_; omega
      have hb3 := hp.old (hn2.old hb) hg
      have hc3 := hp.blk
      have hB3 : Below wr.heap.size wr w3 := hp.below hn2.below (by have := hn2.at_; omega) (by have := hn2.size; omega)
      have hBw := bup hB hB3
      refine run_l tabOk ?_
      conv => whnf
      (repeat' (first | (refine wl_Lg tabOk hb3 rfl rfl rfl rfl rfl rfl rfl (run_l tabOk ?_); conv => whnf) | (refine wl_Lg tabOk hc3 rfl rfl rfl rfl rfl rfl rfl (run_l tabOk ?_); conv => whnf) | (refine wl_Lag tabOk hc3 rfl rfl rfl rfl rfl rfl (run_l tabOk ?_); conv => whnf) | ((first | refine wl_add rfl rfl rfl rfl rfl rfl (by omega) (by omega) (run_l tabOk ?_) | refine wl_sub rfl rfl rfl rfl rfl rfl (by omega) (by omega) (run_l tabOk ?_) | refine gs_dt (by first | assumption | omega) ?_ | refine gs_df (by first | assumption | omega) ?_ | refine gs_t (by assumption) ?_ | refine gs_f (by assumption) ?_ | refine gs_d (fun hg => ?_) (fun hg => ?_) | refine gs_n (fun hg => ?_) (fun hg => ?_) | refine gs_nb (fun hg => ?_) (fun hg => ?_) | refine gs_b (fun hg => ?_) (fun hg => ?_)) <;> conv => whnf) | refine fin1 rfl rfl ?_))
      refine wl_C fn49 (sysCon x _ _ _ _ _ (e2.out.up (stays_I _) hB3)) rfl rfl rfl rfl rfl rfl rfl ?_
      rintro _ w4 ⟨rfl, hB4⟩
      refine ⟨_, rfl, run_l tabOk ?_⟩
      conv => whnf
      (repeat' (first | ((first | refine wl_add rfl rfl rfl rfl rfl rfl (by omega) (by omega) (run_l tabOk ?_) | refine wl_sub rfl rfl rfl rfl rfl rfl (by omega) (by omega) (run_l tabOk ?_) | refine gs_dt (by first | assumption | omega) ?_ | refine gs_df (by first | assumption | omega) ?_ | refine gs_t (by assumption) ?_ | refine gs_f (by assumption) ?_ | refine gs_d (fun hg => ?_) (fun hg => ?_) | refine gs_n (fun hg => ?_) (fun hg => ?_) | refine gs_nb (fun hg => ?_) (fun hg => ?_) | refine gs_b (fun hg => ?_) (fun hg => ?_)) <;> conv => whnf) | refine fin1 rfl rfl ?_))
      · exact ⟨retB (by rw [right_con hlt (by rw [hx.out]; assumption)]), bup hBw hB4⟩
      · exact ⟨k + 1, ⟨rfl, rfl, rfl, rfl, trivial⟩, ⟨by omega, all_succ hokc (by rw [hx.out]; assumption), bup hBw hB4, blk_up (bup hB3 hB4) hb⟩, by omega⟩
    · (repeat' (first | (refine wl_Lg tabOk hb rfl rfl rfl rfl rfl rfl rfl (run_l tabOk ?_); conv => whnf) | ((first | refine wl_add rfl rfl rfl rfl rfl rfl (by omega) (by omega) (run_l tabOk ?_) | refine wl_sub rfl rfl rfl rfl rfl rfl (by omega) (by omega) (run_l tabOk ?_) | refine gs_dt (by first | assumption | omega) ?_ | refine gs_df (by first | assumption | omega) ?_ | refine gs_t (by assumption) ?_ | refine gs_f (by assumption) ?_ | refine gs_d (fun hg => ?_) (fun hg => ?_) | refine gs_n (fun hg => ?_) (fun hg => ?_) | refine gs_nb (fun hg => ?_) (fun hg => ?_) | refine gs_b (fun hg => ?_) (fun hg => ?_)) <;> conv => whnf) | refine fin1 rfl rfl ?_))
      exact ⟨retB (by rw [right_all (by omega) (by omega) (by omega) (by omega) hokA (all_ge hokc hlt)]), hB⟩
end Go.Proofs.Ytjggjhgbobmkhaa

/- system.Count: how many constraints are of a kind. -/
namespace Go.Proofs.Ytjggjhgbobmkhaa
open Go.RowKit
set_option linter.unusedVariables false
set_option linter.unusedSimpArgs false
set_option maxRecDepth 100000
end Go.Proofs.Ytjggjhgbobmkhaa

/- system.Loose. -/
namespace Go.Proofs.Ytjggjhgbobmkhaa
open Go.RowKit
set_option linter.unusedVariables false
set_option linter.unusedSimpArgs false
set_option maxRecDepth 100000
def markB (xs : List Bool) (v : Int) : List Bool := if 0 ≤ v ∧ v < xs.length then xs.set v.toNat true else xs
theorem looseMark (xs : List Bool) (g3 gb : Nat) (v : Int) (w : World) (h3 : w.heap[g3]? = some (.cells #[.slice (some ⟨gb, 0, none⟩) xs.length xs.length] 34 (0, 0))) (hb : w.heap[gb]? = some (.cells (vb xs).toArray 4 (0, 0))) (hne : g3 ≠ gb) :
    Calls Try.prog 50 #[.int .i64 v, .pointer (some ⟨g3, 0, none⟩)] w fun e w' => e = .returned (.tuple #[]) ∧ w.grownBy w' (some gb) ∧ w'.heap[gb]? = some (.cells (vb (markB xs v)).toArray 4 (0, 0)) := by
  refine enterR (args := [.int .i64 v, .pointer (some ⟨g3, 0, none⟩)]) tabOk Try.func50 rfl Try.ntmps50 rfl ?_; conv => whnf
  (repeat' (first | (refine wl_Lg tabOk h3 rfl rfl rfl rfl rfl rfl rfl (run_l tabOk ?_); conv => whnf) | ((refine wl_C fn51 (within_any _ _ _ _) rfl rfl rfl rfl rfl rfl rfl ?_); rintro _ _ ⟨rfl, rfl⟩; refine ⟨_, rfl, run_l tabOk ?_⟩; conv => whnf) | ((first | refine wl_add rfl rfl rfl rfl rfl rfl (by omega) (by omega) (run_l tabOk ?_) | refine gs_dt (by first | assumption | omega) ?_ | refine gs_df (by first | assumption | omega) ?_ | refine gs_d (fun hg => ?_) (fun hg => ?_) | refine gs_b (fun hg => ?_) (fun hg => ?_)) <;> conv => whnf) | refine fin1 rfl rfl ?_))
  · have hin : 0 ≤ v ∧ v < xs.length := by simpa [inR] using hg
    (repeat' (first | (refine wl_Lg tabOk h3 rfl rfl rfl rfl rfl rfl rfl (run_l tabOk ?_); conv => whnf) | (refine wl_X tabOk 4 1 rfl rfl rfl rfl rfl rfl rfl (by omega) (by omega) (run_l tabOk ?_); conv => whnf) | ((first | refine wl_add rfl rfl rfl rfl rfl rfl (by omega) (by omega) (run_l tabOk ?_) | refine gs_dt (by first | assumption | omega) ?_ | refine gs_df (by first | assumption | omega) ?_ | refine gs_d (fun hg => ?_) (fun hg => ?_) | refine gs_b (fun hg => ?_) (fun hg => ?_)) <;> conv => whnf) | refine fin1 rfl rfl ?_))
    refine wl_Se tabOk hb rfl rfl rfl rfl rfl rfl (by simp [vb]; omega) rfl rfl ?_
    intro w1 hp
    refine run_l tabOk ?_
    conv => whnf
    refine fin0 rfl ⟨rfl, hp.grown, ?_⟩
    rw [hp.blk, markB, if_pos hin]
    simp [vb, List.map_set]
    rfl
  · have hin : ¬ (0 ≤ v ∧ v < xs.length) := by simpa [inR] using hg
    refine fin0 rfl ⟨rfl, grown_refl _ _, ?_⟩
    rw [hb, markB, if_neg hin]
theorem markB_len (xs : List Bool) (v : Int) : (markB xs v).length = xs.length := by unfold markB; split <;> simp
def cellMarks (xs : List Bool) (c : Cell) : List Bool := c.args.foldl markB (markB xs c.v)
def conMarks (xs : List Bool) (c : Con) : List Bool := if c.k = 5 then markB xs c.a else xs
theorem fold_len {α : Type} {f : List Bool → α → List Bool} (hf : ∀ xs c, (f xs c).length = xs.length) : ∀ (l : List α) (xs : List Bool), (l.foldl f xs).length = xs.length
  | [], xs => rfl
  | c :: l, xs => by rw [List.foldl_cons, fold_len hf l, hf]
theorem cellMarks_len (xs : List Bool) (c : Cell) : (cellMarks xs c).length = xs.length := by rw [cellMarks, fold_len markB_len, markB_len]
theorem conMarks_len (xs : List Bool) (c : Con) : (conMarks xs c).length = xs.length := by unfold conMarks; split; exact markB_len _ _; rfl
def looseB (s : Sys) : List Bool := s.cons.foldl conMarks (s.cells.foldl cellMarks (List.replicate s.vars.toNat false))
structure LooInv (n : Nat) (g1 g3 gb : Nat) (v1 : List Value) (w0 w : World) (L : List Bool) : Prop where
  below : Below w0.heap.size w0 w
  b1 : w.heap[g1]? = some (.cells v1.toArray 29 (0, 0))
  b3 : w.heap[g3]? = some (.cells #[.slice (some ⟨gb, 0, none⟩) n n] 34 (0, 0))
  bb : w.heap[gb]? = some (.cells (vb L).toArray 4 (0, 0))
  len : L.length = n
theorem LooInv.up {n g1 g3 gb : Nat} {v1 : List Value} {w0 w w' : World} {L : List Bool} (h : LooInv n g1 g3 gb v1 w0 w L) (hb : Below w.heap.size w w') : LooInv n g1 g3 gb v1 w0 w' L :=
  ⟨bup h.below hb, blk_up hb h.b1, blk_up hb h.b3, blk_up hb h.bb, h.len⟩
theorem LooInv.mark {n g1 g3 gb : Nat} {v1 : List Value} {w0 w w' : World} {L : List Bool} {v : Int} (h : LooInv n g1 g3 gb v1 w0 w L) (h1 : g1 ≠ gb) (h3 : g3 ≠ gb) (h0 : w0.heap.size ≤ gb) (hg : w.grownBy w' (some gb)) (hb : w'.heap[gb]? = some (.cells (vb (markB L v)).toArray 4 (0, 0))) : LooInv n g1 g3 gb v1 w0 w' (markB L v) :=
  ⟨h.below.grown hg h.below.size (fun k hk => by cases hk; exact h0), (hg.block g1 (blk_lt h.b1) (by simpa using h1)).trans h.b1, (hg.block g3 (blk_lt h.b3) (by simpa using h3)).trans h.b3, hb, by rw [markB_len, h.len]⟩
theorem sysLoose (s : Sys) (A1 A2 : Option Addr) (c1 c2 : Nat) (w : World) (h1 : RCells w A1 s.cells) (h2 : RCons w A2 s.cons) (hv : s.vars ≤ 16384) :
    Calls Try.prog 34 #[.agg #[.int .i64 s.vars, .slice A1 s.cells.length c1, .slice A2 s.cons.length c2]] w fun e w' => ∃ g, e = .returned (.slice (some ⟨g, 0, none⟩) s.vars.toNat s.vars.toNat) ∧ w.heap.size ≤ g ∧ w'.heap[g]? = some (.cells (vb (looseB s)).toArray 4 (0, 0)) ∧ Below w.heap.size w w' := by
  refine enterR (args := [.agg #[.int .i64 s.vars, .slice A1 s.cells.length c1, .slice A2 s.cons.length c2]]) tabOk Try.func34 rfl Try.ntmps34 rfl ?_; conv => whnf
  refine wl_box rfl rfl rfl rfl rfl rfl ?_
  intro g1 w1 hn1
  have hb1 := hn1.blk
  refine run_l tabOk ?_
  conv => whnf
  (repeat' (first | (refine wl_Lg tabOk hb1 rfl rfl rfl rfl rfl rfl rfl (run_l tabOk ?_); conv => whnf) | ((first | refine wl_add rfl rfl rfl rfl rfl rfl (by omega) (by omega) (run_l tabOk ?_) | refine gs_dt (by first | assumption | omega) ?_ | refine gs_df (by first | assumption | omega) ?_ | refine gs_d (fun hg => ?_) (fun hg => ?_) | refine gs_b (fun hg => ?_) (fun hg => ?_)) <;> conv => whnf) | refine fin1 rfl rfl ?_))
  refine wl_max rfl rfl rfl rfl rfl rfl rfl rfl ?_
  intro m hm
  have hm2 : m = (s.vars.toNat : Int) := by rw [hm]; split <;> omega
  clear hm
  subst hm2
  refine run_l tabOk ?_
  conv => whnf
  refine wl_mk tabOk 4 1 1 rfl rfl rfl rfl rfl rfl rfl rfl rfl (by omega) (by omega) ?_
  intro gb w2 hn2
  refine run_l tabOk ?_
  conv => whnf
  refine wl_alloc tabOk rfl rfl rfl rfl rfl rfl ?_
  intro g3 w3 hn3
  refine wl_S (off := 0) tabOk hn3.blk rfl rfl rfl rfl rfl rfl (by simp) rfl rfl ?_
  intro w4 hp4
  refine run_l tabOk ?_
  conv => whnf
  have hz1 : w.heap.size = g1 := hn1.at_.symm
  have hz2 : g1 < gb := by have := hn1.at_; have := hn1.size; have := hn2.at_; omega
  have hz3 : gb < g3 := by have := hn2.at_; have := hn2.size; have := hn3.at_; omega
  have hL : LooInv s.vars.toNat g1 g3 gb [.int .i64 s.vars, .slice A1 s.cells.length c1, .slice A2 s.cons.length c2] w w4 (List.replicate s.vars.toNat false) := by
    refine ⟨hp4.below (hn3.up (hn2.up hn1.below)) (by omega) (by have := hn3.size; have := hn2.size; have := hn1.size; omega), hp4.old (hn3.old (hn2.old hb1)) (by omega), hp4.blk, ?_, by simp⟩
    have := hp4.old (hn3.old hn2.blk) (by omega)
    rw [this]
    simp [vb]
    exact .inr rfl
  refine wl_mf rfl rfl rfl rfl rfl rfl ?_
  refine run_l tabOk ?_
  conv => whnf
  have hb4 := hL.b1
  (repeat' (first | (refine wl_Lg tabOk hb4 rfl rfl rfl rfl rfl rfl rfl (run_l tabOk ?_); conv => whnf) | ((first | refine wl_add rfl rfl rfl rfl rfl rfl (by omega) (by omega) (run_l tabOk ?_) | refine gs_dt (by first | assumption | omega) ?_ | refine gs_df (by first | assumption | omega) ?_ | refine gs_d (fun hg => ?_) (fun hg => ?_) | refine gs_b (fun hg => ?_) (fun hg => ?_)) <;> conv => whnf) | refine fin1 rfl rfl ?_))
  refine lp_loop tabOk (X := Nat) (fun i => [(1, .pointer (some ⟨g1, 0, none⟩)), (3, .pointer (some ⟨g3, 0, none⟩)), (4, .func (.func 50) #[] #[.pointer (some ⟨g3, 0, none⟩)]), (17, .slice A1 s.cells.length c1), (18, .int .i64 s.cells.length), (19, .int .i64 i)])
    (fun i wr => i ≤ s.cells.length ∧ LooInv s.vars.toNat g1 g3 gb [.int .i64 s.vars, .slice A1 s.cells.length c1, .slice A2 s.cons.length c2] w wr ((s.cells.take i).foldl cellMarks (List.replicate s.vars.toNat false))) (fun i => s.cells.length - i) 0 ⟨rfl, rfl, rfl, rfl, rfl, rfl, trivial⟩ ⟨by omega, hL⟩ ?_
  clear hL hb4 hp4 hn3 hn2 hn1 hb1
  intro i G wr ⟨hi, hL⟩
  conv => whnf
  have hmx := h1.1
  have hmx2 := h2.1
  by_cases hlt : i < s.cells.length
  · obtain ⟨x, ad, B, c, hx, rfl, e0, hc, e4, _⟩ := cellsE h1 i hlt
    (repeat' (first | (refine wl_Xn tabOk 44 3 rfl rfl rfl rfl rfl rfl rfl (by omega) (run_l tabOk ?_); conv => whnf) | (refine wl_La tabOk (cellsAt_up hL.below e0) rfl rfl rfl rfl rfl rfl (run_l tabOk ?_); conv => whnf) | ((first | refine wl_add rfl rfl rfl rfl rfl rfl (by omega) (by omega) (run_l tabOk ?_) | refine gs_dt (by first | assumption | omega) ?_ | refine gs_df (by first | assumption | omega) ?_ | refine gs_d (fun hg => ?_) (fun hg => ?_) | refine gs_b (fun hg => ?_) (fun hg => ?_)) <;> conv => whnf) | refine fin1 rfl rfl ?_))
    refine wl_alloc tabOk rfl rfl rfl rfl rfl rfl ?_
    intro g6 w6 hn6
    refine wl_Sa tabOk hn6.blk rfl rfl rfl rfl rfl (by simp [Value.oneCell']) rfl rfl ?_
    intro w7 hp7
    have hB7 : Below wr.heap.size wr w7 := hp7.below hn6.below (by have := hn6.at_; omega) (by have := hn6.size; omega)
    have hL7 := hL.up hB7
    have hb7 := hp7.blk
    have hg6 : g6 ≠ gb := by have := blk_lt hL.bb; have := hn6.at_; omega
    refine run_l tabOk ?_
    conv => whnf
    (repeat' (first | (refine wl_Lg tabOk hb7 rfl rfl rfl rfl rfl rfl rfl (run_l tabOk ?_); conv => whnf) | ((first | refine wl_add rfl rfl rfl rfl rfl rfl (by omega) (by omega) (run_l tabOk ?_) | refine gs_dt (by first | assumption | omega) ?_ | refine gs_df (by first | assumption | omega) ?_ | refine gs_d (fun hg => ?_) (fun hg => ?_) | refine gs_b (fun hg => ?_) (fun hg => ?_)) <;> conv => whnf) | refine fin1 rfl rfl ?_))
    refine wl_CF fn50 (first := []) (args := [.int .i64 x.v]) (caps := [.pointer (some ⟨g3, 0, none⟩)]) (looseMark _ g3 gb x.v w7 (by rw [hL7.len]; exact hL7.b3) hL7.bb (by omega)) rfl rfl rfl rfl rfl rfl rfl ?_
    rintro _ m8' ⟨rfl, hgm8, hbm8⟩
    have hm8 := hL7.mark (by omega) (by omega) (by omega) hgm8 hbm8
    refine ⟨_, rfl, run_l tabOk ?_⟩
    conv => whnf
    have hb8 : m8'.heap[g6]? = _ := (hgm8.block g6 (blk_lt hb7) (by simpa using hg6)).trans hb7
    (repeat' (first | (refine wl_Lg tabOk hb8 rfl rfl rfl rfl rfl rfl rfl (run_l tabOk ?_); conv => whnf) | ((first | refine wl_add rfl rfl rfl rfl rfl rfl (by omega) (by omega) (run_l tabOk ?_) | refine gs_dt (by first | assumption | omega) ?_ | refine gs_df (by first | assumption | omega) ?_ | refine gs_d (fun hg => ?_) (fun hg => ?_) | refine gs_b (fun hg => ?_) (fun hg => ?_)) <;> conv => whnf) | refine fin1 rfl rfl ?_))
    refine lp_loop tabOk (X := Nat) (fun j => [(1, .pointer (some ⟨g1, 0, none⟩)), (3, .pointer (some ⟨g3, 0, none⟩)), (4, .func (.func 50) #[] #[.pointer (some ⟨g3, 0, none⟩)]), (17, .slice (some ad) s.cells.length c1), (18, .int .i64 s.cells.length), (19, .int .i64 i), (28, .slice B x.args.length c), (29, .int .i64 x.args.length), (30, .int .i64 j)])
      (fun j wj => j ≤ x.args.length ∧ LooInv s.vars.toNat g1 g3 gb [.int .i64 s.vars, .slice (some ad) s.cells.length c1, .slice A2 s.cons.length c2] w wj ((x.args.take j).foldl markB (markB ((s.cells.take i).foldl cellMarks (List.replicate s.vars.toNat false)) x.v))) (fun j => x.args.length - j) 0 ⟨rfl, rfl, rfl, rfl, rfl, rfl, rfl, rfl, rfl, trivial⟩ ⟨by omega, hm8⟩ ?_
    intro j G2 wj ⟨hj, hLj⟩
    conv => whnf
    have hmx3 := e4.out.1
    by_cases hjl : j < x.args.length
    · obtain ⟨y, ad2, hy, rfl, f0, _⟩ := intsE (e4.out.up (stays_I _) hLj.below) j hjl
      (repeat' (first | (refine wl_L tabOk rfl rfl rfl rfl rfl rfl f0 (run_l tabOk ?_); conv => whnf) | (refine wl_Xn tabOk 3 1 rfl rfl rfl rfl rfl rfl rfl (by omega) (run_l tabOk ?_); conv => whnf) | ((first | refine wl_add rfl rfl rfl rfl rfl rfl (by omega) (by omega) (run_l tabOk ?_) | refine gs_dt (by first | assumption | omega) ?_ | refine gs_df (by first | assumption | omega) ?_ | refine gs_d (fun hg => ?_) (fun hg => ?_) | refine gs_b (fun hg => ?_) (fun hg => ?_)) <;> conv => whnf) | refine fin1 rfl rfl ?_))
      refine wl_CF fn50 (first := []) (args := [.int .i64 y]) (caps := [.pointer (some ⟨g3, 0, none⟩)]) (looseMark _ g3 gb y wj (by rw [hLj.len]; exact hLj.b3) hLj.bb (by omega)) rfl rfl rfl rfl rfl rfl rfl ?_
      rintro _ m9' ⟨rfl, hgm9, hbm9⟩
      have hm9 := hLj.mark (by omega) (by omega) (by omega) hgm9 hbm9
      refine ⟨_, rfl, run_l tabOk ?_⟩
      conv => whnf
      (repeat' (first | ((first | refine wl_add rfl rfl rfl rfl rfl rfl (by omega) (by omega) (run_l tabOk ?_) | refine gs_dt (by first | assumption | omega) ?_ | refine gs_df (by first | assumption | omega) ?_ | refine gs_d (fun hg => ?_) (fun hg => ?_) | refine gs_b (fun hg => ?_) (fun hg => ?_)) <;> conv => whnf) | refine fin1 rfl rfl ?_))
      exact ⟨j + 1, ⟨rfl, rfl, rfl, rfl, rfl, rfl, rfl, rfl, rfl, trivial⟩, ⟨by omega, by rw [fold_take _ _ hjl, hy.out]; exact hm9⟩, by omega⟩
    · (repeat' (first | ((first | refine wl_add rfl rfl rfl rfl rfl rfl (by omega) (by omega) (run_l tabOk ?_) | refine gs_dt (by first | assumption | omega) ?_ | refine gs_df (by first | assumption | omega) ?_ | refine gs_d (fun hg => ?_) (fun hg => ?_) | refine gs_b (fun hg => ?_) (fun hg => ?_)) <;> conv => whnf) | refine fin1 rfl rfl ?_))
      exact ⟨i + 1, ⟨rfl, rfl, rfl, rfl, rfl, rfl, trivial⟩, ⟨by omega, by rw [fold_take _ _ hlt, hx.out, cellMarks]; rw [fold_all _ _ hjl] at hLj; exact hLj⟩, by omega⟩
  · (repeat' (first | (refine wl_Lg tabOk hL.b1 rfl rfl rfl rfl rfl rfl rfl (run_l tabOk ?_); conv => whnf) | ((first | refine wl_add rfl rfl rfl rfl rfl rfl (by omega) (by omega) (run_l tabOk ?_) | refine gs_dt (by first | assumption | omega) ?_ | refine gs_df (by first | assumption | omega) ?_ | refine gs_d (fun hg => ?_) (fun hg => ?_) | refine gs_b (fun hg => ?_) (fun hg => ?_)) <;> conv => whnf) | refine fin1 rfl rfl ?_))
    rw [fold_all _ _ hlt] at hL
    refine lp_loop tabOk (X := Nat) (fun j => [(1, .pointer (some ⟨g1, 0, none⟩)), (3, .pointer (some ⟨g3, 0, none⟩)), (4, .func (.func 50) #[] #[.pointer (some ⟨g3, 0, none⟩)]), (40, .slice A2 s.cons.length c2), (41, .int .i64 s.cons.length), (42, .int .i64 j)])
      (fun j wj => j ≤ s.cons.length ∧ LooInv s.vars.toNat g1 g3 gb [.int .i64 s.vars, .slice A1 s.cells.length c1, .slice A2 s.cons.length c2] w wj ((s.cons.take j).foldl conMarks (s.cells.foldl cellMarks (List.replicate s.vars.toNat false)))) (fun j => s.cons.length - j) 0 ⟨rfl, rfl, rfl, rfl, rfl, rfl, trivial⟩ ⟨by omega, hL⟩ ?_
    intro j G2 wj ⟨hj, hLj⟩
    conv => whnf
    by_cases hjl : j < s.cons.length
    · obtain ⟨x, ad, B, c, hx, rfl, e0, hc, e4, hk0, hk1, _⟩ := consE h2 j hjl
      (repeat' (first | (refine wl_Xn tabOk 46 4 rfl rfl rfl rfl rfl rfl rfl (by omega) (run_l tabOk ?_); conv => whnf) | (refine wl_La tabOk (cellsAt_up hLj.below e0) rfl rfl rfl rfl rfl rfl (run_l tabOk ?_); conv => whnf) | ((first | refine wl_add rfl rfl rfl rfl rfl rfl (by omega) (by omega) (run_l tabOk ?_) | refine gs_dt (by first | assumption | omega) ?_ | refine gs_df (by first | assumption | omega) ?_ | refine gs_d (fun hg => ?_) (fun hg => ?_) | refine gs_b (fun hg => ?_) (fun hg => ?_)) <;> conv => whnf) | refine fin1 rfl rfl ?_))
      refine wl_alloc tabOk rfl rfl rfl rfl rfl rfl ?_
      intro g6 w6 hn6
      refine wl_Sa tabOk hn6.blk rfl rfl rfl rfl rfl (by simp [Value.oneCell']) rfl rfl ?_
      intro w7 hp7
      have hB7 : Below wj.heap.size wj w7 := hp7.below hn6.below (by have := hn6.at_; omega) (by have := hn6.size; omega)
      have hL7 := hLj.up hB7
      have hb7 := hp7.blk
      refine run_l tabOk ?_
      conv => whnf
      (repeat' (first | (refine wl_Lg tabOk hb7 rfl rfl rfl rfl rfl rfl rfl (run_l tabOk ?_); conv => whnf) | ((first | refine wl_add rfl rfl rfl rfl rfl rfl (by omega) (by omega) (run_l tabOk ?_) | refine gs_dt (by first | assumption | omega) ?_ | refine gs_df (by first | assumption | omega) ?_ | refine gs_d (fun hg => ?_) (fun hg => ?_) | refine gs_b (fun hg => ?_) (fun hg => ?_)) <;> conv => whnf) | refine fin1 rfl rfl ?_))
      · refine wl_CF fn50 (first := []) (args := [.int .i64 x.a]) (caps := [.pointer (some ⟨g3, 0, none⟩)]) (looseMark _ g3 gb x.a w7 (by rw [hL7.len]; exact hL7.b3) hL7.bb (by omega)) rfl rfl rfl rfl rfl rfl rfl ?_
        rintro _ m8' ⟨rfl, hgm8, hbm8⟩
        have hm8 := hL7.mark (by omega) (by omega) (by omega) hgm8 hbm8
        refine ⟨_, rfl, run_l tabOk ?_⟩
        conv => whnf
        (repeat' (first | ((first | refine wl_add rfl rfl rfl rfl rfl rfl (by omega) (by omega) (run_l tabOk ?_) | refine gs_dt (by first | assumption | omega) ?_ | refine gs_df (by first | assumption | omega) ?_ | refine gs_d (fun hg => ?_) (fun hg => ?_) | refine gs_b (fun hg => ?_) (fun hg => ?_)) <;> conv => whnf) | refine fin1 rfl rfl ?_))
        exact ⟨j + 1, ⟨rfl, rfl, rfl, rfl, rfl, rfl, trivial⟩, ⟨by omega, by rw [fold_take _ _ hjl, hx.out, conMarks, if_pos hg]; exact hm8⟩, by omega⟩
      · exact ⟨j + 1, ⟨rfl, rfl, rfl, rfl, rfl, rfl, trivial⟩, ⟨by omega, by rw [fold_take _ _ hjl, hx.out, conMarks, if_neg hg]; exact hL7⟩, by omega⟩
    · (repeat' (first | (refine wl_Lg tabOk hLj.b3 rfl rfl rfl rfl rfl rfl rfl (run_l tabOk ?_); conv => whnf) | ((first | refine wl_add rfl rfl rfl rfl rfl rfl (by omega) (by omega) (run_l tabOk ?_) | refine gs_dt (by first | assumption | omega) ?_ | refine gs_df (by first | assumption | omega) ?_ | refine gs_d (fun hg => ?_) (fun hg => ?_) | refine gs_b (fun hg => ?_) (fun hg => ?_)) <;> conv => whnf) | refine fin1 rfl rfl ?_))
      rw [fold_all _ _ hjl] at hLj
      exact ⟨gb, rfl, by omega, hLj.bb, hLj.below⟩
end Go.Proofs.Ytjggjhgbobmkhaa

/- Loose: the list that is marked, and the question of one variable, say the same. -/
namespace Go.Proofs.Ytjggjhgbobmkhaa
open Go.RowKit
set_option linter.unusedVariables false
set_option linter.unusedSimpArgs false
def cellLoose (v : Int) (c : Cell) : Bool := decide (c.v = v) || c.args.any fun n => decide (n = v)
def conLoose (v : Int) (c : Con) : Bool := decide (c.k = 5) && decide (c.a = v)
def looseAt (s : Sys) (v : Int) : Bool := s.cells.any (cellLoose v) || s.cons.any (conLoose v)
theorem markB_get {xs : List Bool} {v : Nat} (hv : v < xs.length) (n : Int) : (markB xs n)[v]! = (xs[v]! || decide (n = (v : Int))) := by
  unfold markB
  split
  · rename_i hn
    rw [getElem!_pos (xs.set n.toNat true) v (by simpa using hv), getElem!_pos xs v hv, List.getElem_set]
    by_cases e : n = (v : Int)
    · simp [e]
    · rw [if_neg (by omega)]
      simp [e]
  · rename_i hn
    rw [show decide (n = (v : Int)) = false by simp; omega]
    simp
theorem fold_get {α : Type} {f : List Bool → α → List Bool} {p : α → Bool} {v : Nat} (hl : ∀ xs c, (f xs c).length = xs.length) (hf : ∀ (xs : List Bool) (c : α), v < xs.length → (f xs c)[v]! = (xs[v]! || p c)) :
    ∀ (l : List α) (xs : List Bool), v < xs.length → (l.foldl f xs)[v]! = (xs[v]! || l.any p)
  | [], xs, h => by simp
  | c :: l, xs, h => by
    rw [List.foldl_cons, fold_get hl hf l _ (by rw [hl]; exact h), hf xs c h]
    simp [Bool.or_assoc]
theorem looseB_len (s : Sys) : (looseB s).length = s.vars.toNat := by
  rw [looseB, fold_len conMarks_len, fold_len cellMarks_len, List.length_replicate]
theorem looseB_get (s : Sys) {v : Nat} (hv : v < s.vars.toNat) : (looseB s)[v]! = looseAt s v := by
  have h0 : v < (List.replicate s.vars.toNat false).length := by simpa using hv
  rw [looseB, fold_get (p := conLoose v) conMarks_len ?_ _ _ (by rw [fold_len cellMarks_len]; exact h0), fold_get (p := cellLoose v) cellMarks_len ?_ _ _ h0]
  · rw [getElem!_pos (List.replicate s.vars.toNat false) v h0]
    simp [looseAt]
  · intro xs c h
    rw [cellMarks, fold_get (p := fun n => decide (n = (v : Int))) markB_len (fun xs n h => markB_get h n) _ _ (by rw [markB_len]; exact h), markB_get h]
    simp [cellLoose, Bool.or_assoc]
  · intro xs c h
    unfold conMarks conLoose
    split
    · rename_i e
      rw [markB_get h]
      simp [e]
    · rename_i e
      simp [e]
end Go.Proofs.Ytjggjhgbobmkhaa
