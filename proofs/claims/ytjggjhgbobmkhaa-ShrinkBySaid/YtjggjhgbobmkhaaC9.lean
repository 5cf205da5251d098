/- Several texts of one claim in one file: A2. -/
import Derived.Test.YtjggjhgbobmkhaaC4
/- weathervaneref12.Right: what it answers. -/
namespace Go.Proofs.Ytjggjhgbobmkhaa
open Go.RowKit
set_option linter.unusedVariables false
set_option linter.unusedSimpArgs false
set_option maxRecDepth 100000
theorem in_any (a b c : Int) (w : World) :
    Calls Try.prog 45 #[.int .i64 a, .int .i64 b, .int .i64 c] w fun e w' => e = .returned (.bool (inR a b c)) ∧ w = w' := by
  refine enterR (args := [.int .i64 a, .int .i64 b, .int .i64 c]) tabOk Try.func45 rfl Try.ntmps45 rfl ?_; conv => whnf
  (repeat' (first | ((first | refine wl_add rfl rfl rfl rfl rfl rfl (by omega) (by omega) (run_l tabOk ?_) | refine wl_sub rfl rfl rfl rfl rfl rfl (by omega) (by omega) (run_l tabOk ?_) | refine gs_dt (by first | assumption | omega) ?_ | refine gs_df (by first | assumption | omega) ?_ | refine gs_t (by assumption) ?_ | refine gs_f (by assumption) ?_ | refine gs_d (fun hg => ?_) (fun hg => ?_) | refine gs_n (fun hg => ?_) (fun hg => ?_) | refine gs_nb (fun hg => ?_) (fun hg => ?_) | refine gs_b (fun hg => ?_) (fun hg => ?_)) <;> conv => whnf) | refine fin1 rfl rfl ?_))
  all_goals exact ⟨retB (by simp_all [inR]; try omega), rfl⟩
theorem in_q (a b c : Int) (w : World) :
    Calls Try.prog 45 #[.int .i64 a, .int .i64 b, .int .i64 c] w fun e w' => e = .returned (.bool (inR a b c)) ∧ Below w.heap.size w w' :=
  (in_any a b c w).mono fun _ _ ⟨h1, h2⟩ => ⟨h1, by subst h2; exact Below.refl _ _⟩
set_option maxHeartbeats 1000000
theorem refRight (s : Sys) (A1 A2 : Option Addr) (c1 c2 : Nat) (w : World) (h1 : RCells w A1 s.cells) (h2 : RCons w A2 s.cons) :
    Calls Try.prog 28 #[.agg #[.int .i64 s.vars, .slice A1 s.cells.length c1, .slice A2 s.cons.length c2]] w fun e w' => e = .returned (.bool (rightB s)) ∧ Below w.heap.size w w' := by
  have L1 := h1.1
  have L2 := h2.1
  refine enterR (args := [.agg #[.int .i64 s.vars, .slice A1 s.cells.length c1, .slice A2 s.cons.length c2]]) tabOk Try.func28 rfl Try.ntmps28 rfl ?_; conv => whnf
  refine wl_box rfl rfl rfl rfl rfl rfl ?_
  intro g w1 hn
  have hb := hn.blk
  refine run_l tabOk ?_
  conv => whnf
  (repeat' (first | (refine wl_Lg tabOk hb rfl rfl rfl rfl rfl rfl rfl (run_l tabOk ?_); conv => whnf) | ((first | refine wl_add rfl rfl rfl rfl rfl rfl (by omega) (by omega) (run_l tabOk ?_) | refine wl_sub rfl rfl rfl rfl rfl rfl (by omega) (by omega) (run_l tabOk ?_) | refine gs_dt (by first | assumption | omega) ?_ | refine gs_df (by first | assumption | omega) ?_ | refine gs_t (by assumption) ?_ | refine gs_f (by assumption) ?_ | refine gs_d (fun hg => ?_) (fun hg => ?_) | refine gs_n (fun hg => ?_) (fun hg => ?_) | refine gs_nb (fun hg => ?_) (fun hg => ?_) | refine gs_b (fun hg => ?_) (fun hg => ?_)) <;> conv => whnf) | refine fin1 rfl rfl ?_))
  all_goals try exact ⟨retB (right_big (by omega)).symm, hn.below⟩
  refine lp_loop tabOk (X := Nat) (fun k => [(1, .pointer (some ⟨g, 0, none⟩)), (3, .int .i64 k)])
    (fun k wr => k ≤ s.cells.length ∧ (∀ j, j < k → cellOk s.vars s.cells[j]! = true) ∧ Below w.heap.size w wr ∧ wr.heap[g]? = some (.cells #[.int .i64 s.vars, .slice A1 s.cells.length c1, .slice A2 s.cons.length c2] 29 (0, 0)))
    (fun k => s.cells.length - k) 0 ⟨rfl, rfl, trivial⟩ ⟨by omega, by omega, hn.below, hb⟩ ?_
  clear hb hn
  intro k G wr ⟨hk, hok, hB, hb⟩
  conv => whnf
  by_cases hlt : k < s.cells.length
  · obtain ⟨x, ad, B, c, hx, rfl, e0, e1, e2, _⟩ := cellsE (h1.up stays_Cell hB) k hlt
    (repeat' (first | (refine wl_Lg tabOk hb rfl rfl rfl rfl rfl rfl rfl (run_l tabOk ?_); conv => whnf) | (refine wl_Xn tabOk 44 3 rfl rfl rfl rfl rfl rfl rfl (by omega) (run_l tabOk ?_); conv => whnf) | (refine wl_La tabOk e0 rfl rfl rfl rfl rfl rfl (run_l tabOk ?_); conv => whnf) | ((first | refine wl_add rfl rfl rfl rfl rfl rfl (by omega) (by omega) (run_l tabOk ?_) | refine wl_sub rfl rfl rfl rfl rfl rfl (by omega) (by omega) (run_l tabOk ?_) | refine gs_dt (by first | assumption | omega) ?_ | refine gs_df (by first | assumption | omega) ?_ | refine gs_t (by assumption) ?_ | refine gs_f (by assumption) ?_ | refine gs_d (fun hg => ?_) (fun hg => ?_) | refine gs_n (fun hg => ?_) (fun hg => ?_) | refine gs_nb (fun hg => ?_) (fun hg => ?_) | refine gs_b (fun hg => ?_) (fun hg => ?_)) <;> conv => whnf) | refine fin1 rfl rfl ?_))
    refine wl_alloc tabOk rfl rfl rfl rfl rfl rfl ?_
    intro g2 w2 hn2
    refine wl_Sa tabOk hn2.blk rfl rfl rfl rfl rfl (by simp [Value.oneCell']) rfl rfl ?_
    intro w3 hp
    have hg : g ≠ g2 := by have := blk_lt hb; have := hn2.at_; omega
    have hb3 := hp.old (hn2.old hb) hg
    have hc3 := hp.blk
    have hB3 : Below wr.heap.size wr w3 := hp.below hn2.below (by have := hn2.at_; omega) (by have := hn2.size; omega)
    have hBw := bup hB hB3
    refine run_l tabOk ?_
    conv => whnf
    (repeat' (first | (refine wl_Lg tabOk hb3 rfl rfl rfl rfl rfl rfl rfl (run_l tabOk ?_); conv => whnf) | (refine wl_Lg tabOk hc3 rfl rfl rfl rfl rfl rfl rfl (run_l tabOk ?_); conv => whnf) | ((refine wl_C fn45 (in_any _ _ _ _) rfl rfl rfl rfl rfl rfl rfl ?_); rintro _ _ ⟨rfl, rfl⟩; refine ⟨_, rfl, run_l tabOk ?_⟩; conv => whnf) | ((first | refine wl_add rfl rfl rfl rfl rfl rfl (by omega) (by omega) (run_l tabOk ?_) | refine wl_sub rfl rfl rfl rfl rfl rfl (by omega) (by omega) (run_l tabOk ?_) | refine gs_dt (by first | assumption | omega) ?_ | refine gs_df (by first | assumption | omega) ?_ | refine gs_t (by assumption) ?_ | refine gs_f (by assumption) ?_ | refine gs_d (fun hg => ?_) (fun hg => ?_) | refine gs_n (fun hg => ?_) (fun hg => ?_) | refine gs_nb (fun hg => ?_) (fun hg => ?_) | refine gs_b (fun hg => ?_) (fun hg => ?_)) <;> conv => whnf) | refine fin1 rfl rfl ?_))
    all_goals try exact ⟨retB (by rw [right_cell hlt (by rw [hx.out]; first | exact cell_bad1 (by assumption) | exact cell_bad2 (by omega) | exact cell_bad3 (by assumption) (by omega))]), hBw⟩
    all_goals
      refine lp_loop tabOk (X := Nat) (fun j => [(1, .pointer (some ⟨g, 0, none⟩)), (3, .int .i64 k), (4, .pointer (some ⟨g2, 0, none⟩)), (5, .int .i64 j)])
        (fun j wr => j ≤ x.args.length ∧ (∀ t, t < j → inR x.args[t]! 0 s.vars = true) ∧ Below w3.heap.size w3 wr) (fun j => x.args.length - j) 0 ⟨rfl, rfl, rfl, rfl, trivial⟩ ⟨by omega, by omega, Below.refl _ _⟩ ?_
      intro j G4 w4 ⟨hj, hokj, hB4⟩
      conv => whnf
      have hb4 := blk_up hB4 hb3
      have hc4 := blk_up hB4 hc3
      by_cases hjl : j < x.args.length
      · obtain ⟨y, ad2, hy, rfl, f0, _⟩ := intsE (e2.out.up (stays_I _) (bup hB3 hB4)) j hjl
        (repeat' (first | (refine wl_Lg tabOk hb4 rfl rfl rfl rfl rfl rfl rfl (run_l tabOk ?_); conv => whnf) | (refine wl_Lg tabOk hc4 rfl rfl rfl rfl rfl rfl rfl (run_l tabOk ?_); conv => whnf) | ((first | refine wl_add rfl rfl rfl rfl rfl rfl (by omega) (by omega) (run_l tabOk ?_) | refine wl_sub rfl rfl rfl rfl rfl rfl (by omega) (by omega) (run_l tabOk ?_) | refine gs_dt (by first | assumption | omega) ?_ | refine gs_df (by first | assumption | omega) ?_ | refine gs_t (by assumption) ?_ | refine gs_f (by assumption) ?_ | refine gs_d (fun hg => ?_) (fun hg => ?_) | refine gs_n (fun hg => ?_) (fun hg => ?_) | refine gs_nb (fun hg => ?_) (fun hg => ?_) | refine gs_b (fun hg => ?_) (fun hg => ?_)) <;> conv => whnf) | refine fin1 rfl rfl ?_))
        try (exfalso; omega)
        all_goals refine wc_qr tabOk mixed (by kernel_rfl) ?_; conv => whnf
        all_goals (repeat' (first | (refine wq_Lg tabOk hb4 rfl rfl rfl rfl rfl rfl rfl (run_q tabOk ?_); conv => whnf) | (refine wq_Lg tabOk hc4 rfl rfl rfl rfl rfl rfl rfl (run_q tabOk ?_); conv => whnf) | (refine wq_L tabOk rfl rfl rfl rfl rfl rfl f0 (run_q tabOk ?_); conv => whnf) | (refine wq_Xn tabOk 3 1 rfl rfl rfl rfl rfl rfl rfl (by omega) (run_q tabOk ?_); conv => whnf) | (refine wq_C fn45 (fun w _ => in_q _ _ _ _) rfl rfl rfl rfl rfl rfl rfl (run_q tabOk ?_); conv => whnf) | ((first | refine wq_add rfl rfl rfl rfl rfl rfl (by omega) (by omega) (run_q tabOk ?_) | refine wq_sub rfl rfl rfl rfl rfl rfl (by omega) (by omega) (run_q tabOk ?_) | refine gs_dt (by first | assumption | omega) ?_ | refine gs_df (by first | assumption | omega) ?_ | refine gs_t (by assumption) ?_ | refine gs_f (by assumption) ?_ | refine gs_d (fun hg => ?_) (fun hg => ?_) | refine gs_n (fun hg => ?_) (fun hg => ?_) | refine gs_nb (fun hg => ?_) (fun hg => ?_) | refine gs_b (fun hg => ?_) (fun hg => ?_)) <;> conv => whnf)))
        all_goals intro w5 hB5
        all_goals conv => whnf
        all_goals (repeat' (first | ((first | refine wl_add rfl rfl rfl rfl rfl rfl (by omega) (by omega) (run_l tabOk ?_) | refine wl_sub rfl rfl rfl rfl rfl rfl (by omega) (by omega) (run_l tabOk ?_) | refine gs_dt (by first | assumption | omega) ?_ | refine gs_df (by first | assumption | omega) ?_ | refine gs_t (by assumption) ?_ | refine gs_f (by assumption) ?_ | refine gs_d (fun hg => ?_) (fun hg => ?_) | refine gs_n (fun hg => ?_) (fun hg => ?_) | refine gs_nb (fun hg => ?_) (fun hg => ?_) | refine gs_b (fun hg => ?_) (fun hg => ?_)) <;> conv => whnf) | refine fin1 rfl rfl ?_))
        all_goals try exact ⟨retB (by rw [right_cell hlt (by rw [hx.out]; exact cell_arg hjl (by rw [hy.out]; assumption))]), bup hBw (bup hB4 hB5)⟩
        all_goals exact ⟨j + 1, ⟨rfl, rfl, rfl, rfl, trivial⟩, ⟨by omega, all_succ hokj (by rw [hy.out]; assumption), bup hB4 hB5⟩, by omega⟩
      · (repeat' (first | (refine wl_Lg tabOk hb4 rfl rfl rfl rfl rfl rfl rfl (run_l tabOk ?_); conv => whnf) | (refine wl_Lg tabOk hc4 rfl rfl rfl rfl rfl rfl rfl (run_l tabOk ?_); conv => whnf) | ((first | refine wl_add rfl rfl rfl rfl rfl rfl (by omega) (by omega) (run_l tabOk ?_) | refine wl_sub rfl rfl rfl rfl rfl rfl (by omega) (by omega) (run_l tabOk ?_) | refine gs_dt (by first | assumption | omega) ?_ | refine gs_df (by first | assumption | omega) ?_ | refine gs_t (by assumption) ?_ | refine gs_f (by assumption) ?_ | refine gs_d (fun hg => ?_) (fun hg => ?_) | refine gs_n (fun hg => ?_) (fun hg => ?_) | refine gs_nb (fun hg => ?_) (fun hg => ?_) | refine gs_b (fun hg => ?_) (fun hg => ?_)) <;> conv => whnf) | refine fin1 rfl rfl ?_))
        exact ⟨k + 1, ⟨rfl, rfl, trivial⟩, ⟨by omega, all_succ hok (by rw [hx.out]; exact cell_ok (by assumption) (by omega) (by first | (left; assumption) | (right; omega)) (all_ge hokj hjl)), bup hBw hB4, blk_up (bup hB3 hB4) hb⟩, by omega⟩
  · have hokA := all_ge hok hlt
    (repeat' (first | (refine wl_Lg tabOk hb rfl rfl rfl rfl rfl rfl rfl (run_l tabOk ?_); conv => whnf) | ((first | refine wl_add rfl rfl rfl rfl rfl rfl (by omega) (by omega) (run_l tabOk ?_) | refine wl_sub rfl rfl rfl rfl rfl rfl (by omega) (by omega) (run_l tabOk ?_) | refine gs_dt (by first | assumption | omega) ?_ | refine gs_df (by first | assumption | omega) ?_ | refine gs_t (by assumption) ?_ | refine gs_f (by assumption) ?_ | refine gs_d (fun hg => ?_) (fun hg => ?_) | refine gs_n (fun hg => ?_) (fun hg => ?_) | refine gs_nb (fun hg => ?_) (fun hg => ?_) | refine gs_b (fun hg => ?_) (fun hg => ?_)) <;> conv => whnf) | refine fin1 rfl rfl ?_))
    refine lp_loop tabOk (X := Nat) (fun k => [(1, .pointer (some ⟨g, 0, none⟩)), (6, .int .i64 k)])
      (fun k wr => k ≤ s.cons.length ∧ (∀ j, j < k → conOk s.vars s.cells.length s.cons[j]! = true) ∧ Below w.heap.size w wr ∧ wr.heap[g]? = some (.cells #[.int .i64 s.vars, .slice A1 s.cells.length c1, .slice A2 s.cons.length c2] 29 (0, 0)))
      (fun k => s.cons.length - k) 0 ⟨rfl, rfl, trivial⟩ ⟨by omega, by omega, hB, hb⟩ ?_
    clear hb hB
    intro k G wr ⟨hk, hokc, hB, hb⟩
    conv => whnf
    by_cases hlt : k < s.cons.length
    · obtain ⟨x, ad, B, c, hx, rfl, e0, e1, e2, e3, e4, _⟩ := consE (h2.up stays_Con hB) k hlt
      (repeat' (first | (refine wl_Lg tabOk hb rfl rfl rfl rfl rfl rfl rfl (run_l tabOk ?_); conv => whnf) | (refine wl_Xn tabOk 46 4 rfl rfl rfl rfl rfl rfl rfl (by omega) (run_l tabOk ?_); conv => whnf) | (refine wl_La tabOk e0 rfl rfl rfl rfl rfl rfl (run_l tabOk ?_); conv => whnf) | ((first | refine wl_add rfl rfl rfl rfl rfl rfl (by omega) (by omega) (run_l tabOk ?_) | refine wl_sub rfl rfl rfl rfl rfl rfl (by omega) (by omega) (run_l tabOk ?_) | refine gs_dt (by first | assumption | omega) ?_ | refine gs_df (by first | assumption | omega) ?_ | refine gs_t (by assumption) ?_ | refine gs_f (by assumption) ?_ | refine gs_d (fun hg => ?_) (fun hg => ?_) | refine gs_n (fun hg => ?_) (fun hg => ?_) | refine gs_nb (fun hg => ?_) (fun hg => ?_) | refine gs_b (fun hg => ?_) (fun hg => ?_)) <;> conv => whnf) | refine fin1 rfl rfl ?_))
      refine wl_alloc tabOk rfl rfl rfl rfl rfl rfl ?_
      intro g2 w2 hn2
      refine wl_Sa tabOk hn2.blk rfl rfl rfl rfl rfl (by simp [Value.oneCell']) rfl rfl ?_
      intro w3 hp
      have hg : g ≠ g2 := by have := blk_lt hb; have := hn2.at_; omega
      have hb3 := hp.old (hn2.old hb) hg
      have hc3 := hp.blk
      have hB3 : Below wr.heap.size wr w3 := hp.below hn2.below (by have := hn2.at_; omega) (by have := hn2.size; omega)
      have hBw := bup hB hB3
      refine run_l tabOk ?_
      conv => whnf
      (repeat' (first | (refine wl_Lg tabOk hb3 rfl rfl rfl rfl rfl rfl rfl (run_l tabOk ?_); conv => whnf) | (refine wl_Lg tabOk hc3 rfl rfl rfl rfl rfl rfl rfl (run_l tabOk ?_); conv => whnf) | ((refine wl_C fn45 (in_any _ _ _ _) rfl rfl rfl rfl rfl rfl rfl ?_); rintro _ _ ⟨rfl, rfl⟩; refine ⟨_, rfl, run_l tabOk ?_⟩; conv => whnf) | ((first | refine wl_add rfl rfl rfl rfl rfl rfl (by omega) (by omega) (run_l tabOk ?_) | refine wl_sub rfl rfl rfl rfl rfl rfl (by omega) (by omega) (run_l tabOk ?_) | refine gs_dt (by first | assumption | omega) ?_ | refine gs_df (by first | assumption | omega) ?_ | refine gs_t (by assumption) ?_ | refine gs_f (by assumption) ?_ | refine gs_d (fun hg => ?_) (fun hg => ?_) | refine gs_n (fun hg => ?_) (fun hg => ?_) | refine gs_nb (fun hg => ?_) (fun hg => ?_) | refine gs_b (fun hg => ?_) (fun hg => ?_)) <;> conv => whnf) | refine fin1 rfl rfl ?_))
      all_goals try exact ⟨retB (by rw [right_con hlt (by rw [hx.out]; exact con_head (by first | exact con_badn (by omega) | exact con_badA5 (by omega) (by assumption) | exact con_badA (by omega) (by assumption) | exact con_badB1 (by omega) (by assumption) | exact con_badB (by omega) (by assumption)))]), hBw⟩
      all_goals
        have hgood : conHead s.vars s.cells.length x = true := by
          first | exact con_good5 (by omega) (by assumption) (by assumption) (by omega) | exact con_good1 (by omega) (by assumption) (by assumption) (by omega) | exact con_goodk (by omega) (by omega) (by omega) (by omega) (by assumption) (by assumption) (by omega)
        refine lp_loop tabOk (X := Nat) (fun j => [(1, .pointer (some ⟨g, 0, none⟩)), (6, .int .i64 k), (7, .pointer (some ⟨g2, 0, none⟩)), (10, .int .i64 j)])
          (fun j wr => j ≤ x.args.length ∧ (∀ t, t < j → inR x.args[t]! (-1) s.vars = true) ∧ Below w3.heap.size w3 wr) (fun j => x.args.length - j) 0 ⟨rfl, rfl, rfl, rfl, trivial⟩ ⟨by omega, by omega, Below.refl _ _⟩ ?_
        intro j G4 w4 ⟨hj, hokj, hB4⟩
        conv => whnf
        have hb4 := blk_up hB4 hb3
        have hc4 := blk_up hB4 hc3
        by_cases hjl : j < x.args.length
        · obtain ⟨y, ad2, hy, rfl, f0, _⟩ := intsE (e2.out.up (stays_I _) (bup hB3 hB4)) j hjl
          (repeat' (first | (refine wl_Lg tabOk hb4 rfl rfl rfl rfl rfl rfl rfl (run_l tabOk ?_); conv => whnf) | (refine wl_Lg tabOk hc4 rfl rfl rfl rfl rfl rfl rfl (run_l tabOk ?_); conv => whnf) | ((first | refine wl_add rfl rfl rfl rfl rfl rfl (by omega) (by omega) (run_l tabOk ?_) | refine wl_sub rfl rfl rfl rfl rfl rfl (by omega) (by omega) (run_l tabOk ?_) | refine gs_dt (by first | assumption | omega) ?_ | refine gs_df (by first | assumption | omega) ?_ | refine gs_t (by assumption) ?_ | refine gs_f (by assumption) ?_ | refine gs_d (fun hg => ?_) (fun hg => ?_) | refine gs_n (fun hg => ?_) (fun hg => ?_) | refine gs_nb (fun hg => ?_) (fun hg => ?_) | refine gs_b (fun hg => ?_) (fun hg => ?_)) <;> conv => whnf) | refine fin1 rfl rfl ?_))
          refine wc_qr tabOk mixed (by kernel_rfl) ?_; conv => whnf
          (repeat' (first | (refine wq_Lg tabOk hb4 rfl rfl rfl rfl rfl rfl rfl (run_q tabOk ?_); conv => whnf) | (refine wq_Lg tabOk hc4 rfl rfl rfl rfl rfl rfl rfl (run_q tabOk ?_); conv => whnf) | (refine wq_L tabOk rfl rfl rfl rfl rfl rfl f0 (run_q tabOk ?_); conv => whnf) | (refine wq_Xn tabOk 3 1 rfl rfl rfl rfl rfl rfl rfl (by omega) (run_q tabOk ?_); conv => whnf) | (refine wq_C fn45 (fun w _ => in_q _ _ _ _) rfl rfl rfl rfl rfl rfl rfl (run_q tabOk ?_); conv => whnf) | ((first | refine wq_add rfl rfl rfl rfl rfl rfl (by omega) (by omega) (run_q tabOk ?_) | refine wq_sub rfl rfl rfl rfl rfl rfl (by omega) (by omega) (run_q tabOk ?_) | refine gs_dt (by first | assumption | omega) ?_ | refine gs_df (by first | assumption | omega) ?_ | refine gs_t (by assumption) ?_ | refine gs_f (by assumption) ?_ | refine gs_d (fun hg => ?_) (fun hg => ?_) | refine gs_n (fun hg => ?_) (fun hg => ?_) | refine gs_nb (fun hg => ?_) (fun hg => ?_) | refine gs_b (fun hg => ?_) (fun hg => ?_)) <;> conv => whnf)))
          intro w5 hB5
          conv => whnf
          (repeat' (first | ((first | refine wl_add rfl rfl rfl rfl rfl rfl (by omega) (by omega) (run_l tabOk ?_) | refine wl_sub rfl rfl rfl rfl rfl rfl (by omega) (by omega) (run_l tabOk ?_) | refine gs_dt (by first | assumption | omega) ?_ | refine gs_df (by first | assumption | omega) ?_ | refine gs_t (by assumption) ?_ | refine gs_f (by assumption) ?_ | refine gs_d (fun hg => ?_) (fun hg => ?_) | refine gs_n (fun hg => ?_) (fun hg => ?_) | refine gs_nb (fun hg => ?_) (fun hg => ?_) | refine gs_b (fun hg => ?_) (fun hg => ?_)) <;> conv => whnf) | refine fin1 rfl rfl ?_))
          all_goals try exact ⟨retB (by rw [right_con hlt (by rw [hx.out]; exact con_arg hjl (by rw [hy.out]; assumption))]), bup hBw (bup hB4 hB5)⟩
          all_goals exact ⟨j + 1, ⟨rfl, rfl, rfl, rfl, trivial⟩, ⟨by omega, all_succ hokj (by rw [hy.out]; assumption), bup hB4 hB5⟩, by omega⟩
        · (repeat' (first | (refine wl_Lg tabOk hb4 rfl rfl rfl rfl rfl rfl rfl (run_l tabOk ?_); conv => whnf) | (refine wl_Lg tabOk hc4 rfl rfl rfl rfl rfl rfl rfl (run_l tabOk ?_); conv => whnf) | ((first | refine wl_add rfl rfl rfl rfl rfl rfl (by omega) (by omega) (run_l tabOk ?_) | refine wl_sub rfl rfl rfl rfl rfl rfl (by omega) (by omega) (run_l tabOk ?_) | refine gs_dt (by first | assumption | omega) ?_ | refine gs_df (by first | assumption | omega) ?_ | refine gs_t (by assumption) ?_ | refine gs_f (by assumption) ?_ | refine gs_d (fun hg => ?_) (fun hg => ?_) | refine gs_n (fun hg => ?_) (fun hg => ?_) | refine gs_nb (fun hg => ?_) (fun hg => ?_) | refine gs_b (fun hg => ?_) (fun hg => ?_)) <;> conv => whnf) | refine fin1 rfl rfl ?_))
          exact ⟨k + 1, ⟨rfl, rfl, trivial⟩, ⟨by omega, all_succ hokc (by rw [hx.out]; exact con_ok hgood (all_ge hokj hjl)), bup hBw hB4, blk_up (bup hB3 hB4) hb⟩, by omega⟩
    · (repeat' (first | (refine wl_Lg tabOk hb rfl rfl rfl rfl rfl rfl rfl (run_l tabOk ?_); conv => whnf) | ((first | refine wl_add rfl rfl rfl rfl rfl rfl (by omega) (by omega) (run_l tabOk ?_) | refine wl_sub rfl rfl rfl rfl rfl rfl (by omega) (by omega) (run_l tabOk ?_) | refine gs_dt (by first | assumption | omega) ?_ | refine gs_df (by first | assumption | omega) ?_ | refine gs_t (by assumption) ?_ | refine gs_f (by assumption) ?_ | refine gs_d (fun hg => ?_) (fun hg => ?_) | refine gs_n (fun hg => ?_) (fun hg => ?_) | refine gs_nb (fun hg => ?_) (fun hg => ?_) | refine gs_b (fun hg => ?_) (fun hg => ?_)) <;> conv => whnf) | refine fin1 rfl rfl ?_))
      exact ⟨retB (by rw [right_all (by omega) (by omega) (by omega) (by omega) hokA (all_ge hokc hlt)]), hB⟩
end Go.Proofs.Ytjggjhgbobmkhaa
