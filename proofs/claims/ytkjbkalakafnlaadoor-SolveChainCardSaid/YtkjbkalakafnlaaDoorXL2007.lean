/- The walk of SolveChain: its body. -/
import Derived.Test.YtkjbkalakafnlaaDoorXL2006
namespace Go.Proofs.YtkjbkalakafnlaaDoor
open Go.RowKit
set_option linter.unusedVariables false
set_option linter.unusedSimpArgs false
set_option maxRecDepth 100000
set_option maxHeartbeats 8000000 in
theorem lawSolveChain (a b : Int) (w : World) (hT : Tab w) (ha : IntKind.u8.min ≤ a ∧ a ≤ IntKind.u8.max) (hb : IntKind.u8.min ≤ b ∧ b ≤ IntKind.u8.max) :
    Calls Tryd.prog 14 #[.int .u8 a, .int .u8 b] w fun e w' => e = .returned (.bool true) ∧ Below w.heap.size w w' := by
  have ha : 0 ≤ a ∧ a ≤ 255 := ha
  have hb : 0 ≤ b ∧ b ≤ 255 := hb
  refine enterR (args := [.int .u8 a, .int .u8 b]) tabOk Tryd.func14 rfl Tryd.ntmps14 rfl ?_; conv => whnf
  refine wl_C fn32 (awake20 _ hT) rfl rfl rfl rfl rfl rfl rfl ?_
  rintro _ w1 ⟨rfl, hB1⟩
  refine ⟨_, rfl, run_l tabOk ?_⟩
  conv => whnf
  (repeat' (first | (refine wl_add rfl rfl rfl rfl rfl rfl (by omega) (by omega) (run_l tabOk ?_); conv => whnf) | (refine wl_sub rfl rfl rfl rfl rfl rfl (by omega) (by omega) (run_l tabOk ?_); conv => whnf) | (refine wl_cvA tabOk rfl rfl rfl (by simp only [inK]; omega) rfl rfl rfl (run_l tabOk ?_); conv => whnf) | (refine wl_cvB tabOk rfl rfl rfl rfl rfl rfl (run_l tabOk ?_); conv => whnf) | (refine wl_rem rfl rfl rfl rfl rfl rfl (by omega) (by omega) (fun r hr hr0 hr1 hr2 => run_l tabOk ?_); conv => whnf) | (refine wl_quo rfl rfl rfl rfl rfl rfl (by omega) (by omega) (by simp only [inK]; omega) (run_l tabOk ?_); conv => whnf) | (refine wl_mul rfl rfl rfl rfl rfl rfl (by omega) (by omega) (run_l tabOk ?_); conv => whnf) | (refine gs_dt (by first | assumption | omega) ?_; conv => whnf) | (refine gs_df (by first | assumption | omega) ?_; conv => whnf) | (refine gs_t (by assumption) ?_; conv => whnf) | (refine gs_f (by assumption) ?_; conv => whnf) | (refine gs_d (fun hg => ?_) (fun hg => ?_) <;> conv => whnf) | (refine gs_n (fun hg => ?_) (fun hg => ?_) <;> conv => whnf) | (refine gs_nb (fun hg => ?_) (fun hg => ?_) <;> conv => whnf) | (refine gs_b (fun hg => ?_) (fun hg => ?_) <;> conv => whnf) | refine fin1 rfl rfl ?_))
  rename_i r' hr' hr0' hr1' hr2'
  obtain ⟨k, hk⟩ : ∃ k : Nat, 2 + r' = (k : Int) := ⟨(2 + r').toNat, by omega⟩
  obtain ⟨o, ho⟩ : ∃ o : Nat, 1 + r = (o : Int) := ⟨(1 + r).toNat, by omega⟩
  rw [hk, ho]
  have hk2 : 2 ≤ k ∧ k ≤ 81 := by omega
  have ho2 : 1 ≤ o ∧ o ≤ 5 := by omega
  clear hr hr0 hr1 hr2 hr' hr0' hr1' hr2'
  refine wl_bs tabOk 71 3 rfl rfl rfl rfl rfl rfl rfl rfl rfl rfl ?_
  intro g2 w2 hn2
  refine run_l tabOk ?_
  conv => whnf
  (repeat' (first | (refine wl_add rfl rfl rfl rfl rfl rfl (by omega) (by omega) (run_l tabOk ?_); conv => whnf) | (refine wl_sub rfl rfl rfl rfl rfl rfl (by omega) (by omega) (run_l tabOk ?_); conv => whnf) | (refine wl_cvA tabOk rfl rfl rfl (by simp only [inK]; omega) rfl rfl rfl (run_l tabOk ?_); conv => whnf) | (refine wl_cvB tabOk rfl rfl rfl rfl rfl rfl (run_l tabOk ?_); conv => whnf) | (refine wl_rem rfl rfl rfl rfl rfl rfl (by omega) (by omega) (fun r hr hr0 hr1 hr2 => run_l tabOk ?_); conv => whnf) | (refine wl_quo rfl rfl rfl rfl rfl rfl (by omega) (by omega) (by simp only [inK]; omega) (run_l tabOk ?_); conv => whnf) | (refine wl_mul rfl rfl rfl rfl rfl rfl (by omega) (by omega) (run_l tabOk ?_); conv => whnf) | (refine gs_dt (by first | assumption | omega) ?_; conv => whnf) | (refine gs_df (by first | assumption | omega) ?_; conv => whnf) | (refine gs_t (by assumption) ?_; conv => whnf) | (refine gs_f (by assumption) ?_; conv => whnf) | (refine gs_d (fun hg => ?_) (fun hg => ?_) <;> conv => whnf) | (refine gs_n (fun hg => ?_) (fun hg => ?_) <;> conv => whnf) | (refine gs_nb (fun hg => ?_) (fun hg => ?_) <;> conv => whnf) | (refine gs_b (fun hg => ?_) (fun hg => ?_) <;> conv => whnf) | refine fin1 rfl rfl ?_))
  refine wl_alloc tabOk rfl rfl rfl rfl rfl rfl ?_
  intro g7 w3 hn3
  (repeat' (first | (refine wl_add rfl rfl rfl rfl rfl rfl (by omega) (by omega) (run_l tabOk ?_); conv => whnf) | (refine wl_sub rfl rfl rfl rfl rfl rfl (by omega) (by omega) (run_l tabOk ?_); conv => whnf) | (refine wl_cvA tabOk rfl rfl rfl (by simp only [inK]; omega) rfl rfl rfl (run_l tabOk ?_); conv => whnf) | (refine wl_cvB tabOk rfl rfl rfl rfl rfl rfl (run_l tabOk ?_); conv => whnf) | (refine wl_rem rfl rfl rfl rfl rfl rfl (by omega) (by omega) (fun r hr hr0 hr1 hr2 => run_l tabOk ?_); conv => whnf) | (refine wl_quo rfl rfl rfl rfl rfl rfl (by omega) (by omega) (by simp only [inK]; omega) (run_l tabOk ?_); conv => whnf) | (refine wl_mul rfl rfl rfl rfl rfl rfl (by omega) (by omega) (run_l tabOk ?_); conv => whnf) | (refine gs_dt (by first | assumption | omega) ?_; conv => whnf) | (refine gs_df (by first | assumption | omega) ?_; conv => whnf) | (refine gs_t (by assumption) ?_; conv => whnf) | (refine gs_f (by assumption) ?_; conv => whnf) | (refine gs_d (fun hg => ?_) (fun hg => ?_) <;> conv => whnf) | (refine gs_n (fun hg => ?_) (fun hg => ?_) <;> conv => whnf) | (refine gs_nb (fun hg => ?_) (fun hg => ?_) <;> conv => whnf) | (refine gs_b (fun hg => ?_) (fun hg => ?_) <;> conv => whnf) | refine fin1 rfl rfl ?_))
  refine wl_Sa tabOk hn3.blk rfl rfl rfl rfl rfl (by simp [Value.oneCell']) rfl rfl ?_
  intro w4 hp4
  refine run_l tabOk ?_
  conv => whnf
  have hg7 : w1.heap.size ≤ g7 := by have := hn3.at_; have := hn2.size; omega
  have hg2 : w1.heap.size ≤ g2 := by have := hn2.at_; omega
  have n27 : g2 ≠ g7 := by have := hn3.at_; have := blk_lt hn2.blk; omega
  have hB3 : Below w1.heap.size w1 w3 := bup hn2.below hn3.below
  have hB4 : Below w1.heap.size w1 w4 := hp4.below hB3 hg7 hB3.size
  have hb2 := hp4.old (blk_up hn3.below hn2.blk) n27
  have hb7 := hp4.blk
  clear hn2 hn3 hp4 hB3
  (repeat' (first | (refine wl_add rfl rfl rfl rfl rfl rfl (by omega) (by omega) (run_l tabOk ?_); conv => whnf) | (refine wl_sub rfl rfl rfl rfl rfl rfl (by omega) (by omega) (run_l tabOk ?_); conv => whnf) | (refine wl_cvA tabOk rfl rfl rfl (by simp only [inK]; omega) rfl rfl rfl (run_l tabOk ?_); conv => whnf) | (refine wl_cvB tabOk rfl rfl rfl rfl rfl rfl (run_l tabOk ?_); conv => whnf) | (refine wl_rem rfl rfl rfl rfl rfl rfl (by omega) (by omega) (fun r hr hr0 hr1 hr2 => run_l tabOk ?_); conv => whnf) | (refine wl_quo rfl rfl rfl rfl rfl rfl (by omega) (by omega) (by simp only [inK]; omega) (run_l tabOk ?_); conv => whnf) | (refine wl_mul rfl rfl rfl rfl rfl rfl (by omega) (by omega) (run_l tabOk ?_); conv => whnf) | (refine gs_dt (by first | assumption | omega) ?_; conv => whnf) | (refine gs_df (by first | assumption | omega) ?_; conv => whnf) | (refine gs_t (by assumption) ?_; conv => whnf) | (refine gs_f (by assumption) ?_; conv => whnf) | (refine gs_d (fun hg => ?_) (fun hg => ?_) <;> conv => whnf) | (refine gs_n (fun hg => ?_) (fun hg => ?_) <;> conv => whnf) | (refine gs_nb (fun hg => ?_) (fun hg => ?_) <;> conv => whnf) | (refine gs_b (fun hg => ?_) (fun hg => ?_) <;> conv => whnf) | refine fin1 rfl rfl ?_))
  refine wl_bs tabOk 66 4 rfl rfl rfl rfl rfl rfl rfl rfl rfl rfl ?_
  intro g3 w5 hn5
  refine run_l tabOk ?_
  conv => whnf
  (repeat' (first | (refine wl_add rfl rfl rfl rfl rfl rfl (by omega) (by omega) (run_l tabOk ?_); conv => whnf) | (refine wl_sub rfl rfl rfl rfl rfl rfl (by omega) (by omega) (run_l tabOk ?_); conv => whnf) | (refine wl_cvA tabOk rfl rfl rfl (by simp only [inK]; omega) rfl rfl rfl (run_l tabOk ?_); conv => whnf) | (refine wl_cvB tabOk rfl rfl rfl rfl rfl rfl (run_l tabOk ?_); conv => whnf) | (refine wl_rem rfl rfl rfl rfl rfl rfl (by omega) (by omega) (fun r hr hr0 hr1 hr2 => run_l tabOk ?_); conv => whnf) | (refine wl_quo rfl rfl rfl rfl rfl rfl (by omega) (by omega) (by simp only [inK]; omega) (run_l tabOk ?_); conv => whnf) | (refine wl_mul rfl rfl rfl rfl rfl rfl (by omega) (by omega) (run_l tabOk ?_); conv => whnf) | (refine gs_dt (by first | assumption | omega) ?_; conv => whnf) | (refine gs_df (by first | assumption | omega) ?_; conv => whnf) | (refine gs_t (by assumption) ?_; conv => whnf) | (refine gs_f (by assumption) ?_; conv => whnf) | (refine gs_d (fun hg => ?_) (fun hg => ?_) <;> conv => whnf) | (refine gs_n (fun hg => ?_) (fun hg => ?_) <;> conv => whnf) | (refine gs_nb (fun hg => ?_) (fun hg => ?_) <;> conv => whnf) | (refine gs_b (fun hg => ?_) (fun hg => ?_) <;> conv => whnf) | refine fin1 rfl rfl ?_))
  refine wl_S (off := 2) (v := .slice (some ⟨g3, 0, none⟩) 2 2) tabOk (blk_up hn5.below hb7) rfl rfl rfl rfl rfl rfl (by simp) rfl rfl ?_
  intro w6 hp6
  refine run_l tabOk ?_
  conv => whnf
  have hB6 : Below w1.heap.size w1 w6 := hp6.below (bup hB4 hn5.below) hg7 (by have := hB4.size; have := hn5.size; omega)
  have n37 : g3 ≠ g7 := by have := hn5.at_; have := blk_lt hb7; omega
  have n23 : g2 ≠ g3 := by have := hn5.at_; have := blk_lt hb2; omega
  have hg3 : w1.heap.size ≤ g3 := by have := hn5.at_; have := hB4.size; omega
  have hN : ((k : Int) + 2 + (o : Int)) = ((k + 2 + o : Nat) : Int) := by omega
  have h2 : Two w1.heap.size g7 ((k : Int) + 2 + (o : Int)) w6 (.slice (some ⟨g2, 0, none⟩) 1 1) (.slice (some ⟨g3, 0, none⟩) 2 2) (cellsC k 0) (consC k 0 0) := by
    refine ⟨⟨_, own_blk (size := 3) (n := 1) (hp6.old (blk_up hn5.below hb2) n27) hg2 (by decide) rfl, fun w' => Elems.one rfl (dCell_nil _ _ _ (by show (-9223372036854775808 : Int) ≤ _; omega) (by show _ ≤ (9223372036854775807 : Int); omega))⟩,
      ⟨_, own_blk (size := 4) (n := 2) (hp6.old (blk_up (Below.refl _ _) hn5.blk) n37) hg3 (by decide) rfl, fun w' => (Elems.one rfl (dCon_nil _ 1 k 0 (by decide) (by omega) (by decide))).push rfl (dCon_nil _ 4 k ((k : Int) - 1) (by decide) (by omega) (by omega))⟩, hp6.blk, fun e => n27 ?_, fun e => n37 ?_, fun j e1 e2 => n23 ?_⟩
    · have e : some g2 = some g7 := e
      injection e
    · have e : some g3 = some g7 := e
      injection e
    · have e1 : some g2 = some j := e1
      have e2 : some g3 = some j := e2
      injection e1 with e1
      injection e2 with e2
      omega
  clear hp6 hn5 hb2 hb7 hB4 n37 n23 n27 hg3 hg2
  (repeat' (first | (refine wl_add rfl rfl rfl rfl rfl rfl (by omega) (by omega) (run_l tabOk ?_); conv => whnf) | (refine wl_sub rfl rfl rfl rfl rfl rfl (by omega) (by omega) (run_l tabOk ?_); conv => whnf) | (refine wl_cvA tabOk rfl rfl rfl (by simp only [inK]; omega) rfl rfl rfl (run_l tabOk ?_); conv => whnf) | (refine wl_cvB tabOk rfl rfl rfl rfl rfl rfl (run_l tabOk ?_); conv => whnf) | (refine wl_rem rfl rfl rfl rfl rfl rfl (by omega) (by omega) (fun r hr hr0 hr1 hr2 => run_l tabOk ?_); conv => whnf) | (refine wl_quo rfl rfl rfl rfl rfl rfl (by omega) (by omega) (by simp only [inK]; omega) (run_l tabOk ?_); conv => whnf) | (refine wl_mul rfl rfl rfl rfl rfl rfl (by omega) (by omega) (run_l tabOk ?_); conv => whnf) | (refine gs_dt (by first | assumption | omega) ?_; conv => whnf) | (refine gs_df (by first | assumption | omega) ?_; conv => whnf) | (refine gs_t (by assumption) ?_; conv => whnf) | (refine gs_f (by assumption) ?_; conv => whnf) | (refine gs_d (fun hg => ?_) (fun hg => ?_) <;> conv => whnf) | (refine gs_n (fun hg => ?_) (fun hg => ?_) <;> conv => whnf) | (refine gs_nb (fun hg => ?_) (fun hg => ?_) <;> conv => whnf) | (refine gs_b (fun hg => ?_) (fun hg => ?_) <;> conv => whnf) | refine fin1 rfl rfl ?_))
  refine lp_loop tabOk (X := Int × Nat × Value) (fun x => [(5, .int .i64 k), (6, .int .i64 o), (7, .pointer (some ⟨g7, 0, none⟩)), (8, .int .i64 x.1)])
    (fun x wr => (0 ≤ x.1 ∧ x.1 = (k : Int) - 1 - x.2.1) ∧ Two w1.heap.size g7 ((k : Int) + 2 + (o : Int)) wr (.slice (some ⟨g2, 0, none⟩) 1 1) x.2.2 (cellsC k 0) (consC k x.2.1 0) ∧ Below w1.heap.size w1 wr)
    (fun x => x.1.toNat) ((k : Int) - 1, 0, .slice (some ⟨g3, 0, none⟩) 2 2) ⟨rfl, rfl, rfl, rfl, trivial⟩ ⟨⟨by simp only; omega, by simp only; omega⟩, h2, hB6⟩ ?_
  clear h2 hB6
  rintro ⟨v, m, vy⟩ G wr ⟨⟨hv0, hv⟩, h2, hB⟩
  simp only at hv0 hv h2 hB
  conv => whnf
  by_cases hvp : 0 < v
  · have hvq : 0 < ((v, m, vy) : Int × Nat × Value).fst := hvp
    have hvz : ((v, m, vy) : Int × Nat × Value).fst ≤ 81 := by simp only; omega
    (repeat' (first | (refine wl_Lg tabOk h2.blk rfl rfl rfl rfl rfl rfl rfl (run_l tabOk ?_); conv => whnf) | (refine wl_add rfl rfl rfl rfl rfl rfl (by omega) (by omega) (run_l tabOk ?_); conv => whnf) | (refine wl_sub rfl rfl rfl rfl rfl rfl (by omega) (by omega) (run_l tabOk ?_); conv => whnf) | (refine wl_cvA tabOk rfl rfl rfl (by simp only [inK]; omega) rfl rfl rfl (run_l tabOk ?_); conv => whnf) | (refine wl_cvB tabOk rfl rfl rfl rfl rfl rfl (run_l tabOk ?_); conv => whnf) | (refine wl_rem rfl rfl rfl rfl rfl rfl (by omega) (by omega) (fun r hr hr0 hr1 hr2 => run_l tabOk ?_); conv => whnf) | (refine wl_quo rfl rfl rfl rfl rfl rfl (by omega) (by omega) (by simp only [inK]; omega) (run_l tabOk ?_); conv => whnf) | (refine wl_mul rfl rfl rfl rfl rfl rfl (by omega) (by omega) (run_l tabOk ?_); conv => whnf) | (refine gs_dt (by first | assumption | omega) ?_; conv => whnf) | (refine gs_df (by first | assumption | omega) ?_; conv => whnf) | (refine gs_t (by assumption) ?_; conv => whnf) | (refine gs_f (by assumption) ?_; conv => whnf) | (refine gs_d (fun hg => ?_) (fun hg => ?_) <;> conv => whnf) | (refine gs_n (fun hg => ?_) (fun hg => ?_) <;> conv => whnf) | (refine gs_nb (fun hg => ?_) (fun hg => ?_) <;> conv => whnf) | (refine gs_b (fun hg => ?_) (fun hg => ?_) <;> conv => whnf) | refine fin1 rfl rfl ?_))
    refine wl_bs tabOk 66 4 rfl rfl rfl rfl rfl rfl rfl rfl rfl rfl ?_
    intro g8 ua hn8
    refine run_l tabOk ?_
    conv => whnf
    have h2a := h2.up hn8.below
    have hBa := bup hB hn8.below
    obtain ⟨fy, hown, hel⟩ := h2a.y
    have hyl := consC_len k m 0
    refine wl_ap tabOk 66 4 48 hown hn8.blk rfl rfl rfl rfl rfl rfl rfl rfl rfl rfl rfl rfl (by simp [Value.oneCell']) (by omega) (by omega) hBa.size ?_
    intro E ec ub hown2 hg8 hob
    have hb7 := (hg8.block g7 (blk_lt h2a.blk) (fun e => h2a.yg e.symm)).trans h2a.blk
    refine run_l tabOk ?_
    conv => whnf
    refine wl_S (off := 2) (v := .slice E ((consC k m 0).length + 1) ec) tabOk hb7 rfl rfl rfl rfl rfl rfl (by simp) rfl rfl ?_
    intro uc hpc
    refine run_l tabOk ?_
    conv => whnf
    have hBc : Below w1.heap.size w1 uc := h2a.below (E := none) (l := 0) (c := 0) (i := 0) hBa (Nat.le_refl _) hg7 hown hg8 hpc
    have h2c := h2a.pushY (y := ⟨2, v, v - 1, []⟩) hown hel hown2 hg8 hob hpc rfl (fun w' => dCon_nil _ 2 v (v - 1) (by decide) (by omega) (by omega))
    have e1 : consC k m 0 ++ [⟨2, v, v - 1, []⟩] = consC k (m + 1) 0 := by rw [consC_copy, hv]
    rw [e1] at h2c
    (repeat' (first | (refine wl_add rfl rfl rfl rfl rfl rfl (by omega) (by omega) (run_l tabOk ?_); conv => whnf) | (refine wl_sub rfl rfl rfl rfl rfl rfl (by omega) (by omega) (run_l tabOk ?_); conv => whnf) | (refine wl_cvA tabOk rfl rfl rfl (by simp only [inK]; omega) rfl rfl rfl (run_l tabOk ?_); conv => whnf) | (refine wl_cvB tabOk rfl rfl rfl rfl rfl rfl (run_l tabOk ?_); conv => whnf) | (refine wl_rem rfl rfl rfl rfl rfl rfl (by omega) (by omega) (fun r hr hr0 hr1 hr2 => run_l tabOk ?_); conv => whnf) | (refine wl_quo rfl rfl rfl rfl rfl rfl (by omega) (by omega) (by simp only [inK]; omega) (run_l tabOk ?_); conv => whnf) | (refine wl_mul rfl rfl rfl rfl rfl rfl (by omega) (by omega) (run_l tabOk ?_); conv => whnf) | (refine gs_dt (by first | assumption | omega) ?_; conv => whnf) | (refine gs_df (by first | assumption | omega) ?_; conv => whnf) | (refine gs_t (by assumption) ?_; conv => whnf) | (refine gs_f (by assumption) ?_; conv => whnf) | (refine gs_d (fun hg => ?_) (fun hg => ?_) <;> conv => whnf) | (refine gs_n (fun hg => ?_) (fun hg => ?_) <;> conv => whnf) | (refine gs_nb (fun hg => ?_) (fun hg => ?_) <;> conv => whnf) | (refine gs_b (fun hg => ?_) (fun hg => ?_) <;> conv => whnf) | refine fin1 rfl rfl ?_))
    exact ⟨(v - 1, m + 1, _), ⟨rfl, rfl, rfl, rfl, trivial⟩, ⟨⟨by simp only; omega, by simp only; omega⟩, h2c, hBc⟩, by simp only; omega⟩
  · have hvq : ¬ 0 < ((v, m, vy) : Int × Nat × Value).fst := hvp
    have hm : m = k - 1 := by omega
    subst hm
    (repeat' (first | (refine wl_add rfl rfl rfl rfl rfl rfl (by omega) (by omega) (run_l tabOk ?_); conv => whnf) | (refine wl_sub rfl rfl rfl rfl rfl rfl (by omega) (by omega) (run_l tabOk ?_); conv => whnf) | (refine wl_cvA tabOk rfl rfl rfl (by simp only [inK]; omega) rfl rfl rfl (run_l tabOk ?_); conv => whnf) | (refine wl_cvB tabOk rfl rfl rfl rfl rfl rfl (run_l tabOk ?_); conv => whnf) | (refine wl_rem rfl rfl rfl rfl rfl rfl (by omega) (by omega) (fun r hr hr0 hr1 hr2 => run_l tabOk ?_); conv => whnf) | (refine wl_quo rfl rfl rfl rfl rfl rfl (by omega) (by omega) (by simp only [inK]; omega) (run_l tabOk ?_); conv => whnf) | (refine wl_mul rfl rfl rfl rfl rfl rfl (by omega) (by omega) (run_l tabOk ?_); conv => whnf) | (refine gs_dt (by first | assumption | omega) ?_; conv => whnf) | (refine gs_df (by first | assumption | omega) ?_; conv => whnf) | (refine gs_t (by assumption) ?_; conv => whnf) | (refine gs_f (by assumption) ?_; conv => whnf) | (refine gs_d (fun hg => ?_) (fun hg => ?_) <;> conv => whnf) | (refine gs_n (fun hg => ?_) (fun hg => ?_) <;> conv => whnf) | (refine gs_nb (fun hg => ?_) (fun hg => ?_) <;> conv => whnf) | (refine gs_b (fun hg => ?_) (fun hg => ?_) <;> conv => whnf) | refine fin1 rfl rfl ?_))
    refine lp_loop tabOk (X := Nat × Value × Value) (fun x => [(5, .int .i64 k), (6, .int .i64 o), (7, .pointer (some ⟨g7, 0, none⟩)), (9, .int .i64 x.1)])
      (fun x wr => x.1 ≤ o ∧ Two w1.heap.size g7 ((k : Int) + 2 + (o : Int)) wr x.2.1 x.2.2 (cellsC k x.1) (consC k (k - 1) x.1) ∧ Below w1.heap.size w1 wr)
      (fun x => o - x.1) (0, .slice (some ⟨g2, 0, none⟩) 1 1, vy) ⟨rfl, rfl, rfl, rfl, trivial⟩ ⟨by simp, h2, hB⟩ ?_
    clear h2 hB
    rintro ⟨i, vx, vz⟩ G wr ⟨hi, h2, hB⟩
    simp only at hi h2 hB
    conv => whnf
    by_cases hio : i < o
    · have hiq : ((i, vx, vz) : Nat × Value × Value).fst < o := hio
      have hii : ((i : Nat) : Int) < (o : Nat) := by omega
      (repeat' (first | (refine wl_Lg tabOk h2.blk rfl rfl rfl rfl rfl rfl rfl (run_l tabOk ?_); conv => whnf) | (refine wl_add rfl rfl rfl rfl rfl rfl (by omega) (by omega) (run_l tabOk ?_); conv => whnf) | (refine wl_sub rfl rfl rfl rfl rfl rfl (by omega) (by omega) (run_l tabOk ?_); conv => whnf) | (refine wl_cvA tabOk rfl rfl rfl (by simp only [inK]; omega) rfl rfl rfl (run_l tabOk ?_); conv => whnf) | (refine wl_cvB tabOk rfl rfl rfl rfl rfl rfl (run_l tabOk ?_); conv => whnf) | (refine wl_rem rfl rfl rfl rfl rfl rfl (by omega) (by omega) (fun r hr hr0 hr1 hr2 => run_l tabOk ?_); conv => whnf) | (refine wl_quo rfl rfl rfl rfl rfl rfl (by omega) (by omega) (by simp only [inK]; omega) (run_l tabOk ?_); conv => whnf) | (refine wl_mul rfl rfl rfl rfl rfl rfl (by omega) (by omega) (run_l tabOk ?_); conv => whnf) | (refine gs_dt (by first | assumption | omega) ?_; conv => whnf) | (refine gs_df (by first | assumption | omega) ?_; conv => whnf) | (refine gs_t (by assumption) ?_; conv => whnf) | (refine gs_f (by assumption) ?_; conv => whnf) | (refine gs_d (fun hg => ?_) (fun hg => ?_) <;> conv => whnf) | (refine gs_n (fun hg => ?_) (fun hg => ?_) <;> conv => whnf) | (refine gs_nb (fun hg => ?_) (fun hg => ?_) <;> conv => whnf) | (refine gs_b (fun hg => ?_) (fun hg => ?_) <;> conv => whnf) | refine fin1 rfl rfl ?_))
      refine wl_bs tabOk 71 3 rfl rfl rfl rfl rfl rfl rfl rfl rfl rfl ?_
      intro g8 ua hn8
      refine run_l tabOk ?_
      conv => whnf
      have h2a := h2.up hn8.below
      have hBa := bup hB hn8.below
      obtain ⟨fx, hown, hel⟩ := h2a.x
      have hxl := cellsC_len k i
      refine wl_ap tabOk 71 3 40 hown hn8.blk rfl rfl rfl rfl rfl rfl rfl rfl rfl rfl rfl rfl (by simp [Value.oneCell']) (by omega) (by omega) hBa.size ?_
      intro E ec ub hown2 hg8 hob
      have hb7 := (hg8.block g7 (blk_lt h2a.blk) (fun e => h2a.xg e.symm)).trans h2a.blk
      refine run_l tabOk ?_
      conv => whnf
      refine wl_S (off := 1) (v := .slice E ((cellsC k i).length + 1) ec) tabOk hb7 rfl rfl rfl rfl rfl rfl (by simp) rfl rfl ?_
      intro uc hpc
      refine run_l tabOk ?_
      conv => whnf
      have hBc : Below w1.heap.size w1 uc := h2a.below (E := none) (l := 0) (c := 0) (i := 0) hBa (Nat.le_refl _) hg7 hown hg8 hpc
      have h2c := h2a.pushX (x := ⟨false, (k : Int) + 2 + (i : Nat), []⟩) hown hel hown2 hg8 hob hpc rfl (fun w' => dCell_nil _ _ _ (by show (-9223372036854775808 : Int) ≤ _; omega) (by show _ ≤ (9223372036854775807 : Int); omega))
      rw [← cellsC_next] at h2c
      clear hpc hob hg8 hown2 hel hown h2a hBa hn8 h2
      (repeat' (first | (refine wl_Lg tabOk h2c.blk rfl rfl rfl rfl rfl rfl rfl (run_l tabOk ?_); conv => whnf) | (refine wl_add rfl rfl rfl rfl rfl rfl (by omega) (by omega) (run_l tabOk ?_); conv => whnf) | (refine wl_sub rfl rfl rfl rfl rfl rfl (by omega) (by omega) (run_l tabOk ?_); conv => whnf) | (refine wl_cvA tabOk rfl rfl rfl (by simp only [inK]; omega) rfl rfl rfl (run_l tabOk ?_); conv => whnf) | (refine wl_cvB tabOk rfl rfl rfl rfl rfl rfl (run_l tabOk ?_); conv => whnf) | (refine wl_rem rfl rfl rfl rfl rfl rfl (by omega) (by omega) (fun r hr hr0 hr1 hr2 => run_l tabOk ?_); conv => whnf) | (refine wl_quo rfl rfl rfl rfl rfl rfl (by omega) (by omega) (by simp only [inK]; omega) (run_l tabOk ?_); conv => whnf) | (refine wl_mul rfl rfl rfl rfl rfl rfl (by omega) (by omega) (run_l tabOk ?_); conv => whnf) | (refine gs_dt (by first | assumption | omega) ?_; conv => whnf) | (refine gs_df (by first | assumption | omega) ?_; conv => whnf) | (refine gs_t (by assumption) ?_; conv => whnf) | (refine gs_f (by assumption) ?_; conv => whnf) | (refine gs_d (fun hg => ?_) (fun hg => ?_) <;> conv => whnf) | (refine gs_n (fun hg => ?_) (fun hg => ?_) <;> conv => whnf) | (refine gs_nb (fun hg => ?_) (fun hg => ?_) <;> conv => whnf) | (refine gs_b (fun hg => ?_) (fun hg => ?_) <;> conv => whnf) | refine fin1 rfl rfl ?_))
      refine wl_bs tabOk 66 4 rfl rfl rfl rfl rfl rfl rfl rfl rfl rfl ?_
      intro g8 ua hn8
      refine run_l tabOk ?_
      conv => whnf
      have h2a := h2c.up hn8.below
      have hBa := bup hBc hn8.below
      obtain ⟨fy, hown, hel⟩ := h2a.y
      have hyl := consC_len k (k - 1) i
      refine wl_ap tabOk 66 4 48 hown hn8.blk rfl rfl rfl rfl rfl rfl rfl rfl rfl rfl rfl rfl (by simp [Value.oneCell']) (by omega) (by omega) hBa.size ?_
      intro E2 ec2 ub hown2 hg8 hob
      have hb7 := (hg8.block g7 (blk_lt h2a.blk) (fun e => h2a.yg e.symm)).trans h2a.blk
      refine run_l tabOk ?_
      conv => whnf
      refine wl_S (off := 2) (v := .slice E2 ((consC k (k - 1) i).length + 1) ec2) tabOk hb7 rfl rfl rfl rfl rfl rfl (by simp) rfl rfl ?_
      intro ud hpd
      refine run_l tabOk ?_
      conv => whnf
      have hBd : Below w1.heap.size w1 ud := h2a.below (E := none) (l := 0) (c := 0) (i := 0) hBa (Nat.le_refl _) hg7 hown hg8 hpd
      have h2d := h2a.pushY (y := ⟨1, 0, 1 + ((i : Nat) : Int), []⟩) hown hel hown2 hg8 hob hpd rfl (fun w' => dCon_nil _ 1 0 (1 + (i : Int)) (by decide) (by decide) (by omega))
      rw [← consC_next] at h2d
      (repeat' (first | (refine wl_add rfl rfl rfl rfl rfl rfl (by omega) (by omega) (run_l tabOk ?_); conv => whnf) | (refine wl_sub rfl rfl rfl rfl rfl rfl (by omega) (by omega) (run_l tabOk ?_); conv => whnf) | (refine wl_cvA tabOk rfl rfl rfl (by simp only [inK]; omega) rfl rfl rfl (run_l tabOk ?_); conv => whnf) | (refine wl_cvB tabOk rfl rfl rfl rfl rfl rfl (run_l tabOk ?_); conv => whnf) | (refine wl_rem rfl rfl rfl rfl rfl rfl (by omega) (by omega) (fun r hr hr0 hr1 hr2 => run_l tabOk ?_); conv => whnf) | (refine wl_quo rfl rfl rfl rfl rfl rfl (by omega) (by omega) (by simp only [inK]; omega) (run_l tabOk ?_); conv => whnf) | (refine wl_mul rfl rfl rfl rfl rfl rfl (by omega) (by omega) (run_l tabOk ?_); conv => whnf) | (refine gs_dt (by first | assumption | omega) ?_; conv => whnf) | (refine gs_df (by first | assumption | omega) ?_; conv => whnf) | (refine gs_t (by assumption) ?_; conv => whnf) | (refine gs_f (by assumption) ?_; conv => whnf) | (refine gs_d (fun hg => ?_) (fun hg => ?_) <;> conv => whnf) | (refine gs_n (fun hg => ?_) (fun hg => ?_) <;> conv => whnf) | (refine gs_nb (fun hg => ?_) (fun hg => ?_) <;> conv => whnf) | (refine gs_b (fun hg => ?_) (fun hg => ?_) <;> conv => whnf) | refine fin1 rfl rfl ?_))
      exact ⟨(i + 1, _, _), ⟨rfl, rfl, rfl, rfl, trivial⟩, ⟨by simp only; omega, h2d, hBd⟩, by simp only; omega⟩
    · have hiq : ¬ ((i : Nat) : Int) < (o : Nat) := by omega
      have hio : i = o := by omega
      subst hio
      have hb7 := h2.blk
      obtain ⟨fx, ox, ex⟩ := h2.x
      obtain ⟨fy, oy, ey⟩ := h2.y
      obtain ⟨A1, c1, rfl, _, hq1⟩ := row_of_own ox rfl (ex wr)
      obtain ⟨A2, c2, rfl, _, hq2⟩ := row_of_own oy rfl (ey wr)
      rw [hN] at hb7
      clear h2 ox oy ex ey
      (repeat' (first | (refine wl_Lg tabOk hb7 rfl rfl rfl rfl rfl rfl rfl (run_l tabOk ?_); conv => whnf) | (refine wl_Lag tabOk hb7 rfl rfl rfl rfl rfl rfl (run_l tabOk ?_); conv => whnf) | (refine wl_add rfl rfl rfl rfl rfl rfl (by omega) (by omega) (run_l tabOk ?_); conv => whnf) | (refine wl_sub rfl rfl rfl rfl rfl rfl (by omega) (by omega) (run_l tabOk ?_); conv => whnf) | (refine wl_cvA tabOk rfl rfl rfl (by simp only [inK]; omega) rfl rfl rfl (run_l tabOk ?_); conv => whnf) | (refine wl_cvB tabOk rfl rfl rfl rfl rfl rfl (run_l tabOk ?_); conv => whnf) | (refine wl_rem rfl rfl rfl rfl rfl rfl (by omega) (by omega) (fun r hr hr0 hr1 hr2 => run_l tabOk ?_); conv => whnf) | (refine wl_quo rfl rfl rfl rfl rfl rfl (by omega) (by omega) (by simp only [inK]; omega) (run_l tabOk ?_); conv => whnf) | (refine wl_mul rfl rfl rfl rfl rfl rfl (by omega) (by omega) (run_l tabOk ?_); conv => whnf) | (refine gs_dt (by first | assumption | omega) ?_; conv => whnf) | (refine gs_df (by first | assumption | omega) ?_; conv => whnf) | (refine gs_t (by assumption) ?_; conv => whnf) | (refine gs_f (by assumption) ?_; conv => whnf) | (refine gs_d (fun hg => ?_) (fun hg => ?_) <;> conv => whnf) | (refine gs_n (fun hg => ?_) (fun hg => ?_) <;> conv => whnf) | (refine gs_nb (fun hg => ?_) (fun hg => ?_) <;> conv => whnf) | (refine gs_b (fun hg => ?_) (fun hg => ?_) <;> conv => whnf) | refine fin1 rfl rfl ?_))
      refine wl_C fn34 (solveLeast (k + 2 + i) (cellsC k i) (consC k (k - 1) i) A1 A2 c1 c2 wr hq1 hq2 (chRight hk2.1 (by omega) ho2.1 ho2.2) (hT.up (bup hB1 hB))) rfl rfl rfl rfl rfl rfl rfl ?_
      rintro _ ws ⟨M, Ap, cap, q, rfl, hIL, hrr, _, _, hBs⟩
      have hM := hIL.unique (chLeast hk2.1 ho2.1)
      subst hM
      have hb7 := blk_up hBs hb7
      have hsh := chM_sh k i
      have hpl := pts_len hsh
      obtain ⟨x1, ad, D1, d1, hx1, rfl, f1, _, _⟩ := rowsE hrr ((k : Int) - 1).toNat (by omega)
      obtain ⟨x2, ad2, D2, d2, hx2, hA2, f2, _, hxr2⟩ := rowsE hrr ((k : Int) + 1).toNat (by omega)
      cases hA2
      obtain ⟨x3, ad3, D3, d3, hx3, hA3, f3, _, _⟩ := rowsE hrr k (by omega)
      cases hA3
      have l1 : x1.length = i := by rw [← hx1.out, pts_at hsh (by omega)]; exact (chRowA (.inl (by omega)) (by omega) ho2.1 ho2.2).1
      have l2 : x2.length = i := by rw [← hx2.out, pts_at hsh (by omega)]; exact (chRowA (.inr (by omega)) (by omega) ho2.1 ho2.2).1
      have z2 : x2[0]! = 1 := by rw [← hx2.out, pts_at hsh (by omega)]; exact (chRowA (.inr (by omega)) (by omega) ho2.1 ho2.2).2
      have l3 : x3.length = 1 := by rw [← hx3.out, pts_at hsh (by omega)]; exact chRowB ho2.1 ho2.2
      obtain ⟨z, adz, hz, rfl, f4, _⟩ := intsE hxr2.out 0 (by omega)
      have hz1 : z = 1 := by rw [← hz.out]; exact z2
      refine ⟨_, rfl, run_l tabOk ?_⟩
      conv => whnf
      (repeat' (first | (refine wl_Lg tabOk hb7 rfl rfl rfl rfl rfl rfl rfl (run_l tabOk ?_); conv => whnf) | (refine wl_L tabOk rfl rfl rfl rfl rfl rfl f1 (run_l tabOk ?_); conv => whnf) | (refine wl_L tabOk rfl rfl rfl rfl rfl rfl f2 (run_l tabOk ?_); conv => whnf) | (refine wl_L tabOk rfl rfl rfl rfl rfl rfl f3 (run_l tabOk ?_); conv => whnf) | (refine wl_L tabOk rfl rfl rfl rfl rfl rfl f4 (run_l tabOk ?_); conv => whnf) | (refine wl_X tabOk 46 1 rfl rfl rfl rfl rfl rfl rfl (by omega) (by omega) (run_l tabOk ?_); conv => whnf) | (refine wl_X tabOk 3 1 rfl rfl rfl rfl rfl rfl rfl (by omega) (by omega) (run_l tabOk ?_); conv => whnf) | (refine wl_add rfl rfl rfl rfl rfl rfl (by omega) (by omega) (run_l tabOk ?_); conv => whnf) | (refine wl_sub rfl rfl rfl rfl rfl rfl (by omega) (by omega) (run_l tabOk ?_); conv => whnf) | (refine wl_cvA tabOk rfl rfl rfl (by simp only [inK]; omega) rfl rfl rfl (run_l tabOk ?_); conv => whnf) | (refine wl_cvB tabOk rfl rfl rfl rfl rfl rfl (run_l tabOk ?_); conv => whnf) | (refine wl_rem rfl rfl rfl rfl rfl rfl (by omega) (by omega) (fun r hr hr0 hr1 hr2 => run_l tabOk ?_); conv => whnf) | (refine wl_quo rfl rfl rfl rfl rfl rfl (by omega) (by omega) (by simp only [inK]; omega) (run_l tabOk ?_); conv => whnf) | (refine wl_mul rfl rfl rfl rfl rfl rfl (by omega) (by omega) (run_l tabOk ?_); conv => whnf) | (refine gs_dt (by first | assumption | omega) ?_; conv => whnf) | (refine gs_df (by first | assumption | omega) ?_; conv => whnf) | (refine gs_t (by assumption) ?_; conv => whnf) | (refine gs_f (by assumption) ?_; conv => whnf) | (refine gs_d (fun hg => ?_) (fun hg => ?_) <;> conv => whnf) | (refine gs_n (fun hg => ?_) (fun hg => ?_) <;> conv => whnf) | (refine gs_nb (fun hg => ?_) (fun hg => ?_) <;> conv => whnf) | (refine gs_b (fun hg => ?_) (fun hg => ?_) <;> conv => whnf) | refine fin1 rfl rfl ?_))
      all_goals first | exact ⟨rfl, bup (bup hB1 hB) hBs⟩ | exact ⟨retBt (by simp only [decide_eq_true_eq]; omega), bup (bup hB1 hB) hBs⟩
end Go.Proofs.YtkjbkalakafnlaaDoor
