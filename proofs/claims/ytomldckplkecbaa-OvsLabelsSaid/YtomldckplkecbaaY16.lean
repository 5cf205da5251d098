/- Several texts of one claim in one file: L1206 L1205 U8 L1208 L1501 OL17. -/
import Derived.Test.YtomldckplkecbaaY13
import Derived.Test.YtomldckplkecbaaY14
import Derived.Test.YtomldckplkecbaaY15
import Derived.Test.YtomldckplkecbaaY5
import Derived.Test.YtomldckplkecbaaY12
/- The walk of SystemCounts. -/
namespace Go.Proofs.Ytomldckplkecbaa
open Go.RowKit
set_option linter.unusedVariables false
set_option linter.unusedSimpArgs false
set_option maxRecDepth 100000
def cS (s : Sys) : Nat → Nat
  | 0 => 0
  | i + 1 => cS s i + s.cons.countP (fun c => decide (c.k = ((i + 1 : Nat) : Int)))
theorem count_sum : ∀ (l : List Con), (∀ c ∈ l, 1 ≤ c.k ∧ c.k ≤ 5) →
    l.countP (fun c => decide (c.k = 1)) + l.countP (fun c => decide (c.k = 2)) + l.countP (fun c => decide (c.k = 3)) + l.countP (fun c => decide (c.k = 4)) + l.countP (fun c => decide (c.k = 5)) = l.length
  | [], _ => rfl
  | c :: l, h => by
    have ih := count_sum l fun x hx => h x (by simp [hx])
    have hc := h c (by simp)
    simp only [List.countP_cons, List.length_cons]
    have h5 : c.k = 1 ∨ c.k = 2 ∨ c.k = 3 ∨ c.k = 4 ∨ c.k = 5 := by omega
    rcases h5 with e | e | e | e | e <;> simp [e] <;> omega
theorem count_none (l : List Con) (k : Int) (h : ∀ c ∈ l, 1 ≤ c.k ∧ c.k ≤ 5) (hk : k < 1 ∨ 5 < k) : l.countP (fun c => decide (c.k = k)) = 0 := by
  rw [List.countP_eq_zero]
  intro c hc
  have := h c hc
  simp
  omega
theorem cS_le (s : Sys) : ∀ i, cS s i ≤ i * s.cons.length
  | 0 => by simp [cS]
  | i + 1 => by
    have := cS_le s i
    have h := List.countP_le_length (p := fun c : Con => decide (c.k = ((i + 1 : Nat) : Int))) (l := s.cons)
    simp only [cS]
    rw [Nat.succ_mul]
    omega
theorem made_kinds {base : Nat} {w : World} {s : Sys} {va vb : Value} {bs cs : List Nat} (h : Made base w s va vb bs cs) : ∀ c ∈ s.cons, 1 ≤ c.k ∧ c.k ≤ 5 := by
  intro c hc
  obtain ⟨j, hj, e⟩ := List.getElem_of_mem hc
  have := h.gcons j hj
  rw [getElem!_pos s.cons j hj, e] at this
  simp only [conOk, Bool.and_eq_true, decide_eq_true_eq] at this
  exact ⟨this.1.1.1.1.1.1, this.1.1.1.1.1.2⟩
end Go.Proofs.Ytomldckplkecbaa

/- The walk of SystemLoose. -/
namespace Go.Proofs.Ytomldckplkecbaa
open Go.RowKit
set_option linter.unusedVariables false
set_option linter.unusedSimpArgs false
set_option maxRecDepth 100000
theorem looseAt_cell {s : Sys} {v : Int} {k : Nat} (hk : k < s.cells.length) (h : cellLoose v s.cells[k]! = true) : looseAt s v = true := by simp [looseAt, any_true hk h]
theorem looseAt_con {s : Sys} {v : Int} {k : Nat} (hk : k < s.cons.length) (h : conLoose v s.cons[k]! = true) : looseAt s v = true := by simp [looseAt, any_true hk h]
theorem looseAt_none {s : Sys} {v : Int} (h1 : ∀ k, k < s.cells.length → cellLoose v s.cells[k]! = false) (h2 : ∀ k, k < s.cons.length → conLoose v s.cons[k]! = false) : looseAt s v = false := by simp [looseAt, any_false h1, any_false h2]
theorem cellLoose_v {c : Cell} {v : Int} (h : c.v = v) : cellLoose v c = true := by simp [cellLoose, h]
theorem cellLoose_a {c : Cell} {v : Int} {k : Nat} (hk : k < c.args.length) (h : c.args[k]! = v) : cellLoose v c = true := by simp [cellLoose, any_true (p := fun n => decide (n = v)) hk (by simp [h])]
theorem cellLoose_no {c : Cell} {v : Int} (h : ¬ c.v = v) (h1 : ∀ k, k < c.args.length → ¬ c.args[k]! = v) : cellLoose v c = false := by
  have := any_false (p := fun n => decide (n = v)) (xs := c.args) fun k hk => by simpa using h1 k hk
  unfold cellLoose
  rw [this]
  simp [h]
theorem refLoose (s : Sys) (A1 A2 : Option Addr) (c1 c2 : Nat) (v : Int) (w : World) (h1 : RCells w A1 s.cells) (h2 : RCons w A2 s.cons) :
    Calls Try.prog 26 #[.agg #[.int .i64 s.vars, .slice A1 s.cells.length c1, .slice A2 s.cons.length c2], .int .i64 v] w fun e w' => e = .returned (.bool (looseAt s v)) ∧ Below w.heap.size w w' := by
  refine enterR (args := [.agg #[.int .i64 s.vars, .slice A1 s.cells.length c1, .slice A2 s.cons.length c2], .int .i64 v]) tabOk Try.func26 rfl Try.ntmps26 rfl ?_; conv => whnf
  refine wl_box rfl rfl rfl rfl rfl rfl ?_
  intro g w1 hn
  have hb := hn.blk
  have hB := hn.below
  refine run_l tabOk ?_
  conv => whnf
  have hmx := h1.1
  have hmx2 := h2.1
  (repeat' (first | (refine wl_Lg tabOk hb rfl rfl rfl rfl rfl rfl rfl (run_l tabOk ?_); conv => whnf) | (refine wl_add rfl rfl rfl rfl rfl rfl (by omega) (by omega) (run_l tabOk ?_); conv => whnf) | (refine wl_sub rfl rfl rfl rfl rfl rfl (by omega) (by omega) (run_l tabOk ?_); conv => whnf) | (refine wl_cvA tabOk rfl rfl rfl (by simp only [inK]; omega) rfl rfl rfl (run_l tabOk ?_); conv => whnf) | (refine wl_cvB tabOk rfl rfl rfl rfl rfl rfl (run_l tabOk ?_); conv => whnf) | (refine wl_rem rfl rfl rfl rfl rfl rfl (by omega) (by omega) (fun r hr hr0 hr1 hr2 => run_l tabOk ?_); conv => whnf) | (refine wl_quo rfl rfl rfl rfl rfl rfl (by omega) (by omega) (by simp only [inK]; omega) (run_l tabOk ?_); conv => whnf) | (refine wl_mul rfl rfl rfl rfl rfl rfl (by omega) (by omega) (run_l tabOk ?_); conv => whnf) | (refine gs_dt (by first | assumption | omega) ?_; conv => whnf) | (refine gs_df (by first | assumption | omega) ?_; conv => whnf) | (refine gs_t (by assumption) ?_; conv => whnf) | (refine gs_f (by assumption) ?_; conv => whnf) | (refine gs_d (fun hg => ?_) (fun hg => ?_) <;> conv => whnf) | (refine gs_n (fun hg => ?_) (fun hg => ?_) <;> conv => whnf) | (refine gs_nb (fun hg => ?_) (fun hg => ?_) <;> conv => whnf) | (refine gs_b (fun hg => ?_) (fun hg => ?_) <;> conv => whnf) | refine fin1 rfl rfl ?_))
  refine lp_loop tabOk (X := Nat) (fun i => [(1, .int .i64 v), (2, .pointer (some ⟨g, 0, none⟩)), (5, .int .i64 i)])
    (fun i wr => i ≤ s.cells.length ∧ (∀ j, j < i → cellLoose v s.cells[j]! = false) ∧ w1 = wr) (fun i => s.cells.length - i) 0 ⟨rfl, rfl, rfl, trivial⟩ ⟨by omega, by omega, rfl⟩ ?_
  rintro i G _ ⟨hi, hno, rfl⟩
  conv => whnf
  by_cases hlt : i < s.cells.length
  · obtain ⟨x, ad, B, c, hx, rfl, f0, f1, f2, hc, e4⟩ := cells_at (h1.up stays_Cell hB) i hlt
    (repeat' (first | (refine wl_Lg tabOk hb rfl rfl rfl rfl rfl rfl rfl (run_l tabOk ?_); conv => whnf) | (refine wl_L tabOk rfl rfl rfl rfl rfl rfl f1 (run_l tabOk ?_); conv => whnf) | (refine wl_Xn tabOk 54 3 rfl rfl rfl rfl rfl rfl rfl (by omega) (run_l tabOk ?_); conv => whnf) | (refine wl_add rfl rfl rfl rfl rfl rfl (by omega) (by omega) (run_l tabOk ?_); conv => whnf) | (refine wl_sub rfl rfl rfl rfl rfl rfl (by omega) (by omega) (run_l tabOk ?_); conv => whnf) | (refine wl_cvA tabOk rfl rfl rfl (by simp only [inK]; omega) rfl rfl rfl (run_l tabOk ?_); conv => whnf) | (refine wl_cvB tabOk rfl rfl rfl rfl rfl rfl (run_l tabOk ?_); conv => whnf) | (refine wl_rem rfl rfl rfl rfl rfl rfl (by omega) (by omega) (fun r hr hr0 hr1 hr2 => run_l tabOk ?_); conv => whnf) | (refine wl_quo rfl rfl rfl rfl rfl rfl (by omega) (by omega) (by simp only [inK]; omega) (run_l tabOk ?_); conv => whnf) | (refine wl_mul rfl rfl rfl rfl rfl rfl (by omega) (by omega) (run_l tabOk ?_); conv => whnf) | (refine gs_dt (by first | assumption | omega) ?_; conv => whnf) | (refine gs_df (by first | assumption | omega) ?_; conv => whnf) | (refine gs_t (by assumption) ?_; conv => whnf) | (refine gs_f (by assumption) ?_; conv => whnf) | (refine gs_d (fun hg => ?_) (fun hg => ?_) <;> conv => whnf) | (refine gs_n (fun hg => ?_) (fun hg => ?_) <;> conv => whnf) | (refine gs_nb (fun hg => ?_) (fun hg => ?_) <;> conv => whnf) | (refine gs_b (fun hg => ?_) (fun hg => ?_) <;> conv => whnf) | refine fin1 rfl rfl ?_))
    · exact ⟨retB (looseAt_cell hlt (by rw [hx.out]; exact cellLoose_v hg)).symm, hB⟩
    have hmx3 := e4.out.1
    refine lp_loop tabOk (X := Nat) (fun j => [(1, .int .i64 v), (2, .pointer (some ⟨g, 0, none⟩)), (5, .int .i64 i), (6, .int .i64 j)])
      (fun j wr => j ≤ x.args.length ∧ (∀ k, k < j → ¬ x.args[k]! = v) ∧ w1 = wr) (fun j => x.args.length - j) 0 ⟨rfl, rfl, rfl, rfl, trivial⟩ ⟨by omega, by omega, rfl⟩ ?_
    rintro j G2 _ ⟨hj, hnoj, rfl⟩
    conv => whnf
    by_cases hjl : j < x.args.length
    · obtain ⟨y, ad2, hy, rfl, k0, _⟩ := intsE e4.out j hjl
      (repeat' (first | (refine wl_Lg tabOk hb rfl rfl rfl rfl rfl rfl rfl (run_l tabOk ?_); conv => whnf) | (refine wl_L tabOk rfl rfl rfl rfl rfl rfl f2 (run_l tabOk ?_); conv => whnf) | (refine wl_L tabOk rfl rfl rfl rfl rfl rfl k0 (run_l tabOk ?_); conv => whnf) | (refine wl_Xn tabOk 54 3 rfl rfl rfl rfl rfl rfl rfl (by omega) (run_l tabOk ?_); conv => whnf) | (refine wl_Xn tabOk 3 1 rfl rfl rfl rfl rfl rfl rfl (by omega) (run_l tabOk ?_); conv => whnf) | (refine wl_add rfl rfl rfl rfl rfl rfl (by omega) (by omega) (run_l tabOk ?_); conv => whnf) | (refine wl_sub rfl rfl rfl rfl rfl rfl (by omega) (by omega) (run_l tabOk ?_); conv => whnf) | (refine wl_cvA tabOk rfl rfl rfl (by simp only [inK]; omega) rfl rfl rfl (run_l tabOk ?_); conv => whnf) | (refine wl_cvB tabOk rfl rfl rfl rfl rfl rfl (run_l tabOk ?_); conv => whnf) | (refine wl_rem rfl rfl rfl rfl rfl rfl (by omega) (by omega) (fun r hr hr0 hr1 hr2 => run_l tabOk ?_); conv => whnf) | (refine wl_quo rfl rfl rfl rfl rfl rfl (by omega) (by omega) (by simp only [inK]; omega) (run_l tabOk ?_); conv => whnf) | (refine wl_mul rfl rfl rfl rfl rfl rfl (by omega) (by omega) (run_l tabOk ?_); conv => whnf) | (refine gs_dt (by first | assumption | omega) ?_; conv => whnf) | (refine gs_df (by first | assumption | omega) ?_; conv => whnf) | (refine gs_t (by assumption) ?_; conv => whnf) | (refine gs_f (by assumption) ?_; conv => whnf) | (refine gs_d (fun hg => ?_) (fun hg => ?_) <;> conv => whnf) | (refine gs_n (fun hg => ?_) (fun hg => ?_) <;> conv => whnf) | (refine gs_nb (fun hg => ?_) (fun hg => ?_) <;> conv => whnf) | (refine gs_b (fun hg => ?_) (fun hg => ?_) <;> conv => whnf) | refine fin1 rfl rfl ?_))
      · exact ⟨retB (looseAt_cell hlt (by rw [hx.out]; exact cellLoose_a hjl (by rw [hy.out]; assumption))).symm, hB⟩
      · exact ⟨j + 1, ⟨rfl, rfl, rfl, rfl, trivial⟩, ⟨by omega, all_succ hnoj (by rw [hy.out]; assumption), rfl⟩, by omega⟩
    · (repeat' (first | (refine wl_Lg tabOk hb rfl rfl rfl rfl rfl rfl rfl (run_l tabOk ?_); conv => whnf) | (refine wl_L tabOk rfl rfl rfl rfl rfl rfl f2 (run_l tabOk ?_); conv => whnf) | (refine wl_Xn tabOk 54 3 rfl rfl rfl rfl rfl rfl rfl (by omega) (run_l tabOk ?_); conv => whnf) | (refine wl_add rfl rfl rfl rfl rfl rfl (by omega) (by omega) (run_l tabOk ?_); conv => whnf) | (refine wl_sub rfl rfl rfl rfl rfl rfl (by omega) (by omega) (run_l tabOk ?_); conv => whnf) | (refine wl_cvA tabOk rfl rfl rfl (by simp only [inK]; omega) rfl rfl rfl (run_l tabOk ?_); conv => whnf) | (refine wl_cvB tabOk rfl rfl rfl rfl rfl rfl (run_l tabOk ?_); conv => whnf) | (refine wl_rem rfl rfl rfl rfl rfl rfl (by omega) (by omega) (fun r hr hr0 hr1 hr2 => run_l tabOk ?_); conv => whnf) | (refine wl_quo rfl rfl rfl rfl rfl rfl (by omega) (by omega) (by simp only [inK]; omega) (run_l tabOk ?_); conv => whnf) | (refine wl_mul rfl rfl rfl rfl rfl rfl (by omega) (by omega) (run_l tabOk ?_); conv => whnf) | (refine gs_dt (by first | assumption | omega) ?_; conv => whnf) | (refine gs_df (by first | assumption | omega) ?_; conv => whnf) | (refine gs_t (by assumption) ?_; conv => whnf) | (refine gs_f (by assumption) ?_; conv => whnf) | (refine gs_d (fun hg => ?_) (fun hg => ?_) <;> conv => whnf) | (refine gs_n (fun hg => ?_) (fun hg => ?_) <;> conv => whnf) | (refine gs_nb (fun hg => ?_) (fun hg => ?_) <;> conv => whnf) | (refine gs_b (fun hg => ?_) (fun hg => ?_) <;> conv => whnf) | refine fin1 rfl rfl ?_))
      exact ⟨i + 1, ⟨rfl, rfl, rfl, trivial⟩, ⟨by omega, all_succ hno (by rw [hx.out]; exact cellLoose_no (by assumption) (all_ge hnoj hjl)), rfl⟩, by omega⟩
  · have hnoA := all_ge hno hlt
    (repeat' (first | (refine wl_Lg tabOk hb rfl rfl rfl rfl rfl rfl rfl (run_l tabOk ?_); conv => whnf) | (refine wl_add rfl rfl rfl rfl rfl rfl (by omega) (by omega) (run_l tabOk ?_); conv => whnf) | (refine wl_sub rfl rfl rfl rfl rfl rfl (by omega) (by omega) (run_l tabOk ?_); conv => whnf) | (refine wl_cvA tabOk rfl rfl rfl (by simp only [inK]; omega) rfl rfl rfl (run_l tabOk ?_); conv => whnf) | (refine wl_cvB tabOk rfl rfl rfl rfl rfl rfl (run_l tabOk ?_); conv => whnf) | (refine wl_rem rfl rfl rfl rfl rfl rfl (by omega) (by omega) (fun r hr hr0 hr1 hr2 => run_l tabOk ?_); conv => whnf) | (refine wl_quo rfl rfl rfl rfl rfl rfl (by omega) (by omega) (by simp only [inK]; omega) (run_l tabOk ?_); conv => whnf) | (refine wl_mul rfl rfl rfl rfl rfl rfl (by omega) (by omega) (run_l tabOk ?_); conv => whnf) | (refine gs_dt (by first | assumption | omega) ?_; conv => whnf) | (refine gs_df (by first | assumption | omega) ?_; conv => whnf) | (refine gs_t (by assumption) ?_; conv => whnf) | (refine gs_f (by assumption) ?_; conv => whnf) | (refine gs_d (fun hg => ?_) (fun hg => ?_) <;> conv => whnf) | (refine gs_n (fun hg => ?_) (fun hg => ?_) <;> conv => whnf) | (refine gs_nb (fun hg => ?_) (fun hg => ?_) <;> conv => whnf) | (refine gs_b (fun hg => ?_) (fun hg => ?_) <;> conv => whnf) | refine fin1 rfl rfl ?_))
    refine lp_loop tabOk (X := Nat) (fun i => [(1, .int .i64 v), (2, .pointer (some ⟨g, 0, none⟩)), (7, .int .i64 i)])
      (fun i wr => i ≤ s.cons.length ∧ (∀ j, j < i → conLoose v s.cons[j]! = false) ∧ w1 = wr) (fun i => s.cons.length - i) 0 ⟨rfl, rfl, rfl, trivial⟩ ⟨by omega, by omega, rfl⟩ ?_
    rintro i G _ ⟨hi, hnoc, rfl⟩
    conv => whnf
    by_cases hlt : i < s.cons.length
    · obtain ⟨x, ad, B, c, hx, rfl, f0, f1, f2, f3, hc, e4, _⟩ := cons_at (h2.up stays_Con hB) i hlt
      (repeat' (first | (refine wl_Lg tabOk hb rfl rfl rfl rfl rfl rfl rfl (run_l tabOk ?_); conv => whnf) | (refine wl_L tabOk rfl rfl rfl rfl rfl rfl f0 (run_l tabOk ?_); conv => whnf) | (refine wl_L tabOk rfl rfl rfl rfl rfl rfl f1 (run_l tabOk ?_); conv => whnf) | (refine wl_Xn tabOk 52 4 rfl rfl rfl rfl rfl rfl rfl (by omega) (run_l tabOk ?_); conv => whnf) | (refine wl_add rfl rfl rfl rfl rfl rfl (by omega) (by omega) (run_l tabOk ?_); conv => whnf) | (refine wl_sub rfl rfl rfl rfl rfl rfl (by omega) (by omega) (run_l tabOk ?_); conv => whnf) | (refine wl_cvA tabOk rfl rfl rfl (by simp only [inK]; omega) rfl rfl rfl (run_l tabOk ?_); conv => whnf) | (refine wl_cvB tabOk rfl rfl rfl rfl rfl rfl (run_l tabOk ?_); conv => whnf) | (refine wl_rem rfl rfl rfl rfl rfl rfl (by omega) (by omega) (fun r hr hr0 hr1 hr2 => run_l tabOk ?_); conv => whnf) | (refine wl_quo rfl rfl rfl rfl rfl rfl (by omega) (by omega) (by simp only [inK]; omega) (run_l tabOk ?_); conv => whnf) | (refine wl_mul rfl rfl rfl rfl rfl rfl (by omega) (by omega) (run_l tabOk ?_); conv => whnf) | (refine gs_dt (by first | assumption | omega) ?_; conv => whnf) | (refine gs_df (by first | assumption | omega) ?_; conv => whnf) | (refine gs_t (by assumption) ?_; conv => whnf) | (refine gs_f (by assumption) ?_; conv => whnf) | (refine gs_d (fun hg => ?_) (fun hg => ?_) <;> conv => whnf) | (refine gs_n (fun hg => ?_) (fun hg => ?_) <;> conv => whnf) | (refine gs_nb (fun hg => ?_) (fun hg => ?_) <;> conv => whnf) | (refine gs_b (fun hg => ?_) (fun hg => ?_) <;> conv => whnf) | refine fin1 rfl rfl ?_))
      all_goals first
        | exact ⟨retB (looseAt_con hlt (by rw [hx.out]; simp_all [conLoose])).symm, hB⟩
        | exact ⟨i + 1, ⟨rfl, rfl, rfl, trivial⟩, ⟨by omega, all_succ hnoc (by rw [hx.out]; simp_all [conLoose]), rfl⟩, by omega⟩
    · (repeat' (first | (refine wl_Lg tabOk hb rfl rfl rfl rfl rfl rfl rfl (run_l tabOk ?_); conv => whnf) | (refine wl_add rfl rfl rfl rfl rfl rfl (by omega) (by omega) (run_l tabOk ?_); conv => whnf) | (refine wl_sub rfl rfl rfl rfl rfl rfl (by omega) (by omega) (run_l tabOk ?_); conv => whnf) | (refine wl_cvA tabOk rfl rfl rfl (by simp only [inK]; omega) rfl rfl rfl (run_l tabOk ?_); conv => whnf) | (refine wl_cvB tabOk rfl rfl rfl rfl rfl rfl (run_l tabOk ?_); conv => whnf) | (refine wl_rem rfl rfl rfl rfl rfl rfl (by omega) (by omega) (fun r hr hr0 hr1 hr2 => run_l tabOk ?_); conv => whnf) | (refine wl_quo rfl rfl rfl rfl rfl rfl (by omega) (by omega) (by simp only [inK]; omega) (run_l tabOk ?_); conv => whnf) | (refine wl_mul rfl rfl rfl rfl rfl rfl (by omega) (by omega) (run_l tabOk ?_); conv => whnf) | (refine gs_dt (by first | assumption | omega) ?_; conv => whnf) | (refine gs_df (by first | assumption | omega) ?_; conv => whnf) | (refine gs_t (by assumption) ?_; conv => whnf) | (refine gs_f (by assumption) ?_; conv => whnf) | (refine gs_d (fun hg => ?_) (fun hg => ?_) <;> conv => whnf) | (refine gs_n (fun hg => ?_) (fun hg => ?_) <;> conv => whnf) | (refine gs_nb (fun hg => ?_) (fun hg => ?_) <;> conv => whnf) | (refine gs_b (fun hg => ?_) (fun hg => ?_) <;> conv => whnf) | refine fin1 rfl rfl ?_))
      exact ⟨retB (looseAt_none hnoA (all_ge hnoc hlt)).symm, hB⟩
theorem vb_get {xs : List Bool} {v : Nat} (hv : v < xs.length) : (vb xs)[v]? = some (.bool xs[v]!) := by
  rw [getElem!_pos xs v hv]
  simp [vb, hv]
end Go.Proofs.Ytomldckplkecbaa

/- When rows are one; the reference looks at two rows of numbers. -/
namespace Go.Proofs.Ytomldckplkecbaa
open Go.RowKit
set_option linter.unusedVariables false
set_option linter.unusedSimpArgs false
set_option maxRecDepth 100000
def sameL {α : Type} [Inhabited α] (f : α → α → Bool) (xs ys : List α) : Bool := decide (xs.length = ys.length) && (List.range xs.length).all fun i => f xs[i]! ys[i]!
section
variable {α : Type} [Inhabited α] {f : α → α → Bool} {xs ys : List α}
theorem sameL_len (h : ¬ xs.length = ys.length) : sameL f xs ys = false := by simp [sameL, h]
theorem sameL_at {i : Nat} (hi : i < xs.length) (h : f xs[i]! ys[i]! = false) : sameL f xs ys = false := by
  have : (List.range xs.length).all (fun i => f xs[i]! ys[i]!) = false := by
    rw [List.all_eq_false]
    exact ⟨i, by simpa using hi, by rw [h]; simp⟩
  rw [sameL, this]
  simp
theorem sameL_all (hl : xs.length = ys.length) (h : ∀ i, i < xs.length → f xs[i]! ys[i]! = true) : sameL f xs ys = true := by
  have : (List.range xs.length).all (fun i => f xs[i]! ys[i]!) = true := by
    rw [List.all_eq_true]
    intro i hi
    exact h i (by simpa using hi)
  rw [sameL, this]
  simp [hl]
theorem sameL_refl (h : ∀ x, f x x = true) : sameL f xs xs = true := sameL_all rfl fun i _ => h _
end
def ieq (a b : Int) : Bool := decide (a = b)
def sameI (xs ys : List Int) : Bool := sameL ieq xs ys
def sameCon (x y : Con) : Bool := decide (x.k = y.k) && decide (x.a = y.a) && decide (x.b = y.b) && sameI x.args y.args
def sameCell (x y : Cell) : Bool := (x.fn == y.fn) && decide (x.v = y.v) && sameI x.args y.args
def sameSys (s t : Sys) : Bool := decide (s.vars = t.vars) && sameL sameCon s.cons t.cons && sameL sameCell s.cells t.cells
theorem sameI_refl (xs : List Int) : sameI xs xs = true := sameL_refl fun x => by simp [ieq]
theorem sameCon_refl (x : Con) : sameCon x x = true := by simp [sameCon, sameI_refl]
theorem sameCell_refl (x : Cell) : sameCell x x = true := by simp [sameCell, sameI_refl]
theorem sameSys_refl (s : Sys) : sameSys s s = true := by
  simp [sameSys, sameL_refl sameCon_refl, sameL_refl sameCell_refl]
end Go.Proofs.Ytomldckplkecbaa

/- When two systems are one: slices.Equal, slices.EqualFunc, system.SameCon, system.Equal, the reference's Same; the walk of SystemEqual. -/
namespace Go.Proofs.Ytomldckplkecbaa
open Go.RowKit
set_option linter.unusedVariables false
set_option linter.unusedSimpArgs false
set_option maxRecDepth 100000
end Go.Proofs.Ytomldckplkecbaa

/- weathervanelaw15: awake, and the walks of GraphOf, GraphRaw. -/
namespace Go.Proofs.Ytomldckplkecbaa
open Go.RowKit
set_option linter.unusedVariables false
set_option linter.unusedSimpArgs false
set_option maxRecDepth 100000
/-- Of one variable alone. -/
def cstep (vars : Int) (v : Int) (q : List Int × List Int) (c : Con) : List Int × List Int :=
  if ¬ c.a = v then q else if c.k = 1 then (q.1, q.2 ++ [c.b]) else if c.k = 2 then (q.1 ++ [c.b], q.2) else if c.k = 3 then (q.1 ++ [vars + c.b], q.2) else q
theorem col_eq (vars : Int) (v : Nat) : ∀ (l : List Con) (p : List (List Int) × List (List Int)) (q : List Int × List Int), (∀ c ∈ l, 1 ≤ c.k → c.k ≤ 3 → 0 ≤ c.a) → v < p.1.length → p.1[v]! = q.1 → (v < p.2.length → p.2[v]! = q.2) →
    (l.foldl (gstep vars) p).1[v]! = (l.foldl (cstep vars v) q).1 ∧ (v < p.2.length → (l.foldl (gstep vars) p).2[v]! = (l.foldl (cstep vars v) q).2)
  | [], p, q, _, _, h1, h2 => ⟨h1, h2⟩
  | c :: l, p, q, ha, hv, h1, h2 => by
    have hl := gstep_len vars p c
    have hc := ha c (by simp)
    have add : ∀ (M : List (List Int)) (x : Int), v < M.length → 0 ≤ c.a → (addAt M c.a x)[v]! = if c.a = v then M[v]! ++ [x] else M[v]! := fun M x hM h0 => by
      unfold addAt
      rw [get_set _ _ _ _ hM]
      by_cases e : c.a = v
      · rw [if_pos (by omega), if_pos e]
        rw [show c.a.toNat = v by omega]
      · rw [if_neg (by omega), if_neg e]
    have key : (gstep vars p c).1[v]! = (cstep vars v q c).1 ∧ (v < p.2.length → (gstep vars p c).2[v]! = (cstep vars v q c).2) := by
      unfold gstep cstep
      by_cases k1 : c.k = 1
      · rw [if_pos k1]
        refine ⟨?_, fun hv2 => ?_⟩
        · split
          · exact h1
          · exact h1
        · rw [add _ _ hv2 (hc (by omega) (by omega)), h2 hv2]
          split
          · rename_i e; simp [e, k1]
          · rename_i e; simp [e]
      · rw [if_neg k1]
        by_cases k2 : c.k = 2
        · rw [if_pos k2]
          refine ⟨?_, fun hv2 => ?_⟩
          · rw [add _ _ hv (hc (by omega) (by omega)), h1]
            split
            · rename_i e; simp [e, k2]
            · rename_i e; simp [e]
          · split
            · exact h2 hv2
            · exact h2 hv2
        · rw [if_neg k2]
          by_cases k3 : c.k = 3
          · rw [if_pos k3]
            refine ⟨?_, fun hv2 => ?_⟩
            · rw [add _ _ hv (hc (by omega) (by omega)), h1]
              split
              · rename_i e; simp [e, k3]
              · rename_i e; simp [e]
            · split
              · exact h2 hv2
              · exact h2 hv2
          · rw [if_neg k3, if_neg k1, if_neg k2, if_neg k3]
            simp only [ite_self]
            exact ⟨h1, h2⟩
    have := col_eq vars v l (gstep vars p c) (cstep vars v q c) (fun x hx => ha x (by simp [hx])) (by rw [hl.1]; exact hv) key.1 (by rw [hl.2]; exact key.2)
    rw [hl.2] at this
    exact this
theorem cfold_small (vars v : Int) : ∀ (l : List Con) (q : List Int × List Int), (l.foldl (cstep vars v) q).1.length ≤ q.1.length + l.length ∧ (l.foldl (cstep vars v) q).2.length ≤ q.2.length + l.length
  | [], q => by simp
  | c :: l, q => by
    have h := cfold_small vars v l (cstep vars v q c)
    have : (cstep vars v q c).1.length ≤ q.1.length + 1 ∧ (cstep vars v q c).2.length ≤ q.2.length + 1 := by
      unfold cstep
      split
      · omega
      · split
        · simp
        · split
          · simp
          · split
            · simp
            · omega
    simp only [List.foldl_cons, List.length_cons]
    omega
theorem graphOfR (n : Nat) (xs : List Cell) (ys : List Con) (A1 A2 : Option Addr) (c1 c2 : Nat) (w : World) (h1 : RCells w A1 xs) (h2 : RCons w A2 ys) (hr : rightB ⟨n, xs, ys⟩ = true) :
    Calls Try.prog 16 #[.agg #[.int .i64 n, .slice A1 xs.length c1, .slice A2 ys.length c2]] w fun e w' => ∃ A B C, e = .returned (.agg #[.int .i64 n, .slice A (2 * n) (2 * n), .slice B n n, .slice C (2 * n) (2 * n)]) ∧
      RRows w' A (gfold ⟨n, xs, ys⟩).1 ∧ RRows w' B (gfold ⟨n, xs, ys⟩).2 ∧ RowR 1 dB w' C (looseB ⟨n, xs, ys⟩ ++ List.replicate n true) ∧ Below w.heap.size w w' := by
  refine (graphOfC ⟨n, xs, ys⟩ A1 A2 c1 c2 w h1 h2).mono ?_
  rintro e w' ⟨A, B, C, he, k1, k2, k3, hb⟩
  have hg : graphOf ⟨n, xs, ys⟩ = ⟨n, (gfold ⟨n, xs, ys⟩).1, (gfold ⟨n, xs, ys⟩).2, looseB ⟨n, xs, ys⟩ ++ List.replicate n true⟩ := by
    rw [graphOf, if_pos hr]
    simp
  rw [hg] at he k1 k2 k3
  have hl := gfold_len (n : Int) ys (List.replicate (2 * n) [], List.replicate n [])
  simp only [List.length_replicate] at hl
  have e1 : (gfold ⟨n, xs, ys⟩).1.length = 2 * n := by rw [gfold]; simpa using hl.1
  have e2 : (gfold ⟨n, xs, ys⟩).2.length = n := by rw [gfold]; simpa using hl.2
  have e3 : (looseB ⟨n, xs, ys⟩ ++ List.replicate n true).length = 2 * n := by rw [List.length_append, looseB_len, List.length_replicate]; simp; omega
  simp only [e1, e2, e3] at he
  exact ⟨A, B, C, he, k1, k2, k3, hb⟩
theorem retB' {b : Bool} (h : b = true) : Ending.returned (.bool b) = .returned (.bool true) := by rw [h]
end Go.Proofs.Ytomldckplkecbaa

/- What is true of labels: plain. -/
namespace Go.Proofs.Ytomldckplkecbaa
set_option linter.unusedVariables false
set_option linter.unusedSimpArgs false
/-- A right system's graph is one that Labels takes. -/
theorem addAt_all {p : Int → Prop} {M : List (List Int)} {a x : Int} (h : ∀ v, v < M.length → ∀ y ∈ M[v]!, p y) (hx : p x) : ∀ v, v < (addAt M a x).length → ∀ y ∈ (addAt M a x)[v]!, p y := fun v hv y hy => by
  unfold addAt at hv hy
  have hv : v < M.length := by simpa using hv
  rw [get_set _ _ _ _ hv] at hy
  split at hy
  · rename_i e
    rcases List.mem_append.1 hy with h1 | h1
    · exact h v hv y (e ▸ h1)
    · simp at h1; rw [h1]; exact hx
  · exact h v hv y hy
theorem gfold_all {n m : Nat} (hm : m ≤ 16384) : ∀ (l : List Con) (p : List (List Int) × List (List Int)), (∀ c ∈ l, conOk (n : Int) m c = true) → (∀ v, v < p.1.length → ∀ y ∈ p.1[v]!, 0 ≤ y ∧ y < 2 * (n : Int)) → (∀ v, v < p.2.length → ∀ y ∈ p.2[v]!, 0 ≤ y ∧ y < 16384) →
    (∀ v, v < (l.foldl (gstep n) p).1.length → ∀ y ∈ (l.foldl (gstep n) p).1[v]!, 0 ≤ y ∧ y < 2 * (n : Int)) ∧ ∀ v, v < (l.foldl (gstep n) p).2.length → ∀ y ∈ (l.foldl (gstep n) p).2[v]!, 0 ≤ y ∧ y < 16384
  | [], p, _, h1, h2 => ⟨h1, h2⟩
  | c :: l, p, hc, h1, h2 => by
    have hck := hc c (by simp)
    simp only [conOk, inR, Bool.and_eq_true, decide_eq_true_eq] at hck
    have hb := hck.1.1.1.2
    refine gfold_all hm l (gstep n p c) (fun d hd => hc d (by simp [hd])) ?_ ?_
    · unfold gstep
      split
      · exact h1
      · split
        · rename_i k1 k2
          rw [if_neg k1] at hb
          exact addAt_all h1 ⟨by omega, by omega⟩
        · split
          · rename_i k1 k2 k3
            rw [if_neg k1] at hb
            exact addAt_all h1 ⟨by omega, by omega⟩
          · exact h1
    · unfold gstep
      split
      · rename_i k1
        rw [if_pos k1] at hb
        exact addAt_all h2 ⟨by omega, by omega⟩
      · split
        · exact h2
        · split
          · exact h2
          · exact h2
theorem gok {n : Nat} {xs : List Cell} {ys : List Con} (hr : rightB ⟨n, xs, ys⟩ = true) : GOk n (gfold ⟨n, xs, ys⟩).1 (gfold ⟨n, xs, ys⟩).2 (looseB ⟨n, xs, ys⟩ ++ List.replicate n true) := by
  simp only [rightB, bigOk, Bool.and_eq_true, decide_eq_true_eq, List.all_eq_true] at hr
  have hl := gfold_len (n : Int) ys (List.replicate (2 * (n : Int).toNat) [], List.replicate (n : Int).toNat [])
  have h1 : (gfold ⟨n, xs, ys⟩).1.length = 2 * n := by
    have : (gfold ⟨n, xs, ys⟩).1.length = (List.replicate (2 * (n : Int).toNat) ([] : List Int)).length := hl.1
    rw [this]
    simp
  have h2 : (gfold ⟨n, xs, ys⟩).2.length = n := by
    have : (gfold ⟨n, xs, ys⟩).2.length = (List.replicate (n : Int).toNat ([] : List Int)).length := hl.2
    rw [this]
    simp
  have h3 := gfold_all (n := n) (m := xs.length) (by omega) ys (List.replicate (2 * (n : Int).toNat) [], List.replicate (n : Int).toNat []) hr.2 (fun v hv y hy => by
    have hv : v < 2 * (n : Int).toNat := by simpa using hv
    rw [getElem!_pos _ v (by simpa using hv)] at hy
    simp at hy) (fun v hv y hy => by
    have hv : v < (n : Int).toNat := by simpa using hv
    rw [getElem!_pos _ v (by simpa using hv)] at hy
    simp at hy)
  refine ⟨h1, h2, ?_, by omega, fun v hv x hx => ?_, fun v hv x hx => h3.2 v hv x hx⟩
  · rw [List.length_append, looseB_len]
    simp
    omega
  · have := h3.1 v hv x hx
    rw [h1]
    omega
section
variable {vars : Nat} {into bases : List (List Int)} {lo : List Bool} {kn : List (List Nat)} {of : Nat → Nat}
/-- The labels at the end. -/
def Lf (vars : Nat) (into bases : List (List Int)) (lo : List Bool) (kn : List (List Nat)) (of : Nat → Nat) : Nat → Int := (labN vars into bases lo kn of kn.length).lab
theorem lab_keep {j k : Nat} (hj : j < k) : ∀ d, (labN vars into bases lo kn of (k + d)).lab j = (labN vars into bases lo kn of k).lab j
  | 0 => rfl
  | d + 1 => by
    have ih := lab_keep hj d
    refine Eq.trans ?_ ih
    show setF (labN vars into bases lo kn of (k + d)).lab (k + d) _ j = _
    exact setF_ne _ _ (by omega)
theorem lab_fin {j k : Nat} (hj : j < k) (hk : k ≤ kn.length) : (labN vars into bases lo kn of k).lab j = Lf vars into bases lo kn of j := by
  obtain ⟨d, hd⟩ : ∃ d, kn.length = k + d := ⟨kn.length - k, by omega⟩
  unfold Lf
  rw [hd]
  exact (lab_keep hj d).symm
theorem Lf_eq {k : Nat} (hk : k < kn.length) : Lf vars into bases lo kn of k = (labR vars into bases lo kn of (labN vars into bases lo kn of k) k).1 := by
  rw [← lab_fin (Nat.lt_succ_self k) hk]
  show setF _ k _ k = _
  rw [setF_at]
theorem mem_fold_addI : ∀ (l : List Int) (S : List Int) (y : Int), y ∈ l.foldl addI S ↔ y ∈ S ∨ y ∈ l
  | [], S, y => by simp
  | x :: l, S, y => by
    rw [List.foldl_cons, mem_fold_addI l, addI_mem, List.mem_cons]
    exact or_assoc
theorem mem_seenV {lab : Nat → Int} {k v : Nat} : ∀ (l : List Int) (S : List Int) (y : Int), y ∈ l.foldl (seenX of lab k) S ↔ y ∈ S ∨ ∃ x ∈ l, of x.toNat ≠ k ∧ lab (of x.toNat) ≠ -1 ∧ y = lab (of x.toNat)
  | [], S, y => by simp
  | x :: l, S, y => by
    rw [List.foldl_cons, mem_seenV (v := v) l]
    unfold seenX
    by_cases hc : of x.toNat ≠ k ∧ lab (of x.toNat) ≠ -1
    · rw [if_pos hc, addI_mem]
      constructor
      · rintro ((h | h) | ⟨z, hz, h⟩)
        · exact .inl h
        · exact .inr ⟨x, by simp, hc.1, hc.2, h⟩
        · exact .inr ⟨z, by simp [hz], h⟩
      · rintro (h | ⟨z, hz, h⟩)
        · exact .inl (.inl h)
        · rcases List.mem_cons.1 hz with rfl | hz
          · exact .inl (.inr h.2.2)
          · exact .inr ⟨z, hz, h⟩
    · rw [if_neg hc]
      constructor
      · rintro (h | ⟨z, hz, h⟩)
        · exact .inl h
        · exact .inr ⟨z, by simp [hz], h⟩
      · rintro (h | ⟨z, hz, h⟩)
        · exact .inl h
        · rcases List.mem_cons.1 hz with rfl | hz
          · exact absurd ⟨h.1, h.2.1⟩ hc
          · exact .inr ⟨z, hz, h⟩
theorem mem_foldV {α : Type} {f : List Int → α → List Int} {p : α → Int → Prop} (hf : ∀ S v y, y ∈ f S v ↔ y ∈ S ∨ p v y) : ∀ (l : List α) (S : List Int) (y : Int), y ∈ l.foldl f S ↔ y ∈ S ∨ ∃ v ∈ l, p v y
  | [], S, y => by simp
  | v :: l, S, y => by
    rw [List.foldl_cons, mem_foldV hf l, hf]
    constructor
    · rintro ((h | h) | ⟨z, hz, h⟩)
      · exact .inl h
      · exact .inr ⟨v, by simp, h⟩
      · exact .inr ⟨z, by simp [hz], h⟩
    · rintro (h | ⟨z, hz, h⟩)
      · exact .inl (.inl h)
      · rcases List.mem_cons.1 hz with rfl | hz
        · exact .inl (.inr h)
        · exact .inr ⟨z, hz, h⟩
theorem mem_seenK {lab : Nat → Int} {k : Nat} {y : Int} : y ∈ seenK into kn of lab k ↔ ∃ v ∈ kn[k]!, ∃ x ∈ into[v]!, of x.toNat ≠ k ∧ lab (of x.toNat) ≠ -1 ∧ y = lab (of x.toNat) := by
  unfold seenK
  rw [mem_foldV (p := fun v y => ∃ x ∈ into[v]!, of x.toNat ≠ k ∧ lab (of x.toNat) ≠ -1 ∧ y = lab (of x.toNat)) (f := seenV into of lab k) (fun S v y => mem_seenV (v := v) into[v]! S y)]
  simp
theorem mem_ownK {k : Nat} {y : Int} : y ∈ ownK vars bases kn k ↔ ∃ v ∈ kn[k]!, v < vars ∧ y ∈ bases[v]! := by
  unfold ownK
  rw [mem_foldV (p := fun v y => v < vars ∧ y ∈ bases[v]!) (f := ownV bases vars) (fun S v y => by
    unfold ownV
    split
    · rename_i h
      rw [mem_fold_addI]
      simp [h]
    · rename_i h
      simp [h])]
  simp
theorem looK_iff {k : Nat} : looK lo kn k = true ↔ ∃ v ∈ kn[k]!, lo[v]! = true := by
  have key : ∀ (l : List Nat) (b : Bool), l.foldl (looV lo) b = true ↔ b = true ∨ ∃ v ∈ l, lo[v]! = true := by
    intro l
    induction l with
    | nil => intro b; simp
    | cons v l ih =>
      intro b
      rw [List.foldl_cons, ih]
      unfold looV
      rw [Bool.or_eq_true]
      constructor
      · rintro ((h | h) | ⟨z, hz, h⟩)
        · exact .inl h
        · exact .inr ⟨v, by simp, h⟩
        · exact .inr ⟨z, by simp [hz], h⟩
      · rintro (h | ⟨z, hz, h⟩)
        · exact .inl (.inl h)
        · rcases List.mem_cons.1 hz with rfl | hz
          · exact .inl (.inr h)
          · exact .inr ⟨z, hz, h⟩
  unfold looK
  rw [key]
  simp
theorem nil_of_no {S : List Int} (h : ∀ y, y ∉ S) : S = [] := List.eq_nil_iff_forall_not_mem.2 h
theorem labelF_none {f : Int → Option Nat} {m : Nat} : labelF [] [] false f m = (-1, m, f) := by
  unfold labelF
  rw [if_neg (by simp)]
  rfl
/-- Where nothing comes in, nothing has a label. -/
theorem Lf_empty (hG : GOk vars into bases lo) (hK : KnOk into kn of) (h1 : ∀ v, v < vars → ∀ x ∈ into[v]!, x < (vars : Int)) (h2 : ∀ v, v < vars → bases[v]! = []) (h3 : ∀ v, v < vars → lo[v]! = false) : ∀ v, v < vars → Lf vars into bases lo kn of (of v) = -1 := by
  have hni := hG.ni
  have hmem : ∀ v, v < vars → ∀ u ∈ kn[of v]!, u < vars := fun v hv u hu => by
    have hk := (hK.at_ v (by omega)).1
    obtain ⟨h4, h5⟩ := (hK.kn _ hk).2.2 u hu
    have h6 := ((hK.scc v u (by omega) h4).1 h5.symm).1
    exact h6.closed (P := fun x => x < vars) (fun a b ha ⟨j, h7, h8, h9, h10⟩ => by
      have := h1 a ha (into[a]!)[j]! (by rw [getElem!_pos _ j h9]; exact List.getElem_mem h9)
      show b < vars
      omega) hv
  have key : ∀ m k, k < m → ∀ v, v < vars → of v = k → Lf vars into bases lo kn of k = -1 := by
    intro m
    induction m with
    | zero => intro k hk; omega
    | succ m ih =>
      intro k hkm v hv hvk
      have hk : k < kn.length := hvk ▸ (hK.at_ v (by omega)).1
      have hmk := hmem v hv
      rw [hvk] at hmk
      have hS : seenK into kn of (labN vars into bases lo kn of k).lab k = [] := nil_of_no fun y hy => by
        obtain ⟨u, hu, x, hx, h4, h5, _⟩ := mem_seenK.1 hy
        have hud := hK.down hG.ri hk hu
        have hxr := hG.ri u hud.1 x hx
        have hle := hud.2 x hx
        have hxv := h1 u (hmk u hu) x hx
        rw [lab_fin (Nat.lt_of_le_of_ne hle h4) (by omega)] at h5
        exact h5 (ih (of x.toNat) (by omega) x.toNat (by omega) rfl)
      have hW : ownK vars bases kn k = [] := nil_of_no fun y hy => by
        obtain ⟨u, hu, hu2, hy2⟩ := mem_ownK.1 hy
        rw [h2 u hu2] at hy2
        cases hy2
      have hL : looK lo kn k = false := by
        cases hb : looK lo kn k with
        | false => rfl
        | true =>
          obtain ⟨u, hu, hu2⟩ := looK_iff.1 hb
          rw [h3 u (hmk u hu)] at hu2
          cases hu2
      rw [Lf_eq hk]
      unfold labR
      rw [hS, hW, hL, labelF_none]
  exact fun v hv => key (of v + 1) (of v) (Nat.lt_succ_self _) v hv rfl
/-! ### one node alone -/
theorem nx_mono {k : Nat} (hG : GOk vars into bases lo) (hK : KnOk into kn of) : ∀ d, k + d ≤ kn.length → (labN vars into bases lo kn of k).nx ≤ (labN vars into bases lo kn of (k + d)).nx
  | 0, _ => Nat.le_refl _
  | d + 1, h => by
    have ih := nx_mono (k := k) hG hK d (by omega)
    have hLO := labN_ok hG hK (k + d) (by omega)
    have h1 := seenK_ok hG hK (by omega : k + d < kn.length) hLO
    have h2 : (labN vars into bases lo kn of (k + d)).nx ≤ (labN vars into bases lo kn of (k + d + 1)).nx := (labelF_ok (W := ownK vars bases kn (k + d)) (b := looK lo kn (k + d)) h1.2 hLO.ob).2.1.1
    exact Nat.le_trans ih h2
theorem labelF_ob {S W : List Int} {b : Bool} {f : Int → Option Nat} {m : Nat} (o : Int) : (labelF S W b f m).2.2 o = f o ∨ (f o = none ∧ (labelF S W b f m).2.2 o = some m ∧ (labelF S W b f m).2.1 = m + 1) := by
  unfold labelF
  split
  · exact .inl rfl
  · cases S with
    | cons x r => exact .inl rfl
    | nil =>
      cases W with
      | nil => exact .inl rfl
      | cons a r =>
        cases hq : f a with
        | some q =>
          have e : labelO [] (a :: r) f m = ((q : Int), m, f) := by simp only [labelO, hq]
          rw [e]
          exact .inl rfl
        | none =>
          have e : labelO [] (a :: r) f m = ((m : Int), m + 1, putN f a m) := by simp only [labelO, hq]
          rw [e]
          by_cases e2 : o = a
          · subst e2
            exact .inr ⟨hq, by simp [putN], rfl⟩
          · exact .inl (by simp [putN, e2])
theorem ob_keep {k : Nat} {o : Int} {q : Nat} (h : (labN vars into bases lo kn of k).ob o = some q) : ∀ d, (labN vars into bases lo kn of (k + d)).ob o = some q
  | 0 => h
  | d + 1 => by
    have ih := ob_keep h d
    rcases labelF_ob (S := seenK into kn of (labN vars into bases lo kn of (k + d)).lab (k + d)) (W := ownK vars bases kn (k + d)) (b := looK lo kn (k + d)) (f := (labN vars into bases lo kn of (k + d)).ob) (m := (labN vars into bases lo kn of (k + d)).nx) o with h1 | ⟨h1, _⟩
    · exact h1.trans ih
    · rw [ih] at h1
      cases h1
/-- What comes later is not less than the number of now. -/
theorem ob_late (hG : GOk vars into bases lo) (hK : KnOk into kn of) {k : Nat} {o : Int} {q : Nat} (h0 : (labN vars into bases lo kn of k).ob o = none) : ∀ d, k + d ≤ kn.length → (labN vars into bases lo kn of (k + d)).ob o = some q → (labN vars into bases lo kn of k).nx ≤ q
  | 0, _, h => by
    have h : (labN vars into bases lo kn of k).ob o = some q := h
    rw [h0] at h
    cases h
  | d + 1, hd, h => by
    rcases labelF_ob (S := seenK into kn of (labN vars into bases lo kn of (k + d)).lab (k + d)) (W := ownK vars bases kn (k + d)) (b := looK lo kn (k + d)) (f := (labN vars into bases lo kn of (k + d)).ob) (m := (labN vars into bases lo kn of (k + d)).nx) o with h1 | ⟨_, h1, _⟩
    · exact ob_late hG hK h0 d (by omega) (h1.symm.trans h)
    · have h2 : some (labN vars into bases lo kn of (k + d)).nx = some q := h1.symm.trans h
      injection h2 with h2
      have := nx_mono (k := k) hG hK d (by omega)
      omega
/-- Objects' numbers are different ones. -/
theorem ob_inj (hG : GOk vars into bases lo) (hK : KnOk into kn of) : ∀ k, k ≤ kn.length → ∀ o p q, (labN vars into bases lo kn of k).ob o = some q → (labN vars into bases lo kn of k).ob p = some q → o = p
  | 0, _, o, p, q, h, _ => by cases h
  | k + 1, hk, o, p, q, ho, hp => by
    have hLO := labN_ok hG hK k (by omega)
    have key : ∀ x, (labN vars into bases lo kn of (k + 1)).ob x = some q → (labN vars into bases lo kn of k).ob x = some q ∨ ((labN vars into bases lo kn of k).ob x = none ∧ q = (labN vars into bases lo kn of k).nx) := fun x hx => by
      rcases labelF_ob (S := seenK into kn of (labN vars into bases lo kn of k).lab k) (W := ownK vars bases kn k) (b := looK lo kn k) (f := (labN vars into bases lo kn of k).ob) (m := (labN vars into bases lo kn of k).nx) x with h1 | ⟨h0, h1, _⟩
      · exact .inl (h1.symm.trans hx)
      · have h2 : some (labN vars into bases lo kn of k).nx = some q := h1.symm.trans hx
        injection h2 with h2
        exact .inr ⟨h0, h2.symm⟩
    -- at most one is new
    have one : ∀ x, (labN vars into bases lo kn of k).ob x = none → (labN vars into bases lo kn of (k + 1)).ob x = some q → ownK vars bases kn k ≠ [] ∧ (ownK vars bases kn k)[0]! = x := fun x h0 hx => by
      have hx : (labelF (seenK into kn of (labN vars into bases lo kn of k).lab k) (ownK vars bases kn k) (looK lo kn k) (labN vars into bases lo kn of k).ob (labN vars into bases lo kn of k).nx).2.2 x = some q := hx
      unfold labelF at hx
      split at hx
      · simp only at hx; rw [h0] at hx; cases hx
      · generalize seenK into kn of (labN vars into bases lo kn of k).lab k = S at hx
        generalize ownK vars bases kn k = W at hx ⊢
        cases S with
        | cons y r => simp only [labelO] at hx; rw [h0] at hx; cases hx
        | nil =>
          cases W with
          | nil => simp only [labelO] at hx; rw [h0] at hx; cases hx
          | cons a r =>
            refine ⟨by simp, ?_⟩
            cases hq : (labN vars into bases lo kn of k).ob a with
            | some q2 => simp only [labelO, hq] at hx; rw [h0] at hx; cases hx
            | none =>
              simp only [labelO, hq] at hx
              unfold putN at hx
              by_cases e : x = a
              · exact e.symm
              · rw [if_neg e, h0] at hx; cases hx
    rcases key o ho with h1 | ⟨h1, e1⟩
    · rcases key p hp with h2 | ⟨h2, e2⟩
      · exact ob_inj hG hK k (by omega) o p q h1 h2
      · have := hLO.ob o q h1; omega
    · rcases key p hp with h2 | ⟨h2, e2⟩
      · have := hLO.ob p q h2; omega
      · rw [← (one o h1 ho).2, ← (one p h2 hp).2]
/-- A knot of one node. -/
structure One (into : List (List Int)) (kn : List (List Nat)) (of : Nat → Nat) (v : Nat) : Prop where
  lt : v < into.length
  kn : kn[of v]! = [v]
theorem KnOk.single (hK : KnOk into kn of) (ha : ∀ u v, u < into.length → v < into.length → Rg into u v → Rg into v u → u = v) {v : Nat} (hv : v < into.length) : One into kn of v := by
  obtain ⟨h1, h2⟩ := hK.at_ v hv
  obtain ⟨_, h4, h5⟩ := hK.kn _ h1
  refine ⟨hv, rise_eq h4 (by simp) fun x => ?_⟩
  constructor
  · intro hx
    obtain ⟨h6, h7⟩ := h5 x hx
    have := (hK.scc x v h6 hv).1 h7
    rw [ha x v h6 hv this.1 this.2]
    simp
  · intro hx
    simp at hx
    rw [hx]
    exact h2
section
variable {v : Nat}
abbrev lv (vars : Nat) (into bases : List (List Int)) (lo : List Bool) (kn : List (List Nat)) (of : Nat → Nat) (v : Nat) : Int := Lf vars into bases lo kn of (of v)
theorem One.own (h : One into kn of v) (hv : v < vars) (y : Int) : y ∈ ownK vars bases kn (of v) ↔ y ∈ bases[v]! := by
  rw [mem_ownK, h.kn]
  simp [hv]
theorem One.loo (h : One into kn of v) : looK lo kn (of v) = lo[v]! := by
  have := looK_iff (lo := lo) (kn := kn) (k := of v)
  rw [h.kn] at this
  cases hb : looK lo kn (of v) with
  | true =>
    have := this.1 hb
    simpa using this
  | false =>
    cases hb2 : lo[v]! with
    | false => rfl
    | true => exact absurd (this.2 ⟨v, by simp, hb2⟩) (by rw [hb]; simp)
theorem One.seen (hG : GOk vars into bases lo) (hK : KnOk into kn of) (h : One into kn of v) (y : Int) : y ∈ seenK into kn of (labN vars into bases lo kn of (of v)).lab (of v) ↔ ∃ x ∈ into[v]!, of x.toNat ≠ of v ∧ lv vars into bases lo kn of x.toNat ≠ -1 ∧ y = lv vars into bases lo kn of x.toNat := by
  have hk := (hK.at_ v h.lt).1
  rw [mem_seenK, h.kn]
  have hd := hK.down hG.ri hk (v := v) (by rw [h.kn]; simp)
  constructor
  · rintro ⟨u, hu, x, hx, h1, h2, h3⟩
    simp at hu
    subst hu
    have e := lab_fin (vars := vars) (into := into) (bases := bases) (lo := lo) (kn := kn) (of := of) (Nat.lt_of_le_of_ne (hd.2 x hx) h1) (Nat.le_of_lt hk)
    rw [e] at h2 h3
    exact ⟨x, hx, h1, h2, h3⟩
  · rintro ⟨x, hx, h1, h2, h3⟩
    have e := lab_fin (vars := vars) (into := into) (bases := bases) (lo := lo) (kn := kn) (of := of) (Nat.lt_of_le_of_ne (hd.2 x hx) h1) (Nat.le_of_lt hk)
    exact ⟨v, by simp, x, hx, h1, by rw [e]; exact h2, by rw [e]; exact h3⟩
/-- One object alone. -/
theorem lv_own (hG : GOk vars into bases lo) (hK : KnOk into kn of) (h : One into kn of v) (hv : v < vars) {o : Int} (hi : into[v]! = []) (hb : bases[v]! = [o]) (hl : lo[v]! = false) : ∃ q : Nat, lv vars into bases lo kn of v = (q : Int) ∧ (labN vars into bases lo kn of kn.length).ob o = some q := by
  have hk := (hK.at_ v h.lt).1
  have hS : seenK into kn of (labN vars into bases lo kn of (of v)).lab (of v) = [] := nil_of_no fun y hy => by
    obtain ⟨x, hx, _⟩ := (h.seen hG hK y).1 hy
    rw [hi] at hx
    cases hx
  have hW0 := h.own (bases := bases) hv
  rw [hb] at hW0
  have hWn : (ownK vars bases kn (of v)).Nodup := (fold_inv (p := OwnP) _ _ ⟨.nil, by simp⟩ fun S a ha hS => ownV_ok (fun v hv => hG.rb v (by rw [hG.nb]; exact hv)) hS).1
  have hW : ownK vars bases kn (of v) = [o] := by
    have hm : o ∈ ownK vars bases kn (of v) := (hW0 o).2 (by simp)
    generalize ownK vars bases kn (of v) = W at hm hW0 hWn
    cases W with
    | nil => cases hm
    | cons a r =>
      have ha := (hW0 a).1 (by simp)
      simp at ha
      subst ha
      cases r with
      | nil => rfl
      | cons b r =>
        have hb2 := (hW0 b).1 (by simp)
        simp at hb2
        subst hb2
        simp at hWn
  have hL := h.loo (lo := lo)
  rw [hl] at hL
  have e1 := Lf_eq (vars := vars) (into := into) (bases := bases) (lo := lo) (of := of) hk
  unfold labR at e1
  have e2 : (labN vars into bases lo kn of (of v + 1)).ob = (labelF (seenK into kn of (labN vars into bases lo kn of (of v)).lab (of v)) (ownK vars bases kn (of v)) (looK lo kn (of v)) (labN vars into bases lo kn of (of v)).ob (labN vars into bases lo kn of (of v)).nx).2.2 := rfl
  rw [hS, hW, hL] at e1 e2
  obtain ⟨d, hd⟩ : ∃ d, kn.length = of v + 1 + d := ⟨kn.length - (of v + 1), by omega⟩
  have e3 : labelF [] [o] false (labN vars into bases lo kn of (of v)).ob (labN vars into bases lo kn of (of v)).nx = labelO [] [o] (labN vars into bases lo kn of (of v)).ob (labN vars into bases lo kn of (of v)).nx := if_neg (by simp)
  rw [e3] at e1 e2
  cases hq : (labN vars into bases lo kn of (of v)).ob o with
  | some q =>
    simp only [labelO, hq] at e1 e2
    refine ⟨q, e1, ?_⟩
    rw [hd]
    refine ob_keep ?_ d
    rw [e2]
    exact hq
  | none =>
    simp only [labelO, hq] at e1 e2
    refine ⟨_, e1, ?_⟩
    rw [hd]
    refine ob_keep ?_ d
    rw [e2]
    simp [putN]
/-- It gets of one node alone. -/
theorem lv_copy (hG : GOk vars into bases lo) (hK : KnOk into kn of) (h : One into kn of v) (hv : v < vars) {x : Nat} (hi : into[v]! = [(x : Int)]) (hb : bases[v]! = []) (hl : lo[v]! = false) (hne : of x ≠ of v) (hx : lv vars into bases lo kn of x ≠ -1) : lv vars into bases lo kn of v = lv vars into bases lo kn of x := by
  have hk := (hK.at_ v h.lt).1
  have hS0 := h.seen hG hK
  have hSn := (seenK_ok hG hK hk (labN_ok hG hK (of v) (Nat.le_of_lt hk))).1
  have hS : seenK into kn of (labN vars into bases lo kn of (of v)).lab (of v) = [lv vars into bases lo kn of x] := by
    have hm := (hS0 (lv vars into bases lo kn of x)).2 ⟨(x : Int), by rw [hi]; simp, by simpa using hne, by simpa using hx, by simp⟩
    have hall : ∀ y ∈ seenK into kn of (labN vars into bases lo kn of (of v)).lab (of v), y = lv vars into bases lo kn of x := fun y hy => by
      obtain ⟨z, hz, _, _, e⟩ := (hS0 y).1 hy
      rw [hi] at hz
      simp at hz
      rw [e, hz]
      simp
    generalize seenK into kn of (labN vars into bases lo kn of (of v)).lab (of v) = S at hm hall hSn
    cases S with
    | nil => cases hm
    | cons a r =>
      have ha := hall a (by simp)
      subst ha
      cases r with
      | nil => rfl
      | cons b r =>
        have hb2 := hall b (by simp)
        subst hb2
        simp at hSn
  have hW : ownK vars bases kn (of v) = [] := nil_of_no fun y hy => by
    have := (h.own hv y).1 hy
    rw [hb] at this
    cases this
  have hL := h.loo (lo := lo)
  rw [hl] at hL
  have e1 := Lf_eq (vars := vars) (into := into) (bases := bases) (lo := lo) (of := of) hk
  unfold labR at e1
  rw [hS, hW, hL] at e1
  have e3 : labelF [lv vars into bases lo kn of x] [] false (labN vars into bases lo kn of (of v)).ob (labN vars into bases lo kn of (of v)).nx = labelO [lv vars into bases lo kn of x] [] (labN vars into bases lo kn of (of v)).ob (labN vars into bases lo kn of (of v)).nx := if_neg (by simp)
  rw [e3] at e1
  exact e1
/-- Loose, or of two nodes' labels: a number that nothing ahead has. -/
theorem lv_fresh (hK : KnOk into kn of) (h : One into kn of v) (hc : looK lo kn (of v) = true ∨ 1 < (seenK into kn of (labN vars into bases lo kn of (of v)).lab (of v)).length) : lv vars into bases lo kn of v = ((labN vars into bases lo kn of (of v)).nx : Int) ∧ (labN vars into bases lo kn of (of v + 1)).nx = (labN vars into bases lo kn of (of v)).nx + 1 ∧ (labN vars into bases lo kn of (of v + 1)).ob = (labN vars into bases lo kn of (of v)).ob := by
  have hk := (hK.at_ v h.lt).1
  have e1 := Lf_eq (vars := vars) (into := into) (bases := bases) (lo := lo) (of := of) hk
  unfold labR at e1
  have e3 : labelF (seenK into kn of (labN vars into bases lo kn of (of v)).lab (of v)) (ownK vars bases kn (of v)) (looK lo kn (of v)) (labN vars into bases lo kn of (of v)).ob (labN vars into bases lo kn of (of v)).nx = (((labN vars into bases lo kn of (of v)).nx : Int), (labN vars into bases lo kn of (of v)).nx + 1, (labN vars into bases lo kn of (of v)).ob) := if_pos (by
    rcases hc with h1 | h1
    · exact .inl h1
    · exact .inr (.inr (.inl h1)))
  rw [e3] at e1
  refine ⟨e1, ?_, ?_⟩
  · show (labelF _ _ _ _ _).2.1 = _
    rw [e3]
  · show (labelF _ _ _ _ _).2.2 = _
    rw [e3]
end
end
end Go.Proofs.Ytomldckplkecbaa
