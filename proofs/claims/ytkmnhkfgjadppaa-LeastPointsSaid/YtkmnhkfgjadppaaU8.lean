/- When rows are one; the reference looks at two rows of numbers. -/
import Derived.Test.YtkmnhkfgjadppaaE9
import Derived.Test.YtkmnhkfgjadppaaU0
namespace Go.Proofs.Ytkmnhkfgjadppaa
open Go.RowKit
set_option linter.unusedVariables false
set_option linter.unusedSimpArgs false
set_option maxRecDepth 100000
def sameL {α : Type} [Inhabited α] (f : α → α → Bool) (xs ys : List α) : Bool := decide (xs.length = ys.length) && (List.range xs.length).all fun i => f xs[i]! ys[i]!
section
variable {α : Type} [Inhabited α] {f : α → α → Bool} {xs ys : List α}
theorem sameL_len (h : ¬ xs.length = ys.length) : sameL f xs ys = false := by simp [sameL, h]
theorem sameL_at {i : Nat} (hi : i < xs.length) (h : f xs[i]! ys[i]! = false) : sameL f xs ys = false := by
  have : (List.range xs.length).all (fun i => f xs[i]! ys[i]!) = false := by
    rw [List.all_eq_false]
    exact ⟨i, by simpa using hi, by rw [h]; simp⟩
  rw [sameL, this]
  simp
theorem sameL_all (hl : xs.length = ys.length) (h : ∀ i, i < xs.length → f xs[i]! ys[i]! = true) : sameL f xs ys = true := by
  have : (List.range xs.length).all (fun i => f xs[i]! ys[i]!) = true := by
    rw [List.all_eq_true]
    intro i hi
    exact h i (by simpa using hi)
  rw [sameL, this]
  simp [hl]
theorem sameL_refl (h : ∀ x, f x x = true) : sameL f xs xs = true := sameL_all rfl fun i _ => h _
end
def ieq (a b : Int) : Bool := decide (a = b)
def sameI (xs ys : List Int) : Bool := sameL ieq xs ys
def sameCon (x y : Con) : Bool := decide (x.k = y.k) && decide (x.a = y.a) && decide (x.b = y.b) && sameI x.args y.args
def sameCell (x y : Cell) : Bool := (x.fn == y.fn) && decide (x.v = y.v) && sameI x.args y.args
def sameSys (s t : Sys) : Bool := decide (s.vars = t.vars) && sameL sameCon s.cons t.cons && sameL sameCell s.cells t.cells
theorem sameI_refl (xs : List Int) : sameI xs xs = true := sameL_refl fun x => by simp [ieq]
theorem sameCon_refl (x : Con) : sameCon x x = true := by simp [sameCon, sameI_refl]
theorem sameCell_refl (x : Cell) : sameCell x x = true := by simp [sameCell, sameI_refl]
theorem sameSys_refl (s : Sys) : sameSys s s = true := by
  simp [sameSys, sameL_refl sameCon_refl, sameL_refl sameCell_refl]
theorem refSameInts (xs ys : List Int) (A B : Option Addr) (c d : Nat) (w : World) (h1 : RI w A xs) (h2 : RI w B ys) :
    Calls Try.prog 26 #[.slice A xs.length c, .slice B ys.length d] w fun e w' => e = .returned (.bool (sameI xs ys)) ∧ Below w.heap.size w w' := by
  have hm1 := h1.1
  have hm2 := h2.1
  refine enterR (args := [.slice A xs.length c, .slice B ys.length d]) tabOk Try.func26 rfl Try.ntmps26 rfl ?_; conv => whnf
  (repeat' (first | (refine wl_add rfl rfl rfl rfl rfl rfl (by omega) (by omega) (run_l tabOk ?_); conv => whnf) | (refine wl_sub rfl rfl rfl rfl rfl rfl (by omega) (by omega) (run_l tabOk ?_); conv => whnf) | (refine wl_cvA tabOk rfl rfl rfl (by simp only [inK]; omega) rfl rfl rfl (run_l tabOk ?_); conv => whnf) | (refine wl_cvB tabOk rfl rfl rfl rfl rfl rfl (run_l tabOk ?_); conv => whnf) | (refine wl_rem rfl rfl rfl rfl rfl rfl (by omega) (by omega) (fun r hr hr0 hr1 hr2 => run_l tabOk ?_); conv => whnf) | (refine wl_quo rfl rfl rfl rfl rfl rfl (by omega) (by omega) (by simp only [inK]; omega) (run_l tabOk ?_); conv => whnf) | (refine wl_mul rfl rfl rfl rfl rfl rfl (by omega) (by omega) (run_l tabOk ?_); conv => whnf) | (refine gs_dt (by first | assumption | omega) ?_; conv => whnf) | (refine gs_df (by first | assumption | omega) ?_; conv => whnf) | (refine gs_t (by assumption) ?_; conv => whnf) | (refine gs_f (by assumption) ?_; conv => whnf) | (refine gs_d (fun hg => ?_) (fun hg => ?_) <;> conv => whnf) | (refine gs_n (fun hg => ?_) (fun hg => ?_) <;> conv => whnf) | (refine gs_nb (fun hg => ?_) (fun hg => ?_) <;> conv => whnf) | (refine gs_b (fun hg => ?_) (fun hg => ?_) <;> conv => whnf) | refine fin1 rfl rfl ?_))
  · exact ⟨retB (sameL_len (by omega)).symm, Below.refl _ _⟩
  refine lp_loop tabOk (X := Nat) (fun i => [(0, .slice A xs.length c), (1, .slice B ys.length d), (5, .int .i64 i)])
    (fun i wr => i ≤ xs.length ∧ (∀ j, j < i → ieq xs[j]! ys[j]! = true) ∧ Below w.heap.size w wr) (fun i => xs.length - i) 0 ⟨rfl, rfl, rfl, trivial⟩ ⟨by omega, by omega, Below.refl _ _⟩ ?_
  intro i G wr ⟨hi, hok, hB⟩
  conv => whnf
  by_cases hlt : i < xs.length
  · obtain ⟨x, ad, hx, rfl, f0, _⟩ := intsE (h1.up (stays_I _) hB) i hlt
    obtain ⟨y, ad2, hy, rfl, f1, _⟩ := intsE (h2.up (stays_I _) hB) i (by omega)
    (repeat' (first | (refine wl_add rfl rfl rfl rfl rfl rfl (by omega) (by omega) (run_l tabOk ?_); conv => whnf) | (refine wl_sub rfl rfl rfl rfl rfl rfl (by omega) (by omega) (run_l tabOk ?_); conv => whnf) | (refine wl_cvA tabOk rfl rfl rfl (by simp only [inK]; omega) rfl rfl rfl (run_l tabOk ?_); conv => whnf) | (refine wl_cvB tabOk rfl rfl rfl rfl rfl rfl (run_l tabOk ?_); conv => whnf) | (refine wl_rem rfl rfl rfl rfl rfl rfl (by omega) (by omega) (fun r hr hr0 hr1 hr2 => run_l tabOk ?_); conv => whnf) | (refine wl_quo rfl rfl rfl rfl rfl rfl (by omega) (by omega) (by simp only [inK]; omega) (run_l tabOk ?_); conv => whnf) | (refine wl_mul rfl rfl rfl rfl rfl rfl (by omega) (by omega) (run_l tabOk ?_); conv => whnf) | (refine gs_dt (by first | assumption | omega) ?_; conv => whnf) | (refine gs_df (by first | assumption | omega) ?_; conv => whnf) | (refine gs_t (by assumption) ?_; conv => whnf) | (refine gs_f (by assumption) ?_; conv => whnf) | (refine gs_d (fun hg => ?_) (fun hg => ?_) <;> conv => whnf) | (refine gs_n (fun hg => ?_) (fun hg => ?_) <;> conv => whnf) | (refine gs_nb (fun hg => ?_) (fun hg => ?_) <;> conv => whnf) | (refine gs_b (fun hg => ?_) (fun hg => ?_) <;> conv => whnf) | refine fin1 rfl rfl ?_))
    refine wc_qr tabOk mixed (by kernel_rfl) ?_; conv => whnf
    (repeat' (first | (refine wq_L tabOk rfl rfl rfl rfl rfl rfl f0 (run_q tabOk ?_); conv => whnf) | (refine wq_L tabOk rfl rfl rfl rfl rfl rfl f1 (run_q tabOk ?_); conv => whnf) | (refine wq_Xn tabOk 3 1 rfl rfl rfl rfl rfl rfl rfl (by omega) (run_q tabOk ?_); conv => whnf) | (refine wq_add rfl rfl rfl rfl rfl rfl (by omega) (by omega) (run_q tabOk ?_); conv => whnf) | (refine wq_sub rfl rfl rfl rfl rfl rfl (by omega) (by omega) (run_q tabOk ?_); conv => whnf) | (refine wq_cvA tabOk rfl rfl rfl (by simp only [inK]; omega) rfl rfl rfl (run_q tabOk ?_); conv => whnf) | (refine wq_cvB tabOk rfl rfl rfl rfl rfl rfl (run_q tabOk ?_); conv => whnf) | (refine wq_rem rfl rfl rfl rfl rfl rfl (by omega) (by omega) (fun r hr hr0 hr1 hr2 => run_q tabOk ?_); conv => whnf) | (refine wq_quo rfl rfl rfl rfl rfl rfl (by omega) (by omega) (by simp only [inK]; omega) (run_q tabOk ?_); conv => whnf) | (refine wq_mul rfl rfl rfl rfl rfl rfl (by omega) (by omega) (run_q tabOk ?_); conv => whnf) | (refine gs_dt (by first | assumption | omega) ?_; conv => whnf) | (refine gs_df (by first | assumption | omega) ?_; conv => whnf) | (refine gs_t (by assumption) ?_; conv => whnf) | (refine gs_f (by assumption) ?_; conv => whnf) | (refine gs_d (fun hg => ?_) (fun hg => ?_) <;> conv => whnf) | (refine gs_n (fun hg => ?_) (fun hg => ?_) <;> conv => whnf) | (refine gs_nb (fun hg => ?_) (fun hg => ?_) <;> conv => whnf) | (refine gs_b (fun hg => ?_) (fun hg => ?_) <;> conv => whnf)))
    intro w2 hB2
    conv => whnf
    (repeat' (first | (refine wl_add rfl rfl rfl rfl rfl rfl (by omega) (by omega) (run_l tabOk ?_); conv => whnf) | (refine wl_sub rfl rfl rfl rfl rfl rfl (by omega) (by omega) (run_l tabOk ?_); conv => whnf) | (refine wl_cvA tabOk rfl rfl rfl (by simp only [inK]; omega) rfl rfl rfl (run_l tabOk ?_); conv => whnf) | (refine wl_cvB tabOk rfl rfl rfl rfl rfl rfl (run_l tabOk ?_); conv => whnf) | (refine wl_rem rfl rfl rfl rfl rfl rfl (by omega) (by omega) (fun r hr hr0 hr1 hr2 => run_l tabOk ?_); conv => whnf) | (refine wl_quo rfl rfl rfl rfl rfl rfl (by omega) (by omega) (by simp only [inK]; omega) (run_l tabOk ?_); conv => whnf) | (refine wl_mul rfl rfl rfl rfl rfl rfl (by omega) (by omega) (run_l tabOk ?_); conv => whnf) | (refine gs_dt (by first | assumption | omega) ?_; conv => whnf) | (refine gs_df (by first | assumption | omega) ?_; conv => whnf) | (refine gs_t (by assumption) ?_; conv => whnf) | (refine gs_f (by assumption) ?_; conv => whnf) | (refine gs_d (fun hg => ?_) (fun hg => ?_) <;> conv => whnf) | (refine gs_n (fun hg => ?_) (fun hg => ?_) <;> conv => whnf) | (refine gs_nb (fun hg => ?_) (fun hg => ?_) <;> conv => whnf) | (refine gs_b (fun hg => ?_) (fun hg => ?_) <;> conv => whnf) | refine fin1 rfl rfl ?_))
    · exact ⟨retB (sameL_at hlt (by rw [hx.out, hy.out]; simp [ieq]; assumption)).symm, bup hB hB2⟩
    · exact ⟨i + 1, ⟨rfl, rfl, rfl, trivial⟩, ⟨by omega, all_succ hok (by rw [hx.out, hy.out]; simp [ieq]; omega), bup hB hB2⟩, by omega⟩
  · (repeat' (first | (refine wl_add rfl rfl rfl rfl rfl rfl (by omega) (by omega) (run_l tabOk ?_); conv => whnf) | (refine wl_sub rfl rfl rfl rfl rfl rfl (by omega) (by omega) (run_l tabOk ?_); conv => whnf) | (refine wl_cvA tabOk rfl rfl rfl (by simp only [inK]; omega) rfl rfl rfl (run_l tabOk ?_); conv => whnf) | (refine wl_cvB tabOk rfl rfl rfl rfl rfl rfl (run_l tabOk ?_); conv => whnf) | (refine wl_rem rfl rfl rfl rfl rfl rfl (by omega) (by omega) (fun r hr hr0 hr1 hr2 => run_l tabOk ?_); conv => whnf) | (refine wl_quo rfl rfl rfl rfl rfl rfl (by omega) (by omega) (by simp only [inK]; omega) (run_l tabOk ?_); conv => whnf) | (refine wl_mul rfl rfl rfl rfl rfl rfl (by omega) (by omega) (run_l tabOk ?_); conv => whnf) | (refine gs_dt (by first | assumption | omega) ?_; conv => whnf) | (refine gs_df (by first | assumption | omega) ?_; conv => whnf) | (refine gs_t (by assumption) ?_; conv => whnf) | (refine gs_f (by assumption) ?_; conv => whnf) | (refine gs_d (fun hg => ?_) (fun hg => ?_) <;> conv => whnf) | (refine gs_n (fun hg => ?_) (fun hg => ?_) <;> conv => whnf) | (refine gs_nb (fun hg => ?_) (fun hg => ?_) <;> conv => whnf) | (refine gs_b (fun hg => ?_) (fun hg => ?_) <;> conv => whnf) | refine fin1 rfl rfl ?_))
    exact ⟨retB (sameL_all (by omega) (all_ge hok hlt)).symm, hB⟩
end Go.Proofs.Ytkmnhkfgjadppaa
