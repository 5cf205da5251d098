/- gauge.Share, gauge.Mean, least.Look. -/
import Derived.Test.YtkjbkalakafnlaaDoorZ15
namespace Go.Proofs.YtkjbkalakafnlaaDoor
open Go.RowKit
set_option linter.unusedVariables false
set_option linter.unusedSimpArgs false
set_option maxRecDepth 100000
abbrev nearF (a : Int) : Nat := FloatKind.f64.nearest a
def shareO (p q : Int) : Option Nat := floatBits .quo .f64 (nearF p) (nearF q)
def sumO (xs : List Nat) : Option Nat := xs.foldl (fun o x => fop .add o (some x)) (some 0)
def meanO (xs : List Nat) : Option Nat := fop .quo (sumO xs) (some (nearF xs.length))
def dF : Dec Nat := fun _ cs x => cs = [.float .f64 x]
theorem stays_F : Stays dF := ⟨fun _ _ _ _ _ h => h⟩
theorem one_F : OneC dF := fun w cs x h u hu => by
  rw [show cs = [.float .f64 x] from h] at hu
  simp at hu
  subst hu
  rfl
theorem floatsE {w : World} {A : Option Addr} {xs : List Nat} (h : RowR 1 dF w A xs) (i : Nat) (hi : i < xs.length) : ∃ ad, A = some ad ∧ w.cell? (ad.add (i * 1)) = some (.float .f64 xs[i]!) := by
  obtain ⟨ad, cs, e, l, hc, hd⟩ := row_at h i hi
  rw [show cs = [.float .f64 xs[i]!] from hd] at hc
  exact ⟨ad, e, hc.1⟩
theorem gaugeShare (p q : Int) (w : World) : Calls Tryd.prog 18 #[.int .i64 p, .int .i64 q] w fun e w' => ∃ r, e = .returned (.float .f64 r) ∧ FRel (shareO p q) r ∧ Below w.heap.size w w' := by
  refine enterR (args := [.int .i64 p, .int .i64 q]) tabOk Tryd.func18 rfl Tryd.ntmps18 rfl ?_; conv => whnf
  refine wl_fcv tabOk rfl rfl rfl rfl rfl rfl ?_
  refine run_l tabOk ?_
  conv => whnf
  refine wl_fcv tabOk rfl rfl rfl rfl rfl rfl ?_
  refine run_l tabOk ?_
  conv => whnf
  refine wl_fop rfl rfl rfl rfl rfl rfl rfl ?_
  intro r w1 hr hB
  refine run_l tabOk ?_
  conv => whnf
  (repeat' (first | (refine wl_add rfl rfl rfl rfl rfl rfl (by omega) (by omega) (run_l tabOk ?_); conv => whnf) | (refine wl_sub rfl rfl rfl rfl rfl rfl (by omega) (by omega) (run_l tabOk ?_); conv => whnf) | (refine wl_cvA tabOk rfl rfl rfl (by simp only [inK]; omega) rfl rfl rfl (run_l tabOk ?_); conv => whnf) | (refine wl_cvB tabOk rfl rfl rfl rfl rfl rfl (run_l tabOk ?_); conv => whnf) | (refine wl_rem rfl rfl rfl rfl rfl rfl (by omega) (by omega) (fun r hr hr0 hr1 hr2 => run_l tabOk ?_); conv => whnf) | (refine wl_quo rfl rfl rfl rfl rfl rfl (by omega) (by omega) (by simp only [inK]; omega) (run_l tabOk ?_); conv => whnf) | (refine wl_mul rfl rfl rfl rfl rfl rfl (by omega) (by omega) (run_l tabOk ?_); conv => whnf) | (refine gs_dt (by first | assumption | omega) ?_; conv => whnf) | (refine gs_df (by first | assumption | omega) ?_; conv => whnf) | (refine gs_t (by assumption) ?_; conv => whnf) | (refine gs_f (by assumption) ?_; conv => whnf) | (refine gs_d (fun hg => ?_) (fun hg => ?_) <;> conv => whnf) | (refine gs_n (fun hg => ?_) (fun hg => ?_) <;> conv => whnf) | (refine gs_nb (fun hg => ?_) (fun hg => ?_) <;> conv => whnf) | (refine gs_b (fun hg => ?_) (fun hg => ?_) <;> conv => whnf) | refine fin1 rfl rfl ?_))
  exact ⟨r, rfl, hr, hB⟩
theorem gaugeMean (xs : List Nat) (A : Option Addr) (c : Nat) (w : World) (h : RowR 1 dF w A xs) : Calls Tryd.prog 27 #[.slice A xs.length c] w fun e w' => ∃ r, e = .returned (.float .f64 r) ∧ FRel (meanO xs) r ∧ Below w.heap.size w w' := by
  have hm := h.1
  refine enterR (args := [.slice A xs.length c]) tabOk Tryd.func27 rfl Tryd.ntmps27 rfl ?_; conv => whnf
  refine lp_loop tabOk (X := Nat × Nat) (fun x => [(0, .slice A xs.length c), (3, .float .f64 x.2), (6, .slice A xs.length c), (7, .int .i64 xs.length), (8, .int .i64 x.1)])
    (fun x wr => x.1 ≤ xs.length ∧ FRel (sumO (xs.take x.1)) x.2 ∧ Below w.heap.size w wr) (fun x => xs.length - x.1) (0, 0) ⟨rfl, rfl, rfl, rfl, rfl, trivial⟩ ⟨by simp, by simp [sumO, FRel], Below.refl _ _⟩ ?_
  rintro ⟨i, s⟩ G wr ⟨hi, hs, hB⟩
  simp only at hi hs
  conv => whnf
  by_cases hlt : i < xs.length
  · obtain ⟨ad, rfl, f0⟩ := floatsE (h.up stays_F hB) i hlt
    (repeat' (first | (refine wl_L tabOk rfl rfl rfl rfl rfl rfl f0 (run_l tabOk ?_); conv => whnf) | (refine wl_Xn tabOk 22 1 rfl rfl rfl rfl rfl rfl rfl (by omega) (run_l tabOk ?_); conv => whnf) | (refine wl_add rfl rfl rfl rfl rfl rfl (by omega) (by omega) (run_l tabOk ?_); conv => whnf) | (refine wl_sub rfl rfl rfl rfl rfl rfl (by omega) (by omega) (run_l tabOk ?_); conv => whnf) | (refine wl_cvA tabOk rfl rfl rfl (by simp only [inK]; omega) rfl rfl rfl (run_l tabOk ?_); conv => whnf) | (refine wl_cvB tabOk rfl rfl rfl rfl rfl rfl (run_l tabOk ?_); conv => whnf) | (refine wl_rem rfl rfl rfl rfl rfl rfl (by omega) (by omega) (fun r hr hr0 hr1 hr2 => run_l tabOk ?_); conv => whnf) | (refine wl_quo rfl rfl rfl rfl rfl rfl (by omega) (by omega) (by simp only [inK]; omega) (run_l tabOk ?_); conv => whnf) | (refine wl_mul rfl rfl rfl rfl rfl rfl (by omega) (by omega) (run_l tabOk ?_); conv => whnf) | (refine gs_dt (by first | assumption | omega) ?_; conv => whnf) | (refine gs_df (by first | assumption | omega) ?_; conv => whnf) | (refine gs_t (by assumption) ?_; conv => whnf) | (refine gs_f (by assumption) ?_; conv => whnf) | (refine gs_d (fun hg => ?_) (fun hg => ?_) <;> conv => whnf) | (refine gs_n (fun hg => ?_) (fun hg => ?_) <;> conv => whnf) | (refine gs_nb (fun hg => ?_) (fun hg => ?_) <;> conv => whnf) | (refine gs_b (fun hg => ?_) (fun hg => ?_) <;> conv => whnf) | refine fin1 rfl rfl ?_))
    refine wl_fop rfl rfl rfl rfl rfl rfl rfl ?_
    intro r w1 hr hB1
    refine run_l tabOk ?_
    conv => whnf
    (repeat' (first | (refine wl_add rfl rfl rfl rfl rfl rfl (by omega) (by omega) (run_l tabOk ?_); conv => whnf) | (refine wl_sub rfl rfl rfl rfl rfl rfl (by omega) (by omega) (run_l tabOk ?_); conv => whnf) | (refine wl_cvA tabOk rfl rfl rfl (by simp only [inK]; omega) rfl rfl rfl (run_l tabOk ?_); conv => whnf) | (refine wl_cvB tabOk rfl rfl rfl rfl rfl rfl (run_l tabOk ?_); conv => whnf) | (refine wl_rem rfl rfl rfl rfl rfl rfl (by omega) (by omega) (fun r hr hr0 hr1 hr2 => run_l tabOk ?_); conv => whnf) | (refine wl_quo rfl rfl rfl rfl rfl rfl (by omega) (by omega) (by simp only [inK]; omega) (run_l tabOk ?_); conv => whnf) | (refine wl_mul rfl rfl rfl rfl rfl rfl (by omega) (by omega) (run_l tabOk ?_); conv => whnf) | (refine gs_dt (by first | assumption | omega) ?_; conv => whnf) | (refine gs_df (by first | assumption | omega) ?_; conv => whnf) | (refine gs_t (by assumption) ?_; conv => whnf) | (refine gs_f (by assumption) ?_; conv => whnf) | (refine gs_d (fun hg => ?_) (fun hg => ?_) <;> conv => whnf) | (refine gs_n (fun hg => ?_) (fun hg => ?_) <;> conv => whnf) | (refine gs_nb (fun hg => ?_) (fun hg => ?_) <;> conv => whnf) | (refine gs_b (fun hg => ?_) (fun hg => ?_) <;> conv => whnf) | refine fin1 rfl rfl ?_))
    refine ⟨(i + 1, r), ⟨rfl, rfl, rfl, rfl, rfl, trivial⟩, ⟨by simp only; omega, ?_, bup hB hB1⟩, by simp only; omega⟩
    simp only [sumO]
    rw [fold_take _ _ hlt]
    exact frel_op hs rfl hr
  · (repeat' (first | (refine wl_add rfl rfl rfl rfl rfl rfl (by omega) (by omega) (run_l tabOk ?_); conv => whnf) | (refine wl_sub rfl rfl rfl rfl rfl rfl (by omega) (by omega) (run_l tabOk ?_); conv => whnf) | (refine wl_cvA tabOk rfl rfl rfl (by simp only [inK]; omega) rfl rfl rfl (run_l tabOk ?_); conv => whnf) | (refine wl_cvB tabOk rfl rfl rfl rfl rfl rfl (run_l tabOk ?_); conv => whnf) | (refine wl_rem rfl rfl rfl rfl rfl rfl (by omega) (by omega) (fun r hr hr0 hr1 hr2 => run_l tabOk ?_); conv => whnf) | (refine wl_quo rfl rfl rfl rfl rfl rfl (by omega) (by omega) (by simp only [inK]; omega) (run_l tabOk ?_); conv => whnf) | (refine wl_mul rfl rfl rfl rfl rfl rfl (by omega) (by omega) (run_l tabOk ?_); conv => whnf) | (refine gs_dt (by first | assumption | omega) ?_; conv => whnf) | (refine gs_df (by first | assumption | omega) ?_; conv => whnf) | (refine gs_t (by assumption) ?_; conv => whnf) | (refine gs_f (by assumption) ?_; conv => whnf) | (refine gs_d (fun hg => ?_) (fun hg => ?_) <;> conv => whnf) | (refine gs_n (fun hg => ?_) (fun hg => ?_) <;> conv => whnf) | (refine gs_nb (fun hg => ?_) (fun hg => ?_) <;> conv => whnf) | (refine gs_b (fun hg => ?_) (fun hg => ?_) <;> conv => whnf) | refine fin1 rfl rfl ?_))
    refine wl_fcv tabOk rfl rfl rfl rfl rfl rfl ?_
    refine run_l tabOk ?_
    conv => whnf
    refine wl_fop rfl rfl rfl rfl rfl rfl rfl ?_
    intro r w1 hr hB1
    refine run_l tabOk ?_
    conv => whnf
    (repeat' (first | (refine wl_add rfl rfl rfl rfl rfl rfl (by omega) (by omega) (run_l tabOk ?_); conv => whnf) | (refine wl_sub rfl rfl rfl rfl rfl rfl (by omega) (by omega) (run_l tabOk ?_); conv => whnf) | (refine wl_cvA tabOk rfl rfl rfl (by simp only [inK]; omega) rfl rfl rfl (run_l tabOk ?_); conv => whnf) | (refine wl_cvB tabOk rfl rfl rfl rfl rfl rfl (run_l tabOk ?_); conv => whnf) | (refine wl_rem rfl rfl rfl rfl rfl rfl (by omega) (by omega) (fun r hr hr0 hr1 hr2 => run_l tabOk ?_); conv => whnf) | (refine wl_quo rfl rfl rfl rfl rfl rfl (by omega) (by omega) (by simp only [inK]; omega) (run_l tabOk ?_); conv => whnf) | (refine wl_mul rfl rfl rfl rfl rfl rfl (by omega) (by omega) (run_l tabOk ?_); conv => whnf) | (refine gs_dt (by first | assumption | omega) ?_; conv => whnf) | (refine gs_df (by first | assumption | omega) ?_; conv => whnf) | (refine gs_t (by assumption) ?_; conv => whnf) | (refine gs_f (by assumption) ?_; conv => whnf) | (refine gs_d (fun hg => ?_) (fun hg => ?_) <;> conv => whnf) | (refine gs_n (fun hg => ?_) (fun hg => ?_) <;> conv => whnf) | (refine gs_nb (fun hg => ?_) (fun hg => ?_) <;> conv => whnf) | (refine gs_b (fun hg => ?_) (fun hg => ?_) <;> conv => whnf) | refine fin1 rfl rfl ?_))
    rw [List.take_of_length_le (by omega)] at hs
    exact ⟨r, rfl, frel_op hs rfl hr, bup hB hB1⟩
end Go.Proofs.YtkjbkalakafnlaaDoor
