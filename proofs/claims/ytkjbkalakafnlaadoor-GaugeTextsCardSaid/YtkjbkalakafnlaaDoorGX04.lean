/- gauge.Text, of any float. -/
import Derived.Test.YtkjbkalakafnlaaDoorFT04
import Derived.Test.YtkjbkalakafnlaaDoorNU04
namespace Go.Proofs.YtkjbkalakafnlaaDoor
open Go.RowKit
set_option linter.unusedVariables false
set_option linter.unusedSimpArgs false
set_option maxRecDepth 100000
section
variable {P : Program} {T : Nat → Option TI} {n : Nat} {Q : Post} {F : Fm} {w : World} {ops : Array Oper} {rest : List Oper} {o : Oper} {K : Fm → Prop} {C : World → Prop}
theorem wl_remr {x y : Operand} {xt yt : TypeId} {a b r : Int} (hr : r = a % b) (h0 : 0 ≤ a) (h1 : 0 < b) (hop : o.op = .binOp .rem xt x y yt) (hx : ev F x = .int .i64 a) (hy : ev F y = .int .i64 b) (hg : o.guard = none) {d : Nat} (hd : o.dst = some d) (hn : Nat.blt d n = true)
    (k : wl P n ops rest Q (upd F d (.int .i64 r)) w) : wl P n ops (o :: rest) Q F w := by
  refine wl_rem hop hx hy hg hd hn h0 h1 fun q hq _ _ _ => ?_
  rw [hq, ← hr]
  exact k
end
def textN (ng : Bool) (M : Nat) : List UInt8 := (if ng then [45] else []) ++ Lib.decDigits (M / 100) ++ [46] ++ [UInt8.ofNat (48 + M / 10 % 10)] ++ [UInt8.ofNat (48 + M % 10)]
theorem key15 : keyF 4831355200913801216 = 4831355200913801216 := by decide
theorem key15n : keyF 14054727237768577024 = -4831355200913801216 := by decide
theorem nan15 : nanB 4831355200913801216 = false := by decide
theorem nan15n : nanB 14054727237768577024 = false := by decide
theorem geq15 {x : Nat} (hx : nanB x = false) : fcmpV .geq x 4831355200913801216 = some (decide (4831355200913801216 ≤ rgB x) && !ngB x) := by
  rw [cmp_geq, hx, nan15, key15]
  congr 1
  unfold keyF
  cases ngB x <;> by_cases h : 4831355200913801216 ≤ rgB x <;> simp [h] <;> omega
theorem leq15 {x : Nat} (hx : nanB x = false) : fcmpV .leq x 14054727237768577024 = some (decide (4831355200913801216 ≤ rgB x) && ngB x) := by
  rw [cmp_leq, hx, nan15n, key15n]
  congr 1
  unfold keyF
  cases ngB x <;> by_cases h : 4831355200913801216 ≤ rgB x <;> simp [h] <;> omega
theorem gTextInf {x : Nat} (h : rgB x = 9218868437227405312) (w : World) : Calls Tryd.prog 24 #[.float .f64 x] w fun e w' => e = .returned (.string (if ngB x then ⟨#[45, 101, 110, 100, 108, 101, 115, 115]⟩ else ⟨#[101, 110, 100, 108, 101, 115, 115]⟩)) ∧ w = w' := by
  refine enterR (args := [.float .f64 x]) tabOk Tryd.func24 rfl Tryd.ntmps24 rfl ?_; conv => whnf
  have hn : nanB x = false := by unfold nanB; rw [h]; rfl
  refine wl_C fn42 (mIsNaN x w) rfl rfl rfl rfl rfl rfl rfl ?_
  rintro _ _ ⟨rfl, rfl⟩
  rw [hn]
  refine ⟨_, rfl, run_l tabOk ?_⟩
  conv => whnf
  refine wl_C fn20 (mIsInfP x w) rfl rfl rfl rfl rfl rfl rfl ?_
  rintro _ _ ⟨rfl, rfl⟩
  rw [h]
  cases hg : ngB x
  · refine ⟨_, rfl, run_l tabOk ?_⟩
    rw [show (decide (9218868437227405312 = 9218868437227405312) && !false) = true by decide]
    conv => whnf
    (repeat' (first | (refine wl_add rfl rfl rfl rfl rfl rfl (by omega) (by omega) (run_l tabOk ?_); conv => whnf) | (refine wl_sub rfl rfl rfl rfl rfl rfl (by omega) (by omega) (run_l tabOk ?_); conv => whnf) | (refine wl_cvA tabOk rfl rfl rfl (by simp only [inK]; omega) rfl rfl rfl (run_l tabOk ?_); conv => whnf) | (refine wl_cvB tabOk rfl rfl rfl rfl rfl rfl (run_l tabOk ?_); conv => whnf) | (refine wl_rem rfl rfl rfl rfl rfl rfl (by omega) (by omega) (fun r hr hr0 hr1 hr2 => run_l tabOk ?_); conv => whnf) | (refine wl_quo rfl rfl rfl rfl rfl rfl (by omega) (by omega) (by simp only [inK]; omega) (run_l tabOk ?_); conv => whnf) | (refine wl_mul rfl rfl rfl rfl rfl rfl (by omega) (by omega) (run_l tabOk ?_); conv => whnf) | (refine gs_dt (by first | assumption | omega) ?_; conv => whnf) | (refine gs_df (by first | assumption | omega) ?_; conv => whnf) | (refine gs_t (by assumption) ?_; conv => whnf) | (refine gs_f (by assumption) ?_; conv => whnf) | (refine gs_d (fun hg => ?_) (fun hg => ?_) <;> conv => whnf) | (refine gs_n (fun hg => ?_) (fun hg => ?_) <;> conv => whnf) | (refine gs_nb (fun hg => ?_) (fun hg => ?_) <;> conv => whnf) | (refine gs_b (fun hg => ?_) (fun hg => ?_) <;> conv => whnf) | refine fin1 rfl rfl ?_))
    exact ⟨rfl, rfl⟩
  · refine ⟨_, rfl, run_l tabOk ?_⟩
    rw [show (decide (9218868437227405312 = 9218868437227405312) && !true) = false by decide]
    conv => whnf
    refine wl_C fn20 (mIsInfN x w) rfl rfl rfl rfl rfl rfl rfl ?_
    rintro _ _ ⟨rfl, rfl⟩
    rw [h, hg]
    refine ⟨_, rfl, run_l tabOk ?_⟩
    rw [show (decide (9218868437227405312 = 9218868437227405312) && true) = true by decide]
    conv => whnf
    (repeat' (first | (refine wl_add rfl rfl rfl rfl rfl rfl (by omega) (by omega) (run_l tabOk ?_); conv => whnf) | (refine wl_sub rfl rfl rfl rfl rfl rfl (by omega) (by omega) (run_l tabOk ?_); conv => whnf) | (refine wl_cvA tabOk rfl rfl rfl (by simp only [inK]; omega) rfl rfl rfl (run_l tabOk ?_); conv => whnf) | (refine wl_cvB tabOk rfl rfl rfl rfl rfl rfl (run_l tabOk ?_); conv => whnf) | (refine wl_rem rfl rfl rfl rfl rfl rfl (by omega) (by omega) (fun r hr hr0 hr1 hr2 => run_l tabOk ?_); conv => whnf) | (refine wl_quo rfl rfl rfl rfl rfl rfl (by omega) (by omega) (by simp only [inK]; omega) (run_l tabOk ?_); conv => whnf) | (refine wl_mul rfl rfl rfl rfl rfl rfl (by omega) (by omega) (run_l tabOk ?_); conv => whnf) | (refine gs_dt (by first | assumption | omega) ?_; conv => whnf) | (refine gs_df (by first | assumption | omega) ?_; conv => whnf) | (refine gs_t (by assumption) ?_; conv => whnf) | (refine gs_f (by assumption) ?_; conv => whnf) | (refine gs_d (fun hg => ?_) (fun hg => ?_) <;> conv => whnf) | (refine gs_n (fun hg => ?_) (fun hg => ?_) <;> conv => whnf) | (refine gs_nb (fun hg => ?_) (fun hg => ?_) <;> conv => whnf) | (refine gs_b (fun hg => ?_) (fun hg => ?_) <;> conv => whnf) | refine fin1 rfl rfl ?_))
    exact ⟨rfl, rfl⟩
theorem gTextGreat {x : Nat} (h1 : 4831355200913801216 ≤ rgB x) (h2 : rgB x < 9218868437227405312) (w : World) : Calls Tryd.prog 24 #[.float .f64 x] w fun e w' => e = .returned (.string ⟨#[103, 114, 101, 97, 116]⟩) ∧ w = w' := by
  refine enterR (args := [.float .f64 x]) tabOk Tryd.func24 rfl Tryd.ntmps24 rfl ?_; conv => whnf
  have hn : nanB x = false := by unfold nanB; simp; omega
  refine wl_C fn42 (mIsNaN x w) rfl rfl rfl rfl rfl rfl rfl ?_
  rintro _ _ ⟨rfl, rfl⟩
  rw [hn]
  refine ⟨_, rfl, run_l tabOk ?_⟩
  conv => whnf
  refine wl_C fn20 (mIsInfP x w) rfl rfl rfl rfl rfl rfl rfl ?_
  rintro _ _ ⟨rfl, rfl⟩
  rw [decide_eq_false (by omega : ¬ rgB x = 9218868437227405312), Bool.false_and]
  refine ⟨_, rfl, run_l tabOk ?_⟩
  conv => whnf
  refine wl_C fn20 (mIsInfN x w) rfl rfl rfl rfl rfl rfl rfl ?_
  rintro _ _ ⟨rfl, rfl⟩
  rw [decide_eq_false (by omega : ¬ rgB x = 9218868437227405312), Bool.false_and]
  refine ⟨_, rfl, run_l tabOk ?_⟩
  conv => whnf
  have c1 := geq15 hn
  have c2 := leq15 hn
  rw [decide_eq_true h1, Bool.true_and] at c1 c2
  cases hg : ngB x <;> rw [hg] at c1 c2
  · (repeat' (first | (refine wl_fcmp c1 rfl rfl rfl rfl rfl rfl (run_l tabOk ?_); (conv => whnf)) | (refine wl_add rfl rfl rfl rfl rfl rfl (by omega) (by omega) (run_l tabOk ?_); conv => whnf) | (refine wl_sub rfl rfl rfl rfl rfl rfl (by omega) (by omega) (run_l tabOk ?_); conv => whnf) | (refine wl_cvA tabOk rfl rfl rfl (by simp only [inK]; omega) rfl rfl rfl (run_l tabOk ?_); conv => whnf) | (refine wl_cvB tabOk rfl rfl rfl rfl rfl rfl (run_l tabOk ?_); conv => whnf) | (refine wl_rem rfl rfl rfl rfl rfl rfl (by omega) (by omega) (fun r hr hr0 hr1 hr2 => run_l tabOk ?_); conv => whnf) | (refine wl_quo rfl rfl rfl rfl rfl rfl (by omega) (by omega) (by simp only [inK]; omega) (run_l tabOk ?_); conv => whnf) | (refine wl_mul rfl rfl rfl rfl rfl rfl (by omega) (by omega) (run_l tabOk ?_); conv => whnf) | (refine gs_dt (by first | assumption | omega) ?_; conv => whnf) | (refine gs_df (by first | assumption | omega) ?_; conv => whnf) | (refine gs_t (by assumption) ?_; conv => whnf) | (refine gs_f (by assumption) ?_; conv => whnf) | (refine gs_d (fun hg => ?_) (fun hg => ?_) <;> conv => whnf) | (refine gs_n (fun hg => ?_) (fun hg => ?_) <;> conv => whnf) | (refine gs_nb (fun hg => ?_) (fun hg => ?_) <;> conv => whnf) | (refine gs_b (fun hg => ?_) (fun hg => ?_) <;> conv => whnf) | refine fin1 rfl rfl ?_))
    exact ⟨rfl, rfl⟩
  · (repeat' (first | (refine wl_fcmp c1 rfl rfl rfl rfl rfl rfl (run_l tabOk ?_); (conv => whnf)) | (refine wl_fcmp c2 rfl rfl rfl rfl rfl rfl (run_l tabOk ?_); (conv => whnf)) | (refine wl_add rfl rfl rfl rfl rfl rfl (by omega) (by omega) (run_l tabOk ?_); conv => whnf) | (refine wl_sub rfl rfl rfl rfl rfl rfl (by omega) (by omega) (run_l tabOk ?_); conv => whnf) | (refine wl_cvA tabOk rfl rfl rfl (by simp only [inK]; omega) rfl rfl rfl (run_l tabOk ?_); conv => whnf) | (refine wl_cvB tabOk rfl rfl rfl rfl rfl rfl (run_l tabOk ?_); conv => whnf) | (refine wl_rem rfl rfl rfl rfl rfl rfl (by omega) (by omega) (fun r hr hr0 hr1 hr2 => run_l tabOk ?_); conv => whnf) | (refine wl_quo rfl rfl rfl rfl rfl rfl (by omega) (by omega) (by simp only [inK]; omega) (run_l tabOk ?_); conv => whnf) | (refine wl_mul rfl rfl rfl rfl rfl rfl (by omega) (by omega) (run_l tabOk ?_); conv => whnf) | (refine gs_dt (by first | assumption | omega) ?_; conv => whnf) | (refine gs_df (by first | assumption | omega) ?_; conv => whnf) | (refine gs_t (by assumption) ?_; conv => whnf) | (refine gs_f (by assumption) ?_; conv => whnf) | (refine gs_d (fun hg => ?_) (fun hg => ?_) <;> conv => whnf) | (refine gs_n (fun hg => ?_) (fun hg => ?_) <;> conv => whnf) | (refine gs_nb (fun hg => ?_) (fun hg => ?_) <;> conv => whnf) | (refine gs_b (fun hg => ?_) (fun hg => ?_) <;> conv => whnf) | refine fin1 rfl rfl ?_))
    exact ⟨rfl, rfl⟩
set_option maxHeartbeats 4000000 in
theorem gTextNum {x r M : Nat} (h1 : rgB x < 4831355200913801216) (hr : r ≤ 4863887597560135680) (hmul : floatBits .mul .f64 x 4636737291354636288 = some (wordB (ngB x) r)) (hM : M ≤ 144115188075855872)
    (hint : floatToIntVal .f64 (truncF (wordB (ngB x) r)) .i64 = some (if ngB x then -(M : Int) else (M : Int))) (w : World) (hT : Tab10 w) :
    Calls Tryd.prog 24 #[.float .f64 x] w fun e w' => e = .returned (.string (sL (textN (ngB x) M))) ∧ Below w.heap.size w w' := by
  refine enterR (args := [.float .f64 x]) tabOk Tryd.func24 rfl Tryd.ntmps24 rfl ?_; conv => whnf
  have hn : nanB x = false := by unfold nanB; simp; omega
  refine wl_C fn42 (mIsNaN x w) rfl rfl rfl rfl rfl rfl rfl ?_
  rintro _ _ ⟨rfl, rfl⟩
  rw [hn]
  refine ⟨_, rfl, run_l tabOk ?_⟩
  conv => whnf
  refine wl_C fn20 (mIsInfP x w) rfl rfl rfl rfl rfl rfl rfl ?_
  rintro _ _ ⟨rfl, rfl⟩
  rw [decide_eq_false (by omega : ¬ rgB x = 9218868437227405312), Bool.false_and]
  refine ⟨_, rfl, run_l tabOk ?_⟩
  conv => whnf
  refine wl_C fn20 (mIsInfN x w) rfl rfl rfl rfl rfl rfl rfl ?_
  rintro _ _ ⟨rfl, rfl⟩
  rw [decide_eq_false (by omega : ¬ rgB x = 9218868437227405312), Bool.false_and]
  refine ⟨_, rfl, run_l tabOk ?_⟩
  conv => whnf
  have c1 := geq15 hn
  have c2 := leq15 hn
  rw [decide_eq_false (by omega : ¬ 4831355200913801216 ≤ rgB x), Bool.false_and] at c1 c2
  (repeat' (first | (refine wl_fcmp c1 rfl rfl rfl rfl rfl rfl (run_l tabOk ?_); (conv => whnf)) | (refine wl_fcmp c2 rfl rfl rfl rfl rfl rfl (run_l tabOk ?_); (conv => whnf)) | (refine wl_add rfl rfl rfl rfl rfl rfl (by omega) (by omega) (run_l tabOk ?_); conv => whnf) | (refine wl_sub rfl rfl rfl rfl rfl rfl (by omega) (by omega) (run_l tabOk ?_); conv => whnf) | (refine wl_cvA tabOk rfl rfl rfl (by simp only [inK]; omega) rfl rfl rfl (run_l tabOk ?_); conv => whnf) | (refine wl_cvB tabOk rfl rfl rfl rfl rfl rfl (run_l tabOk ?_); conv => whnf) | (refine wl_rem rfl rfl rfl rfl rfl rfl (by omega) (by omega) (fun r hr hr0 hr1 hr2 => run_l tabOk ?_); conv => whnf) | (refine wl_quo rfl rfl rfl rfl rfl rfl (by omega) (by omega) (by simp only [inK]; omega) (run_l tabOk ?_); conv => whnf) | (refine wl_mul rfl rfl rfl rfl rfl rfl (by omega) (by omega) (run_l tabOk ?_); conv => whnf) | (refine gs_dt (by first | assumption | omega) ?_; conv => whnf) | (refine gs_df (by first | assumption | omega) ?_; conv => whnf) | (refine gs_t (by assumption) ?_; conv => whnf) | (refine gs_f (by assumption) ?_; conv => whnf) | (refine gs_d (fun hg => ?_) (fun hg => ?_) <;> conv => whnf) | (refine gs_n (fun hg => ?_) (fun hg => ?_) <;> conv => whnf) | (refine gs_nb (fun hg => ?_) (fun hg => ?_) <;> conv => whnf) | (refine gs_b (fun hg => ?_) (fun hg => ?_) <;> conv => whnf) | refine fin1 rfl rfl ?_))
  refine wl_fop rfl rfl rfl rfl rfl rfl rfl ?_
  intro y w1 hy hB1
  rw [hmul] at hy
  obtain rfl : y = wordB (ngB x) r := hy
  have hny : nanB (wordB (ngB x) r) = false := by unfold nanB; rw [wordB_rg (by omega)]; simp; omega
  refine run_l tabOk ?_
  conv => whnf
  refine wl_C fn43 (mTrunc hny w1) rfl rfl rfl rfl rfl rfl rfl ?_
  rintro _ _ ⟨rfl, rfl⟩
  refine ⟨_, rfl, run_l tabOk ?_⟩
  conv => whnf
  generalize hv : (if ngB x = true then -(M : Int) else (M : Int)) = v at hint
  refine wl_fint tabOk .i64 hint rfl rfl rfl rfl rfl rfl ?_
  refine run_l tabOk ?_
  conv => whnf
  (repeat' (first | (refine wl_add rfl rfl rfl rfl rfl rfl (by omega) (by omega) (run_l tabOk ?_); conv => whnf) | (refine wl_sub rfl rfl rfl rfl rfl rfl (by omega) (by omega) (run_l tabOk ?_); conv => whnf) | (refine wl_cvA tabOk rfl rfl rfl (by simp only [inK]; omega) rfl rfl rfl (run_l tabOk ?_); conv => whnf) | (refine wl_cvB tabOk rfl rfl rfl rfl rfl rfl (run_l tabOk ?_); conv => whnf) | (refine wl_rem rfl rfl rfl rfl rfl rfl (by omega) (by omega) (fun r hr hr0 hr1 hr2 => run_l tabOk ?_); conv => whnf) | (refine wl_quo rfl rfl rfl rfl rfl rfl (by omega) (by omega) (by simp only [inK]; omega) (run_l tabOk ?_); conv => whnf) | (refine wl_mul rfl rfl rfl rfl rfl rfl (by omega) (by omega) (run_l tabOk ?_); conv => whnf) | (refine gs_dt (by first | assumption | omega) ?_; conv => whnf) | (refine gs_df (by first | assumption | omega) ?_; conv => whnf) | (refine gs_t (by assumption) ?_; conv => whnf) | (refine gs_f (by assumption) ?_; conv => whnf) | (refine gs_d (fun hg => ?_) (fun hg => ?_) <;> conv => whnf) | (refine gs_n (fun hg => ?_) (fun hg => ?_) <;> conv => whnf) | (refine gs_nb (fun hg => ?_) (fun hg => ?_) <;> conv => whnf) | (refine gs_b (fun hg => ?_) (fun hg => ?_) <;> conv => whnf) | refine fin1 rfl rfl ?_))
  refine wl_C fn25 (mSignbit x w1) rfl rfl rfl rfl rfl rfl rfl ?_
  rintro _ _ ⟨rfl, rfl⟩
  have hdl := dec_len 18 (M / 100) (by omega)
  have hT1 := hT.up hB1
  have hcF : ∀ w, Tab10 w → Calls Tryd.prog 44 #[.int .i64 ((M / 100 : Nat) : Int), .int .i64 10] w fun e w' => e = .returned (.string (sL (Lib.decDigits (M / 100)))) ∧ Below w.heap.size w w' := fun w h => fFormatN (M / 100) (by omega) w h
  cases hg : ngB x
  · rw [hg] at hv
    simp at hv
    subst hv
    refine ⟨_, rfl, run_l tabOk ?_⟩
    conv => whnf
    (repeat' (first | ((refine wl_C fn44 (hcF _ hT1) rfl rfl rfl rfl rfl rfl rfl ?_); rintro _ w2 ⟨rfl, hB2⟩; refine ⟨_, rfl, run_l tabOk ?_⟩; (conv => whnf)) | ((refine wl_C fn44 (fFormat (M / 10 % 10) (by omega) _) rfl rfl rfl rfl rfl rfl rfl ?_); rintro _ _ ⟨rfl, rfl⟩; refine ⟨_, rfl, run_l tabOk ?_⟩; (conv => whnf)) | ((refine wl_C fn44 (fFormat (M % 10) (by omega) _) rfl rfl rfl rfl rfl rfl rfl ?_); rintro _ _ ⟨rfl, rfl⟩; refine ⟨_, rfl, run_l tabOk ?_⟩; (conv => whnf)) | (refine wl_sadd (sL_add _ _) (by rw [sL_size, sL_size]; simp; omega) rfl rfl rfl rfl rfl rfl (run_l tabOk ?_); (conv => whnf)) | (refine wl_remr (r := ((M / 10 % 10 : Nat) : Int)) (by omega) (by omega) (by omega) rfl rfl rfl rfl rfl rfl (run_l tabOk ?_); (conv => whnf)) | (refine wl_remr (r := ((M % 10 : Nat) : Int)) (by omega) (by omega) (by omega) rfl rfl rfl rfl rfl rfl (run_l tabOk ?_); (conv => whnf)) | (refine wl_add rfl rfl rfl rfl rfl rfl (by omega) (by omega) (run_l tabOk ?_); conv => whnf) | (refine wl_sub rfl rfl rfl rfl rfl rfl (by omega) (by omega) (run_l tabOk ?_); conv => whnf) | (refine wl_cvA tabOk rfl rfl rfl (by simp only [inK]; omega) rfl rfl rfl (run_l tabOk ?_); conv => whnf) | (refine wl_cvB tabOk rfl rfl rfl rfl rfl rfl (run_l tabOk ?_); conv => whnf) | (refine wl_rem rfl rfl rfl rfl rfl rfl (by omega) (by omega) (fun r hr hr0 hr1 hr2 => run_l tabOk ?_); conv => whnf) | (refine wl_quo rfl rfl rfl rfl rfl rfl (by omega) (by omega) (by simp only [inK]; omega) (run_l tabOk ?_); conv => whnf) | (refine wl_mul rfl rfl rfl rfl rfl rfl (by omega) (by omega) (run_l tabOk ?_); conv => whnf) | (refine gs_dt (by first | assumption | omega) ?_; conv => whnf) | (refine gs_df (by first | assumption | omega) ?_; conv => whnf) | (refine gs_t (by assumption) ?_; conv => whnf) | (refine gs_f (by assumption) ?_; conv => whnf) | (refine gs_d (fun hg => ?_) (fun hg => ?_) <;> conv => whnf) | (refine gs_n (fun hg => ?_) (fun hg => ?_) <;> conv => whnf) | (refine gs_nb (fun hg => ?_) (fun hg => ?_) <;> conv => whnf) | (refine gs_b (fun hg => ?_) (fun hg => ?_) <;> conv => whnf) | refine fin1 rfl rfl ?_))
    exact ⟨rfl, bup hB1 hB2⟩
  · rw [hg] at hv
    simp at hv
    subst hv
    refine ⟨_, rfl, run_l tabOk ?_⟩
    conv => whnf
    have hw : IntKind.i64.wrap (0 - -(M : Int)) = (M : Int) := by rw [IntKind.wrap_i64]; omega
    rw [hw]
    (repeat' (first | ((refine wl_C fn44 (hcF _ hT1) rfl rfl rfl rfl rfl rfl rfl ?_); rintro _ w2 ⟨rfl, hB2⟩; refine ⟨_, rfl, run_l tabOk ?_⟩; (conv => whnf)) | ((refine wl_C fn44 (fFormat (M / 10 % 10) (by omega) _) rfl rfl rfl rfl rfl rfl rfl ?_); rintro _ _ ⟨rfl, rfl⟩; refine ⟨_, rfl, run_l tabOk ?_⟩; (conv => whnf)) | ((refine wl_C fn44 (fFormat (M % 10) (by omega) _) rfl rfl rfl rfl rfl rfl rfl ?_); rintro _ _ ⟨rfl, rfl⟩; refine ⟨_, rfl, run_l tabOk ?_⟩; (conv => whnf)) | (refine wl_sadd (sL_add _ _) (by rw [sL_size, sL_size]; simp; omega) rfl rfl rfl rfl rfl rfl (run_l tabOk ?_); (conv => whnf)) | (refine wl_remr (r := ((M / 10 % 10 : Nat) : Int)) (by omega) (by omega) (by omega) rfl rfl rfl rfl rfl rfl (run_l tabOk ?_); (conv => whnf)) | (refine wl_remr (r := ((M % 10 : Nat) : Int)) (by omega) (by omega) (by omega) rfl rfl rfl rfl rfl rfl (run_l tabOk ?_); (conv => whnf)) | (refine wl_add rfl rfl rfl rfl rfl rfl (by omega) (by omega) (run_l tabOk ?_); conv => whnf) | (refine wl_sub rfl rfl rfl rfl rfl rfl (by omega) (by omega) (run_l tabOk ?_); conv => whnf) | (refine wl_cvA tabOk rfl rfl rfl (by simp only [inK]; omega) rfl rfl rfl (run_l tabOk ?_); conv => whnf) | (refine wl_cvB tabOk rfl rfl rfl rfl rfl rfl (run_l tabOk ?_); conv => whnf) | (refine wl_rem rfl rfl rfl rfl rfl rfl (by omega) (by omega) (fun r hr hr0 hr1 hr2 => run_l tabOk ?_); conv => whnf) | (refine wl_quo rfl rfl rfl rfl rfl rfl (by omega) (by omega) (by simp only [inK]; omega) (run_l tabOk ?_); conv => whnf) | (refine wl_mul rfl rfl rfl rfl rfl rfl (by omega) (by omega) (run_l tabOk ?_); conv => whnf) | (refine gs_dt (by first | assumption | omega) ?_; conv => whnf) | (refine gs_df (by first | assumption | omega) ?_; conv => whnf) | (refine gs_t (by assumption) ?_; conv => whnf) | (refine gs_f (by assumption) ?_; conv => whnf) | (refine gs_d (fun hg => ?_) (fun hg => ?_) <;> conv => whnf) | (refine gs_n (fun hg => ?_) (fun hg => ?_) <;> conv => whnf) | (refine gs_nb (fun hg => ?_) (fun hg => ?_) <;> conv => whnf) | (refine gs_b (fun hg => ?_) (fun hg => ?_) <;> conv => whnf) | refine fin1 rfl rfl ?_))
    exact ⟨rfl, bup hB1 hB2⟩
end Go.Proofs.YtkjbkalakafnlaaDoor
