/- The walks of GaugeSigns, GaugeShares. -/
import Derived.Test.YtkjbkalakafnlaaDoorGT04
import Derived.Test.YtkjbkalakafnlaaDoorEP
namespace Go.Proofs.YtkjbkalakafnlaaDoor
open Go.RowKit
set_option linter.unusedVariables false
set_option linter.unusedSimpArgs false
set_option maxRecDepth 100000
theorem floatsOfBlk {w : World} {g : Nat} {xs : List Nat} {t : TypeId} (h : w.heap[g]? = some (.cells (xs.map (Value.float .f64)).toArray t (0, 0))) (hm : xs.length ≤ 9223372036854775807) : RowR 1 dF w (some ⟨g, 0, none⟩) xs := by
  refine row_of_blk h ⟨by simp, fun i hi => ?_⟩ hm
  rw [Nat.mul_one, List.drop_eq_getElem_cons (by simpa using hi), getElem!_pos xs i hi]
  simp [dF]
theorem row_pre {w : World} {A : Option Addr} {xs : List Nat} (h : RowR 1 dF w A xs) (k : Nat) (hk : k ≤ xs.length) : RowR 1 dF w A (xs.take k) := by
  refine ⟨by have := h.1; simp; omega, fun i hi => ?_⟩
  have hi' : i < k := by simp at hi; omega
  have := h.2 i (by omega)
  rw [getElem!_pos (xs.take k) i hi, List.getElem_take]
  rwa [getElem!_pos xs i (by omega)] at this
theorem best_is {xs : List Nat} {m : Nat} {k : Int} (h : BestTo xs m k) (n : Nat) (hn : n < m) (h1 : ∀ j, j < m → standF xs[j]! ≤ standF xs[n]!) (h2 : ∀ j, j < n → standF xs[j]! < standF xs[n]!) : k = n := by
  rcases h with ⟨e, _⟩ | ⟨n', rfl, hn', h1', h2'⟩
  · omega
  · have a := h1 n' hn'
    have b := h1' n hn
    rcases Nat.lt_trichotomy n n' with h3 | h3 | h3
    · have := h2' n h3; omega
    · rw [h3]
    · have := h2 n' h3; omega
theorem gLessV (x y : Nat) (w : World) (b : Bool) (h : decide (standF x < standF y) = b) : Calls Tryd.prog 29 #[.float .f64 x, .float .f64 y] w fun e w' => e = .returned (.bool b) ∧ w = w' := by
  subst h
  exact gLess x y w
set_option maxHeartbeats 4000000 in
theorem lawGaugeSigns (n : Int) (w : World) (hn : IntKind.u8.min ≤ n ∧ n ≤ IntKind.u8.max) :
    Calls Tryd.prog 9 #[.int .u8 n] w fun e w' => e = .returned (.bool true) ∧ Below w.heap.size w w' := by
  have hn : 0 ≤ n ∧ n ≤ 255 := hn
  refine enterR (args := [.int .u8 n]) tabOk Tryd.func9 rfl Tryd.ntmps9 rfl ?_; conv => whnf
  refine wl_C fn26 (mMinus0 w) rfl rfl rfl rfl rfl rfl rfl ?_
  rintro _ _ ⟨rfl, rfl⟩
  refine ⟨_, rfl, run_l tabOk ?_⟩
  conv => whnf
  (repeat' (first | ((refine wl_C fn30 (mNaN _) rfl rfl rfl rfl rfl rfl rfl ?_); rintro _ _ ⟨rfl, rfl⟩; refine ⟨_, rfl, run_l tabOk ?_⟩; (conv => whnf)) | ((refine wl_C fn31 (mInfN _) rfl rfl rfl rfl rfl rfl rfl ?_); rintro _ _ ⟨rfl, rfl⟩; refine ⟨_, rfl, run_l tabOk ?_⟩; (conv => whnf)) | (refine wl_add rfl rfl rfl rfl rfl rfl (by omega) (by omega) (run_l tabOk ?_); conv => whnf) | (refine wl_sub rfl rfl rfl rfl rfl rfl (by omega) (by omega) (run_l tabOk ?_); conv => whnf) | (refine wl_cvA tabOk rfl rfl rfl (by simp only [inK]; omega) rfl rfl rfl (run_l tabOk ?_); conv => whnf) | (refine wl_cvB tabOk rfl rfl rfl rfl rfl rfl (run_l tabOk ?_); conv => whnf) | (refine wl_rem rfl rfl rfl rfl rfl rfl (by omega) (by omega) (fun r hr hr0 hr1 hr2 => run_l tabOk ?_); conv => whnf) | (refine wl_quo rfl rfl rfl rfl rfl rfl (by omega) (by omega) (by simp only [inK]; omega) (run_l tabOk ?_); conv => whnf) | (refine wl_mul rfl rfl rfl rfl rfl rfl (by omega) (by omega) (run_l tabOk ?_); conv => whnf) | (refine gs_dt (by first | assumption | omega) ?_; conv => whnf) | (refine gs_df (by first | assumption | omega) ?_; conv => whnf) | (refine gs_t (by assumption) ?_; conv => whnf) | (refine gs_f (by assumption) ?_; conv => whnf) | (refine gs_d (fun hg => ?_) (fun hg => ?_) <;> conv => whnf) | (refine gs_n (fun hg => ?_) (fun hg => ?_) <;> conv => whnf) | (refine gs_nb (fun hg => ?_) (fun hg => ?_) <;> conv => whnf) | (refine gs_b (fun hg => ?_) (fun hg => ?_) <;> conv => whnf) | refine fin1 rfl rfl ?_))
  refine wl_bs tabOk 22 1 rfl rfl rfl rfl rfl rfl rfl rfl rfl rfl ?_
  intro g w1 hn1
  have hrow : RowR 1 dF w1 (some ⟨g, 0, none⟩) [9223372036854775808, 0, 9221120237041090561, 18442240474082181120] := floatsOfBlk hn1.blk (by decide)
  have hB1 := hn1.below
  clear hn1
  refine run_l tabOk ?_
  conv => whnf
  (repeat' (first | (refine wl_add rfl rfl rfl rfl rfl rfl (by omega) (by omega) (run_l tabOk ?_); conv => whnf) | (refine wl_sub rfl rfl rfl rfl rfl rfl (by omega) (by omega) (run_l tabOk ?_); conv => whnf) | (refine wl_cvA tabOk rfl rfl rfl (by simp only [inK]; omega) rfl rfl rfl (run_l tabOk ?_); conv => whnf) | (refine wl_cvB tabOk rfl rfl rfl rfl rfl rfl (run_l tabOk ?_); conv => whnf) | (refine wl_rem rfl rfl rfl rfl rfl rfl (by omega) (by omega) (fun r hr hr0 hr1 hr2 => run_l tabOk ?_); conv => whnf) | (refine wl_quo rfl rfl rfl rfl rfl rfl (by omega) (by omega) (by simp only [inK]; omega) (run_l tabOk ?_); conv => whnf) | (refine wl_mul rfl rfl rfl rfl rfl rfl (by omega) (by omega) (run_l tabOk ?_); conv => whnf) | (refine gs_dt (by first | assumption | omega) ?_; conv => whnf) | (refine gs_df (by first | assumption | omega) ?_; conv => whnf) | (refine gs_t (by assumption) ?_; conv => whnf) | (refine gs_f (by assumption) ?_; conv => whnf) | (refine gs_d (fun hg => ?_) (fun hg => ?_) <;> conv => whnf) | (refine gs_n (fun hg => ?_) (fun hg => ?_) <;> conv => whnf) | (refine gs_nb (fun hg => ?_) (fun hg => ?_) <;> conv => whnf) | (refine gs_b (fun hg => ?_) (fun hg => ?_) <;> conv => whnf) | refine fin1 rfl rfl ?_))
  have hr4 : r = 0 ∨ r = 1 ∨ r = 2 ∨ r = 3 := by omega
  rcases hr4 with rfl | rfl | rfl | rfl
  all_goals
    first
    | refine wl_slHr tabOk 22 1 (hn' := 1) rfl (by omega) rfl rfl rfl rfl rfl rfl rfl ?_; have hpre := row_pre hrow 1 (by decide)
    | refine wl_slHr tabOk 22 1 (hn' := 2) rfl (by omega) rfl rfl rfl rfl rfl rfl rfl ?_; have hpre := row_pre hrow 2 (by decide)
    | refine wl_slHr tabOk 22 1 (hn' := 3) rfl (by omega) rfl rfl rfl rfl rfl rfl rfl ?_; have hpre := row_pre hrow 3 (by decide)
    | refine wl_slHr tabOk 22 1 (hn' := 4) rfl (by omega) rfl rfl rfl rfl rfl rfl rfl ?_; have hpre := row_pre hrow 4 (by decide)
    refine run_l tabOk ?_
    conv => whnf
    refine wl_C fn28 (gBest _ _ 4 w1 hpre) rfl rfl rfl rfl rfl rfl rfl ?_
    rintro _ _ ⟨k, rfl, hk, rfl⟩
    refine ⟨_, rfl, run_l tabOk ?_⟩
    conv => whnf
    have hk0 : k = if n % 4 = 0 then 0 else 1 := by
      rw [← hr]
      first
      | exact best_is hk 0 (by decide) (by decide) (by decide)
      | exact best_is hk 1 (by decide) (by decide) (by decide)
    rw [← hr] at hk0
    simp at hk0
    subst hk0
    clear hk hpre hrow
    refine wl_bs tabOk 3 1 rfl rfl rfl rfl rfl rfl rfl rfl rfl rfl ?_
    intro g2 w2 hn2
    have hb2 := hn2.blk
    have hB2 := bup hB1 hn2.below
    clear hn2
    refine run_l tabOk ?_
    conv => whnf
    refine wl_rem rfl rfl rfl rfl rfl rfl (by omega) (by omega) (fun q hq hq0 hq1 hq2 => run_l tabOk ?_)
    have hqr := hq.trans hr.symm
    subst hqr
    conv => whnf
    (repeat' (first | (refine wl_Lg tabOk hb2 rfl rfl rfl rfl rfl rfl rfl (run_l tabOk ?_); conv => whnf) | (refine wl_X tabOk 3 1 rfl rfl rfl rfl rfl rfl rfl (by omega) (by omega) (run_l tabOk ?_); conv => whnf) | ((refine wl_C fn19 (awake04 _) rfl rfl rfl rfl rfl rfl rfl ?_); rintro _ w3 ⟨rfl, hB3⟩; refine ⟨_, rfl, run_l tabOk ?_⟩; (conv => whnf)) | ((refine wl_C fn29 (gLessV 9223372036854775808 0 _ true (by decide)) rfl rfl rfl rfl rfl rfl rfl ?_); rintro _ _ ⟨rfl, rfl⟩; refine ⟨_, rfl, run_l tabOk ?_⟩; (conv => whnf)) | ((refine wl_C fn29 (gLessV 0 9223372036854775808 _ false (by decide)) rfl rfl rfl rfl rfl rfl rfl ?_); rintro _ _ ⟨rfl, rfl⟩; refine ⟨_, rfl, run_l tabOk ?_⟩; (conv => whnf)) | ((refine wl_C fn30 (mNaN _) rfl rfl rfl rfl rfl rfl rfl ?_); rintro _ _ ⟨rfl, rfl⟩; refine ⟨_, rfl, run_l tabOk ?_⟩; (conv => whnf)) | ((refine wl_C fn31 (mInfN _) rfl rfl rfl rfl rfl rfl rfl ?_); rintro _ _ ⟨rfl, rfl⟩; refine ⟨_, rfl, run_l tabOk ?_⟩; (conv => whnf)) | ((refine wl_C fn29 (gLessV 9221120237041090561 18442240474082181120 _ true (by decide)) rfl rfl rfl rfl rfl rfl rfl ?_); rintro _ _ ⟨rfl, rfl⟩; refine ⟨_, rfl, run_l tabOk ?_⟩; (conv => whnf)) | ((refine wl_C fn29 (gLessV 9221120237041090561 9221120237041090561 _ false (by decide)) rfl rfl rfl rfl rfl rfl rfl ?_); rintro _ _ ⟨rfl, rfl⟩; refine ⟨_, rfl, run_l tabOk ?_⟩; (conv => whnf)) | (refine wl_add rfl rfl rfl rfl rfl rfl (by omega) (by omega) (run_l tabOk ?_); conv => whnf) | (refine wl_sub rfl rfl rfl rfl rfl rfl (by omega) (by omega) (run_l tabOk ?_); conv => whnf) | (refine wl_cvA tabOk rfl rfl rfl (by simp only [inK]; omega) rfl rfl rfl (run_l tabOk ?_); conv => whnf) | (refine wl_cvB tabOk rfl rfl rfl rfl rfl rfl (run_l tabOk ?_); conv => whnf) | (refine wl_rem rfl rfl rfl rfl rfl rfl (by omega) (by omega) (fun r hr hr0 hr1 hr2 => run_l tabOk ?_); conv => whnf) | (refine wl_quo rfl rfl rfl rfl rfl rfl (by omega) (by omega) (by simp only [inK]; omega) (run_l tabOk ?_); conv => whnf) | (refine wl_mul rfl rfl rfl rfl rfl rfl (by omega) (by omega) (run_l tabOk ?_); conv => whnf) | (refine gs_dt (by first | assumption | omega) ?_; conv => whnf) | (refine gs_df (by first | assumption | omega) ?_; conv => whnf) | (refine gs_t (by assumption) ?_; conv => whnf) | (refine gs_f (by assumption) ?_; conv => whnf) | (refine gs_d (fun hg => ?_) (fun hg => ?_) <;> conv => whnf) | (refine gs_n (fun hg => ?_) (fun hg => ?_) <;> conv => whnf) | (refine gs_nb (fun hg => ?_) (fun hg => ?_) <;> conv => whnf) | (refine gs_b (fun hg => ?_) (fun hg => ?_) <;> conv => whnf) | refine fin1 rfl rfl ?_))
    exact ⟨rfl, bup hB2 hB3⟩
end Go.Proofs.YtkjbkalakafnlaaDoor
