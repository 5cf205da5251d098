/- The walk of PileLess. -/
import Derived.Test.YtkmnhkfgjadppaaDoorM03
namespace Go.Proofs.YtkmnhkfgjadppaaDoor
open Go.RowKit
set_option linter.unusedVariables false
set_option linter.unusedSimpArgs false
set_option maxRecDepth 100000
theorem wrapuN (a : Int) : 0 ≤ IntKind.u64.wrap a := by simp [IntKind.wrap, IntKind.bits, IntKind.signed]; omega
/-- A number that may be. -/
theorem nearC (x : Int) (w : World) : Calls Tryd.prog 22 #[.int .i64 x] w fun e w' => ∃ n : Nat, n = (IntKind.u64.wrap x % 400).toNat ∧ n < 400 ∧ e = .returned (.int .i64 n) ∧ Below w.heap.size w w' := by
  refine enterR (args := [.int .i64 x]) tabOk Tryd.func22 rfl Tryd.ntmps22 rfl ?_; conv => whnf
  have h0 := wrapuN x
  (repeat' (first | (refine wl_add rfl rfl rfl rfl rfl rfl (by omega) (by omega) (run_l tabOk ?_); conv => whnf) | (refine wl_sub rfl rfl rfl rfl rfl rfl (by omega) (by omega) (run_l tabOk ?_); conv => whnf) | (refine wl_cvA tabOk rfl rfl rfl (by simp only [inK]; omega) rfl rfl rfl (run_l tabOk ?_); conv => whnf) | (refine wl_cvB tabOk rfl rfl rfl rfl rfl rfl (run_l tabOk ?_); conv => whnf) | (refine wl_rem rfl rfl rfl rfl rfl rfl (by omega) (by omega) (fun r hr hr0 hr1 hr2 => run_l tabOk ?_); conv => whnf) | (refine wl_quo rfl rfl rfl rfl rfl rfl (by omega) (by omega) (by simp only [inK]; omega) (run_l tabOk ?_); conv => whnf) | (refine wl_mul rfl rfl rfl rfl rfl rfl (by omega) (by omega) (run_l tabOk ?_); conv => whnf) | (refine gs_dt (by first | assumption | omega) ?_; conv => whnf) | (refine gs_df (by first | assumption | omega) ?_; conv => whnf) | (refine gs_t (by assumption) ?_; conv => whnf) | (refine gs_f (by assumption) ?_; conv => whnf) | (refine gs_d (fun hg => ?_) (fun hg => ?_) <;> conv => whnf) | (refine gs_n (fun hg => ?_) (fun hg => ?_) <;> conv => whnf) | (refine gs_nb (fun hg => ?_) (fun hg => ?_) <;> conv => whnf) | (refine gs_b (fun hg => ?_) (fun hg => ?_) <;> conv => whnf) | refine fin1 rfl rfl ?_))
  refine ⟨r.toNat, by rw [hr], by omega, ?_, Below.refl _ _⟩
  rw [show ((r.toNat : Nat) : Int) = r by omega]
set_option maxHeartbeats 16000000 in
theorem lawPileLess (a : List Int) (A : Option Addr) (ca : Nat) (b : List Int) (B : Option Addr) (cb : Nat) (w : World) (hT : Tab w) (ha : RI w A a) (hac : a.length ≤ ca) (hb : RI w B b) (hbc : b.length ≤ cb) :
    Calls Tryd.prog 7 #[.slice A a.length ca, .slice B b.length cb] w fun e w' => e = .returned (.bool true) ∧ Below w.heap.size w w' := by
  have ham := ha.1
  have hbm := hb.1
  refine enterR (args := [.slice A a.length ca, .slice B b.length cb]) tabOk Tryd.func7 rfl Tryd.ntmps7 rfl ?_; conv => whnf
  refine wl_C fn11 (awake03 w hT) rfl rfl rfl rfl rfl rfl rfl ?_
  rintro _ w1 ⟨rfl, hB1⟩
  refine ⟨_, rfl, run_l tabOk ?_⟩
  conv => whnf
  by_cases hbig : 20 < a.length ∨ 20 < b.length
  · have hfin : Calls Tryd.prog 11 #[] w1 fun e w' => e = .returned (.bool true) ∧ Below w1.heap.size w1 w' := awake03 w1 (hT.up hB1)
    by_cases h1 : 20 < a.length
    · (repeat' (first | (refine wl_add rfl rfl rfl rfl rfl rfl (by omega) (by omega) (run_l tabOk ?_); conv => whnf) | (refine wl_sub rfl rfl rfl rfl rfl rfl (by omega) (by omega) (run_l tabOk ?_); conv => whnf) | (refine wl_cvA tabOk rfl rfl rfl (by simp only [inK]; omega) rfl rfl rfl (run_l tabOk ?_); conv => whnf) | (refine wl_cvB tabOk rfl rfl rfl rfl rfl rfl (run_l tabOk ?_); conv => whnf) | (refine wl_rem rfl rfl rfl rfl rfl rfl (by omega) (by omega) (fun r hr hr0 hr1 hr2 => run_l tabOk ?_); conv => whnf) | (refine wl_quo rfl rfl rfl rfl rfl rfl (by omega) (by omega) (by simp only [inK]; omega) (run_l tabOk ?_); conv => whnf) | (refine wl_mul rfl rfl rfl rfl rfl rfl (by omega) (by omega) (run_l tabOk ?_); conv => whnf) | (refine gs_dt (by first | assumption | omega) ?_; conv => whnf) | (refine gs_df (by first | assumption | omega) ?_; conv => whnf) | (refine gs_t (by assumption) ?_; conv => whnf) | (refine gs_f (by assumption) ?_; conv => whnf) | (refine gs_d (fun hg => ?_) (fun hg => ?_) <;> conv => whnf) | (refine gs_n (fun hg => ?_) (fun hg => ?_) <;> conv => whnf) | (refine gs_nb (fun hg => ?_) (fun hg => ?_) <;> conv => whnf) | (refine gs_b (fun hg => ?_) (fun hg => ?_) <;> conv => whnf) | refine fin1 rfl rfl ?_))
      refine wl_C fn11 hfin rfl rfl rfl rfl rfl rfl rfl ?_
      rintro _ w2 ⟨rfl, hB2⟩
      refine ⟨_, rfl, run_l tabOk ?_⟩
      conv => whnf
      (repeat' (first | (refine wl_add rfl rfl rfl rfl rfl rfl (by omega) (by omega) (run_l tabOk ?_); conv => whnf) | (refine wl_sub rfl rfl rfl rfl rfl rfl (by omega) (by omega) (run_l tabOk ?_); conv => whnf) | (refine wl_cvA tabOk rfl rfl rfl (by simp only [inK]; omega) rfl rfl rfl (run_l tabOk ?_); conv => whnf) | (refine wl_cvB tabOk rfl rfl rfl rfl rfl rfl (run_l tabOk ?_); conv => whnf) | (refine wl_rem rfl rfl rfl rfl rfl rfl (by omega) (by omega) (fun r hr hr0 hr1 hr2 => run_l tabOk ?_); conv => whnf) | (refine wl_quo rfl rfl rfl rfl rfl rfl (by omega) (by omega) (by simp only [inK]; omega) (run_l tabOk ?_); conv => whnf) | (refine wl_mul rfl rfl rfl rfl rfl rfl (by omega) (by omega) (run_l tabOk ?_); conv => whnf) | (refine gs_dt (by first | assumption | omega) ?_; conv => whnf) | (refine gs_df (by first | assumption | omega) ?_; conv => whnf) | (refine gs_t (by assumption) ?_; conv => whnf) | (refine gs_f (by assumption) ?_; conv => whnf) | (refine gs_d (fun hg => ?_) (fun hg => ?_) <;> conv => whnf) | (refine gs_n (fun hg => ?_) (fun hg => ?_) <;> conv => whnf) | (refine gs_nb (fun hg => ?_) (fun hg => ?_) <;> conv => whnf) | (refine gs_b (fun hg => ?_) (fun hg => ?_) <;> conv => whnf) | refine fin1 rfl rfl ?_))
      exact ⟨rfl, bup hB1 hB2⟩
    · (repeat' (first | (refine wl_add rfl rfl rfl rfl rfl rfl (by omega) (by omega) (run_l tabOk ?_); conv => whnf) | (refine wl_sub rfl rfl rfl rfl rfl rfl (by omega) (by omega) (run_l tabOk ?_); conv => whnf) | (refine wl_cvA tabOk rfl rfl rfl (by simp only [inK]; omega) rfl rfl rfl (run_l tabOk ?_); conv => whnf) | (refine wl_cvB tabOk rfl rfl rfl rfl rfl rfl (run_l tabOk ?_); conv => whnf) | (refine wl_rem rfl rfl rfl rfl rfl rfl (by omega) (by omega) (fun r hr hr0 hr1 hr2 => run_l tabOk ?_); conv => whnf) | (refine wl_quo rfl rfl rfl rfl rfl rfl (by omega) (by omega) (by simp only [inK]; omega) (run_l tabOk ?_); conv => whnf) | (refine wl_mul rfl rfl rfl rfl rfl rfl (by omega) (by omega) (run_l tabOk ?_); conv => whnf) | (refine gs_dt (by first | assumption | omega) ?_; conv => whnf) | (refine gs_df (by first | assumption | omega) ?_; conv => whnf) | (refine gs_t (by assumption) ?_; conv => whnf) | (refine gs_f (by assumption) ?_; conv => whnf) | (refine gs_d (fun hg => ?_) (fun hg => ?_) <;> conv => whnf) | (refine gs_n (fun hg => ?_) (fun hg => ?_) <;> conv => whnf) | (refine gs_nb (fun hg => ?_) (fun hg => ?_) <;> conv => whnf) | (refine gs_b (fun hg => ?_) (fun hg => ?_) <;> conv => whnf) | refine fin1 rfl rfl ?_))
      refine wl_C fn11 hfin rfl rfl rfl rfl rfl rfl rfl ?_
      rintro _ w2 ⟨rfl, hB2⟩
      refine ⟨_, rfl, run_l tabOk ?_⟩
      conv => whnf
      (repeat' (first | (refine wl_add rfl rfl rfl rfl rfl rfl (by omega) (by omega) (run_l tabOk ?_); conv => whnf) | (refine wl_sub rfl rfl rfl rfl rfl rfl (by omega) (by omega) (run_l tabOk ?_); conv => whnf) | (refine wl_cvA tabOk rfl rfl rfl (by simp only [inK]; omega) rfl rfl rfl (run_l tabOk ?_); conv => whnf) | (refine wl_cvB tabOk rfl rfl rfl rfl rfl rfl (run_l tabOk ?_); conv => whnf) | (refine wl_rem rfl rfl rfl rfl rfl rfl (by omega) (by omega) (fun r hr hr0 hr1 hr2 => run_l tabOk ?_); conv => whnf) | (refine wl_quo rfl rfl rfl rfl rfl rfl (by omega) (by omega) (by simp only [inK]; omega) (run_l tabOk ?_); conv => whnf) | (refine wl_mul rfl rfl rfl rfl rfl rfl (by omega) (by omega) (run_l tabOk ?_); conv => whnf) | (refine gs_dt (by first | assumption | omega) ?_; conv => whnf) | (refine gs_df (by first | assumption | omega) ?_; conv => whnf) | (refine gs_t (by assumption) ?_; conv => whnf) | (refine gs_f (by assumption) ?_; conv => whnf) | (refine gs_d (fun hg => ?_) (fun hg => ?_) <;> conv => whnf) | (refine gs_n (fun hg => ?_) (fun hg => ?_) <;> conv => whnf) | (refine gs_nb (fun hg => ?_) (fun hg => ?_) <;> conv => whnf) | (refine gs_b (fun hg => ?_) (fun hg => ?_) <;> conv => whnf) | refine fin1 rfl rfl ?_))
      exact ⟨rfl, bup hB1 hB2⟩
  (repeat' (first | (refine wl_add rfl rfl rfl rfl rfl rfl (by omega) (by omega) (run_l tabOk ?_); conv => whnf) | (refine wl_sub rfl rfl rfl rfl rfl rfl (by omega) (by omega) (run_l tabOk ?_); conv => whnf) | (refine wl_cvA tabOk rfl rfl rfl (by simp only [inK]; omega) rfl rfl rfl (run_l tabOk ?_); conv => whnf) | (refine wl_cvB tabOk rfl rfl rfl rfl rfl rfl (run_l tabOk ?_); conv => whnf) | (refine wl_rem rfl rfl rfl rfl rfl rfl (by omega) (by omega) (fun r hr hr0 hr1 hr2 => run_l tabOk ?_); conv => whnf) | (refine wl_quo rfl rfl rfl rfl rfl rfl (by omega) (by omega) (by simp only [inK]; omega) (run_l tabOk ?_); conv => whnf) | (refine wl_mul rfl rfl rfl rfl rfl rfl (by omega) (by omega) (run_l tabOk ?_); conv => whnf) | (refine gs_dt (by first | assumption | omega) ?_; conv => whnf) | (refine gs_df (by first | assumption | omega) ?_; conv => whnf) | (refine gs_t (by assumption) ?_; conv => whnf) | (refine gs_f (by assumption) ?_; conv => whnf) | (refine gs_d (fun hg => ?_) (fun hg => ?_) <;> conv => whnf) | (refine gs_n (fun hg => ?_) (fun hg => ?_) <;> conv => whnf) | (refine gs_nb (fun hg => ?_) (fun hg => ?_) <;> conv => whnf) | (refine gs_b (fun hg => ?_) (fun hg => ?_) <;> conv => whnf) | refine fin1 rfl rfl ?_))
  refine wl_box rfl rfl rfl rfl rfl rfl ?_
  intro gs w2 hn2
  refine run_l tabOk ?_
  conv => whnf
  (repeat' (first | (refine wl_add rfl rfl rfl rfl rfl rfl (by omega) (by omega) (run_l tabOk ?_); conv => whnf) | (refine wl_sub rfl rfl rfl rfl rfl rfl (by omega) (by omega) (run_l tabOk ?_); conv => whnf) | (refine wl_cvA tabOk rfl rfl rfl (by simp only [inK]; omega) rfl rfl rfl (run_l tabOk ?_); conv => whnf) | (refine wl_cvB tabOk rfl rfl rfl rfl rfl rfl (run_l tabOk ?_); conv => whnf) | (refine wl_rem rfl rfl rfl rfl rfl rfl (by omega) (by omega) (fun r hr hr0 hr1 hr2 => run_l tabOk ?_); conv => whnf) | (refine wl_quo rfl rfl rfl rfl rfl rfl (by omega) (by omega) (by simp only [inK]; omega) (run_l tabOk ?_); conv => whnf) | (refine wl_mul rfl rfl rfl rfl rfl rfl (by omega) (by omega) (run_l tabOk ?_); conv => whnf) | (refine gs_dt (by first | assumption | omega) ?_; conv => whnf) | (refine gs_df (by first | assumption | omega) ?_; conv => whnf) | (refine gs_t (by assumption) ?_; conv => whnf) | (refine gs_f (by assumption) ?_; conv => whnf) | (refine gs_d (fun hg => ?_) (fun hg => ?_) <;> conv => whnf) | (refine gs_n (fun hg => ?_) (fun hg => ?_) <;> conv => whnf) | (refine gs_nb (fun hg => ?_) (fun hg => ?_) <;> conv => whnf) | (refine gs_b (fun hg => ?_) (fun hg => ?_) <;> conv => whnf) | refine fin1 rfl rfl ?_))
  refine wl_box rfl rfl rfl rfl rfl rfl ?_
  intro gt w3 hn3
  refine run_l tabOk ?_
  conv => whnf
  (repeat' (first | (refine wl_add rfl rfl rfl rfl rfl rfl (by omega) (by omega) (run_l tabOk ?_); conv => whnf) | (refine wl_sub rfl rfl rfl rfl rfl rfl (by omega) (by omega) (run_l tabOk ?_); conv => whnf) | (refine wl_cvA tabOk rfl rfl rfl (by simp only [inK]; omega) rfl rfl rfl (run_l tabOk ?_); conv => whnf) | (refine wl_cvB tabOk rfl rfl rfl rfl rfl rfl (run_l tabOk ?_); conv => whnf) | (refine wl_rem rfl rfl rfl rfl rfl rfl (by omega) (by omega) (fun r hr hr0 hr1 hr2 => run_l tabOk ?_); conv => whnf) | (refine wl_quo rfl rfl rfl rfl rfl rfl (by omega) (by omega) (by simp only [inK]; omega) (run_l tabOk ?_); conv => whnf) | (refine wl_mul rfl rfl rfl rfl rfl rfl (by omega) (by omega) (run_l tabOk ?_); conv => whnf) | (refine gs_dt (by first | assumption | omega) ?_; conv => whnf) | (refine gs_df (by first | assumption | omega) ?_; conv => whnf) | (refine gs_t (by assumption) ?_; conv => whnf) | (refine gs_f (by assumption) ?_; conv => whnf) | (refine gs_d (fun hg => ?_) (fun hg => ?_) <;> conv => whnf) | (refine gs_n (fun hg => ?_) (fun hg => ?_) <;> conv => whnf) | (refine gs_nb (fun hg => ?_) (fun hg => ?_) <;> conv => whnf) | (refine gs_b (fun hg => ?_) (fun hg => ?_) <;> conv => whnf) | refine fin1 rfl rfl ?_))
  have hS2 : OwnS w1 gs w2 [] [gs] := ⟨pset_new hn2, hn2.below⟩
  have hT3 : OwnS w2 gt w3 [] [gt] := ⟨pset_new hn3, hn3.below⟩
  have dST := apart_new hS2 hT3
  have hS3 := (hS2.up hn3.below).low hB1
  have hT3 := hT3.low (bup hB1 hn2.below)
  clear hS2 hn2 hn3
  refine lp_loop tabOk (X := Nat) (fun i => [(0, .slice A a.length ca), (1, .slice B b.length cb), (5, .pointer (some ⟨gs, 0, none⟩)), (6, .pointer (some ⟨gt, 0, none⟩)), (7, .int .i64 i)])
    (fun i wr => i ≤ a.length ∧ ∃ S fs, OwnS w gs wr S fs ∧ OwnS w gt wr [] [gt] ∧ (∀ b ∈ [gt], b ∉ fs) ∧ S.length ≤ i) (fun i => a.length - i) 0 ⟨rfl, rfl, rfl, rfl, rfl, trivial⟩ ⟨by omega, [], [gs], hS3, hT3, apart_sym dST, by simp⟩ ?_
  clear hS3 hT3 dST
  intro i G wr ⟨hi, S, fs, hS, hT3, dTS, hSl⟩
  conv => whnf
  by_cases hil : i < a.length
  · obtain ⟨o, ad, ho, rfl, f0, ho1, ho2⟩ := intsE (ha.up (stays_I _) hS.below) i hil
    (repeat' (first | (refine wl_L tabOk rfl rfl rfl rfl rfl rfl f0 (run_l tabOk ?_); conv => whnf) | (refine wl_Xn tabOk 3 1 rfl rfl rfl rfl rfl rfl rfl (by omega) (run_l tabOk ?_); conv => whnf) | (refine wl_add rfl rfl rfl rfl rfl rfl (by omega) (by omega) (run_l tabOk ?_); conv => whnf) | (refine wl_sub rfl rfl rfl rfl rfl rfl (by omega) (by omega) (run_l tabOk ?_); conv => whnf) | (refine wl_cvA tabOk rfl rfl rfl (by simp only [inK]; omega) rfl rfl rfl (run_l tabOk ?_); conv => whnf) | (refine wl_cvB tabOk rfl rfl rfl rfl rfl rfl (run_l tabOk ?_); conv => whnf) | (refine wl_rem rfl rfl rfl rfl rfl rfl (by omega) (by omega) (fun r hr hr0 hr1 hr2 => run_l tabOk ?_); conv => whnf) | (refine wl_quo rfl rfl rfl rfl rfl rfl (by omega) (by omega) (by simp only [inK]; omega) (run_l tabOk ?_); conv => whnf) | (refine wl_mul rfl rfl rfl rfl rfl rfl (by omega) (by omega) (run_l tabOk ?_); conv => whnf) | (refine gs_dt (by first | assumption | omega) ?_; conv => whnf) | (refine gs_df (by first | assumption | omega) ?_; conv => whnf) | (refine gs_t (by assumption) ?_; conv => whnf) | (refine gs_f (by assumption) ?_; conv => whnf) | (refine gs_d (fun hg => ?_) (fun hg => ?_) <;> conv => whnf) | (refine gs_n (fun hg => ?_) (fun hg => ?_) <;> conv => whnf) | (refine gs_nb (fun hg => ?_) (fun hg => ?_) <;> conv => whnf) | (refine gs_b (fun hg => ?_) (fun hg => ?_) <;> conv => whnf) | refine fin1 rfl rfl ?_))
    refine wl_C fn22 (nearC o wr) rfl rfl rfl rfl rfl rfl rfl ?_
    rintro _ w4 ⟨x, hx, hx4, rfl, hB4⟩
    refine ⟨_, rfl, run_l tabOk ?_⟩
    conv => whnf
    have hS4 := hS.up hB4
    refine wl_C fn12 (pAdd hS4.set x (by omega) (by omega) hS4.below.size) rfl rfl rfl rfl rfl rfl rfl ?_
    rintro _ w5 ⟨S', fs', r⟩
    refine ⟨_, r.ret, run_l tabOk ?_⟩
    conv => whnf
    (repeat' (first | (refine wl_add rfl rfl rfl rfl rfl rfl (by omega) (by omega) (run_l tabOk ?_); conv => whnf) | (refine wl_sub rfl rfl rfl rfl rfl rfl (by omega) (by omega) (run_l tabOk ?_); conv => whnf) | (refine wl_cvA tabOk rfl rfl rfl (by simp only [inK]; omega) rfl rfl rfl (run_l tabOk ?_); conv => whnf) | (refine wl_cvB tabOk rfl rfl rfl rfl rfl rfl (run_l tabOk ?_); conv => whnf) | (refine wl_rem rfl rfl rfl rfl rfl rfl (by omega) (by omega) (fun r hr hr0 hr1 hr2 => run_l tabOk ?_); conv => whnf) | (refine wl_quo rfl rfl rfl rfl rfl rfl (by omega) (by omega) (by simp only [inK]; omega) (run_l tabOk ?_); conv => whnf) | (refine wl_mul rfl rfl rfl rfl rfl rfl (by omega) (by omega) (run_l tabOk ?_); conv => whnf) | (refine gs_dt (by first | assumption | omega) ?_; conv => whnf) | (refine gs_df (by first | assumption | omega) ?_; conv => whnf) | (refine gs_t (by assumption) ?_; conv => whnf) | (refine gs_f (by assumption) ?_; conv => whnf) | (refine gs_d (fun hg => ?_) (fun hg => ?_) <;> conv => whnf) | (refine gs_n (fun hg => ?_) (fun hg => ?_) <;> conv => whnf) | (refine gs_nb (fun hg => ?_) (fun hg => ?_) <;> conv => whnf) | (refine gs_b (fun hg => ?_) (fun hg => ?_) <;> conv => whnf) | refine fin1 rfl rfl ?_))
    have hT4 := hT3.up hB4
    exact ⟨i + 1, ⟨rfl, rfl, rfl, rfl, rfl, trivial⟩, ⟨by omega, S', fs', hS4.add r, hT4.kept r.kept dTS hS4.far, apart_add hT4 dTS r.new, by have := r.len; omega⟩, by omega⟩
  · (repeat' (first | (refine wl_add rfl rfl rfl rfl rfl rfl (by omega) (by omega) (run_l tabOk ?_); conv => whnf) | (refine wl_sub rfl rfl rfl rfl rfl rfl (by omega) (by omega) (run_l tabOk ?_); conv => whnf) | (refine wl_cvA tabOk rfl rfl rfl (by simp only [inK]; omega) rfl rfl rfl (run_l tabOk ?_); conv => whnf) | (refine wl_cvB tabOk rfl rfl rfl rfl rfl rfl (run_l tabOk ?_); conv => whnf) | (refine wl_rem rfl rfl rfl rfl rfl rfl (by omega) (by omega) (fun r hr hr0 hr1 hr2 => run_l tabOk ?_); conv => whnf) | (refine wl_quo rfl rfl rfl rfl rfl rfl (by omega) (by omega) (by simp only [inK]; omega) (run_l tabOk ?_); conv => whnf) | (refine wl_mul rfl rfl rfl rfl rfl rfl (by omega) (by omega) (run_l tabOk ?_); conv => whnf) | (refine gs_dt (by first | assumption | omega) ?_; conv => whnf) | (refine gs_df (by first | assumption | omega) ?_; conv => whnf) | (refine gs_t (by assumption) ?_; conv => whnf) | (refine gs_f (by assumption) ?_; conv => whnf) | (refine gs_d (fun hg => ?_) (fun hg => ?_) <;> conv => whnf) | (refine gs_n (fun hg => ?_) (fun hg => ?_) <;> conv => whnf) | (refine gs_nb (fun hg => ?_) (fun hg => ?_) <;> conv => whnf) | (refine gs_b (fun hg => ?_) (fun hg => ?_) <;> conv => whnf) | refine fin1 rfl rfl ?_))
    refine lp_loop tabOk (X := Nat) (fun i => [(1, .slice B b.length cb), (5, .pointer (some ⟨gs, 0, none⟩)), (6, .pointer (some ⟨gt, 0, none⟩)), (8, .int .i64 i)])
      (fun k wk => k ≤ b.length ∧ ∃ T ft, OwnS w gs wk S fs ∧ OwnS w gt wk T ft ∧ (∀ b ∈ fs, b ∉ ft) ∧ T.length ≤ k) (fun k => b.length - k) 0 ⟨rfl, rfl, rfl, rfl, trivial⟩ ⟨by omega, [], [gt], hS, hT3, apart_sym dTS, by simp⟩ ?_
    clear hS hT3 dTS
    intro k G2 wk ⟨hk, T, ft, hS, hT3, dST, hTl⟩
    conv => whnf
    by_cases hkl : k < b.length
    · obtain ⟨o, ad, ho, rfl, f0, ho1, ho2⟩ := intsE (hb.up (stays_I _) hS.below) k hkl
      (repeat' (first | (refine wl_L tabOk rfl rfl rfl rfl rfl rfl f0 (run_l tabOk ?_); conv => whnf) | (refine wl_Xn tabOk 3 1 rfl rfl rfl rfl rfl rfl rfl (by omega) (run_l tabOk ?_); conv => whnf) | (refine wl_add rfl rfl rfl rfl rfl rfl (by omega) (by omega) (run_l tabOk ?_); conv => whnf) | (refine wl_sub rfl rfl rfl rfl rfl rfl (by omega) (by omega) (run_l tabOk ?_); conv => whnf) | (refine wl_cvA tabOk rfl rfl rfl (by simp only [inK]; omega) rfl rfl rfl (run_l tabOk ?_); conv => whnf) | (refine wl_cvB tabOk rfl rfl rfl rfl rfl rfl (run_l tabOk ?_); conv => whnf) | (refine wl_rem rfl rfl rfl rfl rfl rfl (by omega) (by omega) (fun r hr hr0 hr1 hr2 => run_l tabOk ?_); conv => whnf) | (refine wl_quo rfl rfl rfl rfl rfl rfl (by omega) (by omega) (by simp only [inK]; omega) (run_l tabOk ?_); conv => whnf) | (refine wl_mul rfl rfl rfl rfl rfl rfl (by omega) (by omega) (run_l tabOk ?_); conv => whnf) | (refine gs_dt (by first | assumption | omega) ?_; conv => whnf) | (refine gs_df (by first | assumption | omega) ?_; conv => whnf) | (refine gs_t (by assumption) ?_; conv => whnf) | (refine gs_f (by assumption) ?_; conv => whnf) | (refine gs_d (fun hg => ?_) (fun hg => ?_) <;> conv => whnf) | (refine gs_n (fun hg => ?_) (fun hg => ?_) <;> conv => whnf) | (refine gs_nb (fun hg => ?_) (fun hg => ?_) <;> conv => whnf) | (refine gs_b (fun hg => ?_) (fun hg => ?_) <;> conv => whnf) | refine fin1 rfl rfl ?_))
      refine wl_C fn22 (nearC o wk) rfl rfl rfl rfl rfl rfl rfl ?_
      rintro _ w4 ⟨x, hx, hx4, rfl, hB4⟩
      refine ⟨_, rfl, run_l tabOk ?_⟩
      conv => whnf
      have hT4 := hT3.up hB4
      refine wl_C fn12 (pAdd hT4.set x (by omega) (by omega) hT4.below.size) rfl rfl rfl rfl rfl rfl rfl ?_
      rintro _ w5 ⟨T', ft', r⟩
      refine ⟨_, r.ret, run_l tabOk ?_⟩
      conv => whnf
      (repeat' (first | (refine wl_add rfl rfl rfl rfl rfl rfl (by omega) (by omega) (run_l tabOk ?_); conv => whnf) | (refine wl_sub rfl rfl rfl rfl rfl rfl (by omega) (by omega) (run_l tabOk ?_); conv => whnf) | (refine wl_cvA tabOk rfl rfl rfl (by simp only [inK]; omega) rfl rfl rfl (run_l tabOk ?_); conv => whnf) | (refine wl_cvB tabOk rfl rfl rfl rfl rfl rfl (run_l tabOk ?_); conv => whnf) | (refine wl_rem rfl rfl rfl rfl rfl rfl (by omega) (by omega) (fun r hr hr0 hr1 hr2 => run_l tabOk ?_); conv => whnf) | (refine wl_quo rfl rfl rfl rfl rfl rfl (by omega) (by omega) (by simp only [inK]; omega) (run_l tabOk ?_); conv => whnf) | (refine wl_mul rfl rfl rfl rfl rfl rfl (by omega) (by omega) (run_l tabOk ?_); conv => whnf) | (refine gs_dt (by first | assumption | omega) ?_; conv => whnf) | (refine gs_df (by first | assumption | omega) ?_; conv => whnf) | (refine gs_t (by assumption) ?_; conv => whnf) | (refine gs_f (by assumption) ?_; conv => whnf) | (refine gs_d (fun hg => ?_) (fun hg => ?_) <;> conv => whnf) | (refine gs_n (fun hg => ?_) (fun hg => ?_) <;> conv => whnf) | (refine gs_nb (fun hg => ?_) (fun hg => ?_) <;> conv => whnf) | (refine gs_b (fun hg => ?_) (fun hg => ?_) <;> conv => whnf) | refine fin1 rfl rfl ?_))
      have hS4 := hS.up hB4
      exact ⟨k + 1, ⟨rfl, rfl, rfl, rfl, trivial⟩, ⟨by omega, T', ft', hS4.kept r.kept dST hT4.far, hT4.add r, apart_add hS4 dST r.new, by have := r.len; omega⟩, by omega⟩
    · (repeat' (first | (refine wl_add rfl rfl rfl rfl rfl rfl (by omega) (by omega) (run_l tabOk ?_); conv => whnf) | (refine wl_sub rfl rfl rfl rfl rfl rfl (by omega) (by omega) (run_l tabOk ?_); conv => whnf) | (refine wl_cvA tabOk rfl rfl rfl (by simp only [inK]; omega) rfl rfl rfl (run_l tabOk ?_); conv => whnf) | (refine wl_cvB tabOk rfl rfl rfl rfl rfl rfl (run_l tabOk ?_); conv => whnf) | (refine wl_rem rfl rfl rfl rfl rfl rfl (by omega) (by omega) (fun r hr hr0 hr1 hr2 => run_l tabOk ?_); conv => whnf) | (refine wl_quo rfl rfl rfl rfl rfl rfl (by omega) (by omega) (by simp only [inK]; omega) (run_l tabOk ?_); conv => whnf) | (refine wl_mul rfl rfl rfl rfl rfl rfl (by omega) (by omega) (run_l tabOk ?_); conv => whnf) | (refine gs_dt (by first | assumption | omega) ?_; conv => whnf) | (refine gs_df (by first | assumption | omega) ?_; conv => whnf) | (refine gs_t (by assumption) ?_; conv => whnf) | (refine gs_f (by assumption) ?_; conv => whnf) | (refine gs_d (fun hg => ?_) (fun hg => ?_) <;> conv => whnf) | (refine gs_n (fun hg => ?_) (fun hg => ?_) <;> conv => whnf) | (refine gs_nb (fun hg => ?_) (fun hg => ?_) <;> conv => whnf) | (refine gs_b (fun hg => ?_) (fun hg => ?_) <;> conv => whnf) | refine fin1 rfl rfl ?_))
      refine wl_C fn21 (pLess hS.set hT3.set (by omega) (by omega)) rfl rfl rfl rfl rfl rfl rfl ?_
      rintro _ w5 ⟨gx, X, fx, r5⟩
      refine ⟨_, r5.ret, run_l tabOk ?_⟩
      conv => whnf
      (repeat' (first | (refine wl_add rfl rfl rfl rfl rfl rfl (by omega) (by omega) (run_l tabOk ?_); conv => whnf) | (refine wl_sub rfl rfl rfl rfl rfl rfl (by omega) (by omega) (run_l tabOk ?_); conv => whnf) | (refine wl_cvA tabOk rfl rfl rfl (by simp only [inK]; omega) rfl rfl rfl (run_l tabOk ?_); conv => whnf) | (refine wl_cvB tabOk rfl rfl rfl rfl rfl rfl (run_l tabOk ?_); conv => whnf) | (refine wl_rem rfl rfl rfl rfl rfl rfl (by omega) (by omega) (fun r hr hr0 hr1 hr2 => run_l tabOk ?_); conv => whnf) | (refine wl_quo rfl rfl rfl rfl rfl rfl (by omega) (by omega) (by simp only [inK]; omega) (run_l tabOk ?_); conv => whnf) | (refine wl_mul rfl rfl rfl rfl rfl rfl (by omega) (by omega) (run_l tabOk ?_); conv => whnf) | (refine gs_dt (by first | assumption | omega) ?_; conv => whnf) | (refine gs_df (by first | assumption | omega) ?_; conv => whnf) | (refine gs_t (by assumption) ?_; conv => whnf) | (refine gs_f (by assumption) ?_; conv => whnf) | (refine gs_d (fun hg => ?_) (fun hg => ?_) <;> conv => whnf) | (refine gs_n (fun hg => ?_) (fun hg => ?_) <;> conv => whnf) | (refine gs_nb (fun hg => ?_) (fun hg => ?_) <;> conv => whnf) | (refine gs_b (fun hg => ?_) (fun hg => ?_) <;> conv => whnf) | refine fin1 rfl rfl ?_))
      have hS5 := hS.up r5.own.below
      have hT5 := hT3.up r5.own.below
      have hX5 := r5.own.low hS.below
      have dSX := apart_new hS r5.own
      have dTX := apart_new hT3 r5.own
      have hXl := r5.len
      refine wl_C fn21 (pLess hS5.set hX5.set (by omega) (by omega)) rfl rfl rfl rfl rfl rfl rfl ?_
      rintro _ w6 ⟨gy, Y, fy, r6⟩
      refine ⟨_, r6.ret, run_l tabOk ?_⟩
      conv => whnf
      (repeat' (first | (refine wl_add rfl rfl rfl rfl rfl rfl (by omega) (by omega) (run_l tabOk ?_); conv => whnf) | (refine wl_sub rfl rfl rfl rfl rfl rfl (by omega) (by omega) (run_l tabOk ?_); conv => whnf) | (refine wl_cvA tabOk rfl rfl rfl (by simp only [inK]; omega) rfl rfl rfl (run_l tabOk ?_); conv => whnf) | (refine wl_cvB tabOk rfl rfl rfl rfl rfl rfl (run_l tabOk ?_); conv => whnf) | (refine wl_rem rfl rfl rfl rfl rfl rfl (by omega) (by omega) (fun r hr hr0 hr1 hr2 => run_l tabOk ?_); conv => whnf) | (refine wl_quo rfl rfl rfl rfl rfl rfl (by omega) (by omega) (by simp only [inK]; omega) (run_l tabOk ?_); conv => whnf) | (refine wl_mul rfl rfl rfl rfl rfl rfl (by omega) (by omega) (run_l tabOk ?_); conv => whnf) | (refine gs_dt (by first | assumption | omega) ?_; conv => whnf) | (refine gs_df (by first | assumption | omega) ?_; conv => whnf) | (refine gs_t (by assumption) ?_; conv => whnf) | (refine gs_f (by assumption) ?_; conv => whnf) | (refine gs_d (fun hg => ?_) (fun hg => ?_) <;> conv => whnf) | (refine gs_n (fun hg => ?_) (fun hg => ?_) <;> conv => whnf) | (refine gs_nb (fun hg => ?_) (fun hg => ?_) <;> conv => whnf) | (refine gs_b (fun hg => ?_) (fun hg => ?_) <;> conv => whnf) | refine fin1 rfl rfl ?_))
      have hS6 := hS5.up r6.own.below
      have hT6 := hT5.up r6.own.below
      have hX6 := hX5.up r6.own.below
      have hY6 := r6.own.low hS5.below
      have hYl := r6.len
      refine wl_C fn19 (pCopy hX6.set (by omega)) rfl rfl rfl rfl rfl rfl rfl ?_
      rintro _ w7 ⟨gz, fz, rfl, hZ7⟩
      refine ⟨_, rfl, run_l tabOk ?_⟩
      conv => whnf
      (repeat' (first | (refine wl_add rfl rfl rfl rfl rfl rfl (by omega) (by omega) (run_l tabOk ?_); conv => whnf) | (refine wl_sub rfl rfl rfl rfl rfl rfl (by omega) (by omega) (run_l tabOk ?_); conv => whnf) | (refine wl_cvA tabOk rfl rfl rfl (by simp only [inK]; omega) rfl rfl rfl (run_l tabOk ?_); conv => whnf) | (refine wl_cvB tabOk rfl rfl rfl rfl rfl rfl (run_l tabOk ?_); conv => whnf) | (refine wl_rem rfl rfl rfl rfl rfl rfl (by omega) (by omega) (fun r hr hr0 hr1 hr2 => run_l tabOk ?_); conv => whnf) | (refine wl_quo rfl rfl rfl rfl rfl rfl (by omega) (by omega) (by simp only [inK]; omega) (run_l tabOk ?_); conv => whnf) | (refine wl_mul rfl rfl rfl rfl rfl rfl (by omega) (by omega) (run_l tabOk ?_); conv => whnf) | (refine gs_dt (by first | assumption | omega) ?_; conv => whnf) | (refine gs_df (by first | assumption | omega) ?_; conv => whnf) | (refine gs_t (by assumption) ?_; conv => whnf) | (refine gs_f (by assumption) ?_; conv => whnf) | (refine gs_d (fun hg => ?_) (fun hg => ?_) <;> conv => whnf) | (refine gs_n (fun hg => ?_) (fun hg => ?_) <;> conv => whnf) | (refine gs_nb (fun hg => ?_) (fun hg => ?_) <;> conv => whnf) | (refine gs_b (fun hg => ?_) (fun hg => ?_) <;> conv => whnf) | refine fin1 rfl rfl ?_))
      have dSZ := apart_new hS6 hZ7
      have dTZ := apart_new hT6 hZ7
      have dXZ := apart_new hX6 hZ7
      have dYZ := apart_new hY6 hZ7
      have hS7 := hS6.up hZ7.below
      have hT7 := hT6.up hZ7.below
      have hX7 := hX6.up hZ7.below
      have hY7 := hY6.up hZ7.below
      have hZ7 := hZ7.low hS6.below
      refine wl_C fn20 (pJoin hZ7.set hY7.set (by omega) (by omega) hZ7.below.size) rfl rfl rfl rfl rfl rfl rfl ?_
      rintro _ w8 ⟨Z, fz8, r8⟩
      have hgz : ∀ k ∈ [gz], w.heap.size ≤ k := fun k hk => by rw [List.mem_singleton.1 hk]; exact hZ7.set.ge
      have hZ8 := hZ7.join r8
      have hS8 := hS7.kept r8.kept (apart_g hZ7 dSZ) hgz
      have hT8 := hT7.kept r8.kept (apart_g hZ7 dTZ) hgz
      have hX8 := hX7.kept r8.kept (apart_g hZ7 dXZ) hgz
      have hY8 := hY7.kept r8.kept (apart_g hZ7 dYZ) hgz
      refine ⟨_, r8.ret, run_l tabOk ?_⟩
      conv => whnf
      (repeat' (first | (refine wl_add rfl rfl rfl rfl rfl rfl (by omega) (by omega) (run_l tabOk ?_); conv => whnf) | (refine wl_sub rfl rfl rfl rfl rfl rfl (by omega) (by omega) (run_l tabOk ?_); conv => whnf) | (refine wl_cvA tabOk rfl rfl rfl (by simp only [inK]; omega) rfl rfl rfl (run_l tabOk ?_); conv => whnf) | (refine wl_cvB tabOk rfl rfl rfl rfl rfl rfl (run_l tabOk ?_); conv => whnf) | (refine wl_rem rfl rfl rfl rfl rfl rfl (by omega) (by omega) (fun r hr hr0 hr1 hr2 => run_l tabOk ?_); conv => whnf) | (refine wl_quo rfl rfl rfl rfl rfl rfl (by omega) (by omega) (by simp only [inK]; omega) (run_l tabOk ?_); conv => whnf) | (refine wl_mul rfl rfl rfl rfl rfl rfl (by omega) (by omega) (run_l tabOk ?_); conv => whnf) | (refine gs_dt (by first | assumption | omega) ?_; conv => whnf) | (refine gs_df (by first | assumption | omega) ?_; conv => whnf) | (refine gs_t (by assumption) ?_; conv => whnf) | (refine gs_f (by assumption) ?_; conv => whnf) | (refine gs_d (fun hg => ?_) (fun hg => ?_) <;> conv => whnf) | (refine gs_n (fun hg => ?_) (fun hg => ?_) <;> conv => whnf) | (refine gs_nb (fun hg => ?_) (fun hg => ?_) <;> conv => whnf) | (refine gs_b (fun hg => ?_) (fun hg => ?_) <;> conv => whnf) | refine fin1 rfl rfl ?_))
      have hZS : Z = S := canonB hZ8.set.wf hS8.set.wf fun n => by
        rw [r8.mem, r6.mem, r5.mem]
        cases memB S n <;> cases memB T n <;> rfl
      refine wl_C fn16 (pAll hY8.set (by omega) (hT.up hY8.below)) rfl rfl rfl rfl rfl rfl rfl ?_
      rintro _ w9 ⟨V, rfl, hI, hB9⟩
      have hYn := numsB_len Y
      have hXn := numsB_len X
      have hSn := numsB_len S
      obtain ⟨AV, cV, rfl, _, hr⟩ := hI.row
      refine ⟨_, rfl, run_l tabOk ?_⟩
      conv => whnf
      (repeat' (first | (refine wl_add rfl rfl rfl rfl rfl rfl (by omega) (by omega) (run_l tabOk ?_); conv => whnf) | (refine wl_sub rfl rfl rfl rfl rfl rfl (by omega) (by omega) (run_l tabOk ?_); conv => whnf) | (refine wl_cvA tabOk rfl rfl rfl (by simp only [inK]; omega) rfl rfl rfl (run_l tabOk ?_); conv => whnf) | (refine wl_cvB tabOk rfl rfl rfl rfl rfl rfl (run_l tabOk ?_); conv => whnf) | (refine wl_rem rfl rfl rfl rfl rfl rfl (by omega) (by omega) (fun r hr hr0 hr1 hr2 => run_l tabOk ?_); conv => whnf) | (refine wl_quo rfl rfl rfl rfl rfl rfl (by omega) (by omega) (by simp only [inK]; omega) (run_l tabOk ?_); conv => whnf) | (refine wl_mul rfl rfl rfl rfl rfl rfl (by omega) (by omega) (run_l tabOk ?_); conv => whnf) | (refine gs_dt (by first | assumption | omega) ?_; conv => whnf) | (refine gs_df (by first | assumption | omega) ?_; conv => whnf) | (refine gs_t (by assumption) ?_; conv => whnf) | (refine gs_f (by assumption) ?_; conv => whnf) | (refine gs_d (fun hg => ?_) (fun hg => ?_) <;> conv => whnf) | (refine gs_n (fun hg => ?_) (fun hg => ?_) <;> conv => whnf) | (refine gs_nb (fun hg => ?_) (fun hg => ?_) <;> conv => whnf) | (refine gs_b (fun hg => ?_) (fun hg => ?_) <;> conv => whnf) | refine fin1 rfl rfl ?_))
      have hS9 := hS8.up hB9
      have hT9 := hT8.up hB9
      have hX9 := hX8.up hB9
      have hY9 := hY8.up hB9
      have hZ9 := hZ8.up hB9
      refine lp_loop tabOk (X := Nat) (fun j => [(5, .pointer (some ⟨gs, 0, none⟩)), (6, .pointer (some ⟨gt, 0, none⟩)), (9, .pointer (some ⟨gx, 0, none⟩)), (10, .pointer (some ⟨gy, 0, none⟩)), (11, .pointer (some ⟨gz, 0, none⟩)), (12, .slice AV (numsB Y).length cV), (13, .int .i64 j)])
        (fun j wj => j ≤ (numsB Y).length ∧ Below w9.heap.size w9 wj) (fun j => (numsB Y).length - j) 0 ⟨rfl, rfl, rfl, rfl, rfl, rfl, rfl, trivial⟩ ⟨by omega, Below.refl _ _⟩ ?_
      intro j G3 wj ⟨hj, hBj⟩
      conv => whnf
      by_cases hjl : j < (numsB Y).length
      · obtain ⟨o, ad, ho, rfl, f0, ho1, ho2⟩ := intsE (hr.up (stays_I _) (bup hBj (Below.refl _ _))) j hjl
        have hoin : o ∈ numsB Y := by rw [← ho.out]; exact mem_get hjl
        have hom := (mem_numsB hY9.set.wf).1 hoin
        have hval : (decide (0 ≤ o) && memB T o.toNat) = true := by
          have h1 := hom.2
          rw [r6.mem, r5.mem] at h1
          rw [decide_eq_true hom.1]
          cases h2 : memB T o.toNat
          · rw [h2] at h1; cases h3 : memB S o.toNat <;> rw [h3] at h1 <;> cases h1
          · rfl
        (repeat' (first | (refine wl_L tabOk rfl rfl rfl rfl rfl rfl f0 (run_l tabOk ?_); conv => whnf) | (refine wl_Xn tabOk 3 1 rfl rfl rfl rfl rfl rfl rfl (by omega) (run_l tabOk ?_); conv => whnf) | (refine wl_add rfl rfl rfl rfl rfl rfl (by omega) (by omega) (run_l tabOk ?_); conv => whnf) | (refine wl_sub rfl rfl rfl rfl rfl rfl (by omega) (by omega) (run_l tabOk ?_); conv => whnf) | (refine wl_cvA tabOk rfl rfl rfl (by simp only [inK]; omega) rfl rfl rfl (run_l tabOk ?_); conv => whnf) | (refine wl_cvB tabOk rfl rfl rfl rfl rfl rfl (run_l tabOk ?_); conv => whnf) | (refine wl_rem rfl rfl rfl rfl rfl rfl (by omega) (by omega) (fun r hr hr0 hr1 hr2 => run_l tabOk ?_); conv => whnf) | (refine wl_quo rfl rfl rfl rfl rfl rfl (by omega) (by omega) (by simp only [inK]; omega) (run_l tabOk ?_); conv => whnf) | (refine wl_mul rfl rfl rfl rfl rfl rfl (by omega) (by omega) (run_l tabOk ?_); conv => whnf) | (refine gs_dt (by first | assumption | omega) ?_; conv => whnf) | (refine gs_df (by first | assumption | omega) ?_; conv => whnf) | (refine gs_t (by assumption) ?_; conv => whnf) | (refine gs_f (by assumption) ?_; conv => whnf) | (refine gs_d (fun hg => ?_) (fun hg => ?_) <;> conv => whnf) | (refine gs_n (fun hg => ?_) (fun hg => ?_) <;> conv => whnf) | (refine gs_nb (fun hg => ?_) (fun hg => ?_) <;> conv => whnf) | (refine gs_b (fun hg => ?_) (fun hg => ?_) <;> conv => whnf) | refine fin1 rfl rfl ?_))
        refine wl_C fn17 (pHas (hT9.up hBj).set o ho2 (by omega)) rfl rfl rfl rfl rfl rfl rfl ?_
        rintro _ wk2 ⟨rfl, hBk2⟩
        rw [hval]
        refine ⟨_, rfl, run_l tabOk ?_⟩
        conv => whnf
        (repeat' (first | (refine wl_add rfl rfl rfl rfl rfl rfl (by omega) (by omega) (run_l tabOk ?_); conv => whnf) | (refine wl_sub rfl rfl rfl rfl rfl rfl (by omega) (by omega) (run_l tabOk ?_); conv => whnf) | (refine wl_cvA tabOk rfl rfl rfl (by simp only [inK]; omega) rfl rfl rfl (run_l tabOk ?_); conv => whnf) | (refine wl_cvB tabOk rfl rfl rfl rfl rfl rfl (run_l tabOk ?_); conv => whnf) | (refine wl_rem rfl rfl rfl rfl rfl rfl (by omega) (by omega) (fun r hr hr0 hr1 hr2 => run_l tabOk ?_); conv => whnf) | (refine wl_quo rfl rfl rfl rfl rfl rfl (by omega) (by omega) (by simp only [inK]; omega) (run_l tabOk ?_); conv => whnf) | (refine wl_mul rfl rfl rfl rfl rfl rfl (by omega) (by omega) (run_l tabOk ?_); conv => whnf) | (refine gs_dt (by first | assumption | omega) ?_; conv => whnf) | (refine gs_df (by first | assumption | omega) ?_; conv => whnf) | (refine gs_t (by assumption) ?_; conv => whnf) | (refine gs_f (by assumption) ?_; conv => whnf) | (refine gs_d (fun hg => ?_) (fun hg => ?_) <;> conv => whnf) | (refine gs_n (fun hg => ?_) (fun hg => ?_) <;> conv => whnf) | (refine gs_nb (fun hg => ?_) (fun hg => ?_) <;> conv => whnf) | (refine gs_b (fun hg => ?_) (fun hg => ?_) <;> conv => whnf) | refine fin1 rfl rfl ?_))
        exact ⟨j + 1, ⟨rfl, rfl, rfl, rfl, rfl, rfl, rfl, trivial⟩, ⟨by omega, bup hBj hBk2⟩, by omega⟩
      · (repeat' (first | (refine wl_add rfl rfl rfl rfl rfl rfl (by omega) (by omega) (run_l tabOk ?_); conv => whnf) | (refine wl_sub rfl rfl rfl rfl rfl rfl (by omega) (by omega) (run_l tabOk ?_); conv => whnf) | (refine wl_cvA tabOk rfl rfl rfl (by simp only [inK]; omega) rfl rfl rfl (run_l tabOk ?_); conv => whnf) | (refine wl_cvB tabOk rfl rfl rfl rfl rfl rfl (run_l tabOk ?_); conv => whnf) | (refine wl_rem rfl rfl rfl rfl rfl rfl (by omega) (by omega) (fun r hr hr0 hr1 hr2 => run_l tabOk ?_); conv => whnf) | (refine wl_quo rfl rfl rfl rfl rfl rfl (by omega) (by omega) (by simp only [inK]; omega) (run_l tabOk ?_); conv => whnf) | (refine wl_mul rfl rfl rfl rfl rfl rfl (by omega) (by omega) (run_l tabOk ?_); conv => whnf) | (refine gs_dt (by first | assumption | omega) ?_; conv => whnf) | (refine gs_df (by first | assumption | omega) ?_; conv => whnf) | (refine gs_t (by assumption) ?_; conv => whnf) | (refine gs_f (by assumption) ?_; conv => whnf) | (refine gs_d (fun hg => ?_) (fun hg => ?_) <;> conv => whnf) | (refine gs_n (fun hg => ?_) (fun hg => ?_) <;> conv => whnf) | (refine gs_nb (fun hg => ?_) (fun hg => ?_) <;> conv => whnf) | (refine gs_b (fun hg => ?_) (fun hg => ?_) <;> conv => whnf) | refine fin1 rfl rfl ?_))
        have hsame := pSame (hZ9.up hBj).set (hS9.up hBj).set
        rw [decide_eq_true hZS] at hsame
        refine wl_C fn14 hsame rfl rfl rfl rfl rfl rfl rfl ?_
        rintro _ v1 ⟨rfl, hC1⟩
        refine ⟨_, rfl, run_l tabOk ?_⟩
        conv => whnf
        (repeat' (first | (refine wl_add rfl rfl rfl rfl rfl rfl (by omega) (by omega) (run_l tabOk ?_); conv => whnf) | (refine wl_sub rfl rfl rfl rfl rfl rfl (by omega) (by omega) (run_l tabOk ?_); conv => whnf) | (refine wl_cvA tabOk rfl rfl rfl (by simp only [inK]; omega) rfl rfl rfl (run_l tabOk ?_); conv => whnf) | (refine wl_cvB tabOk rfl rfl rfl rfl rfl rfl (run_l tabOk ?_); conv => whnf) | (refine wl_rem rfl rfl rfl rfl rfl rfl (by omega) (by omega) (fun r hr hr0 hr1 hr2 => run_l tabOk ?_); conv => whnf) | (refine wl_quo rfl rfl rfl rfl rfl rfl (by omega) (by omega) (by simp only [inK]; omega) (run_l tabOk ?_); conv => whnf) | (refine wl_mul rfl rfl rfl rfl rfl rfl (by omega) (by omega) (run_l tabOk ?_); conv => whnf) | (refine gs_dt (by first | assumption | omega) ?_; conv => whnf) | (refine gs_df (by first | assumption | omega) ?_; conv => whnf) | (refine gs_t (by assumption) ?_; conv => whnf) | (refine gs_f (by assumption) ?_; conv => whnf) | (refine gs_d (fun hg => ?_) (fun hg => ?_) <;> conv => whnf) | (refine gs_n (fun hg => ?_) (fun hg => ?_) <;> conv => whnf) | (refine gs_nb (fun hg => ?_) (fun hg => ?_) <;> conv => whnf) | (refine gs_b (fun hg => ?_) (fun hg => ?_) <;> conv => whnf) | refine fin1 rfl rfl ?_))
        have hD1 := bup hBj hC1
        refine wl_C fn18 (pLen (hX9.up hD1).set (by omega)) rfl rfl rfl rfl rfl rfl rfl ?_
        rintro _ v2 ⟨rfl, hC2⟩
        refine ⟨_, rfl, run_l tabOk ?_⟩
        conv => whnf
        (repeat' (first | (refine wl_add rfl rfl rfl rfl rfl rfl (by omega) (by omega) (run_l tabOk ?_); conv => whnf) | (refine wl_sub rfl rfl rfl rfl rfl rfl (by omega) (by omega) (run_l tabOk ?_); conv => whnf) | (refine wl_cvA tabOk rfl rfl rfl (by simp only [inK]; omega) rfl rfl rfl (run_l tabOk ?_); conv => whnf) | (refine wl_cvB tabOk rfl rfl rfl rfl rfl rfl (run_l tabOk ?_); conv => whnf) | (refine wl_rem rfl rfl rfl rfl rfl rfl (by omega) (by omega) (fun r hr hr0 hr1 hr2 => run_l tabOk ?_); conv => whnf) | (refine wl_quo rfl rfl rfl rfl rfl rfl (by omega) (by omega) (by simp only [inK]; omega) (run_l tabOk ?_); conv => whnf) | (refine wl_mul rfl rfl rfl rfl rfl rfl (by omega) (by omega) (run_l tabOk ?_); conv => whnf) | (refine gs_dt (by first | assumption | omega) ?_; conv => whnf) | (refine gs_df (by first | assumption | omega) ?_; conv => whnf) | (refine gs_t (by assumption) ?_; conv => whnf) | (refine gs_f (by assumption) ?_; conv => whnf) | (refine gs_d (fun hg => ?_) (fun hg => ?_) <;> conv => whnf) | (refine gs_n (fun hg => ?_) (fun hg => ?_) <;> conv => whnf) | (refine gs_nb (fun hg => ?_) (fun hg => ?_) <;> conv => whnf) | (refine gs_b (fun hg => ?_) (fun hg => ?_) <;> conv => whnf) | refine fin1 rfl rfl ?_))
        have hD2 := bup hD1 hC2
        refine wl_C fn18 (pLen (hY9.up hD2).set (by omega)) rfl rfl rfl rfl rfl rfl rfl ?_
        rintro _ v3 ⟨rfl, hC3⟩
        refine ⟨_, rfl, run_l tabOk ?_⟩
        conv => whnf
        (repeat' (first | (refine wl_add rfl rfl rfl rfl rfl rfl (by omega) (by omega) (run_l tabOk ?_); conv => whnf) | (refine wl_sub rfl rfl rfl rfl rfl rfl (by omega) (by omega) (run_l tabOk ?_); conv => whnf) | (refine wl_cvA tabOk rfl rfl rfl (by simp only [inK]; omega) rfl rfl rfl (run_l tabOk ?_); conv => whnf) | (refine wl_cvB tabOk rfl rfl rfl rfl rfl rfl (run_l tabOk ?_); conv => whnf) | (refine wl_rem rfl rfl rfl rfl rfl rfl (by omega) (by omega) (fun r hr hr0 hr1 hr2 => run_l tabOk ?_); conv => whnf) | (refine wl_quo rfl rfl rfl rfl rfl rfl (by omega) (by omega) (by simp only [inK]; omega) (run_l tabOk ?_); conv => whnf) | (refine wl_mul rfl rfl rfl rfl rfl rfl (by omega) (by omega) (run_l tabOk ?_); conv => whnf) | (refine gs_dt (by first | assumption | omega) ?_; conv => whnf) | (refine gs_df (by first | assumption | omega) ?_; conv => whnf) | (refine gs_t (by assumption) ?_; conv => whnf) | (refine gs_f (by assumption) ?_; conv => whnf) | (refine gs_d (fun hg => ?_) (fun hg => ?_) <;> conv => whnf) | (refine gs_n (fun hg => ?_) (fun hg => ?_) <;> conv => whnf) | (refine gs_nb (fun hg => ?_) (fun hg => ?_) <;> conv => whnf) | (refine gs_b (fun hg => ?_) (fun hg => ?_) <;> conv => whnf) | refine fin1 rfl rfl ?_))
        have hD3 := bup hD2 hC3
        refine wl_C fn18 (pLen (hS9.up hD3).set (by omega)) rfl rfl rfl rfl rfl rfl rfl ?_
        rintro _ v4 ⟨rfl, hC4⟩
        have hcard := cardB hS9.set.wf hX9.set.wf hY9.set.wf (fun n => by
          rw [r6.mem, r5.mem]
          cases memB S n <;> cases memB T n <;> rfl) (fun n h => by rw [r6.mem, h]; simp)
        refine ⟨_, rfl, run_l tabOk ?_⟩
        conv => whnf
        (repeat' (first | (refine wl_add rfl rfl rfl rfl rfl rfl (by omega) (by omega) (run_l tabOk ?_); conv => whnf) | (refine wl_sub rfl rfl rfl rfl rfl rfl (by omega) (by omega) (run_l tabOk ?_); conv => whnf) | (refine wl_cvA tabOk rfl rfl rfl (by simp only [inK]; omega) rfl rfl rfl (run_l tabOk ?_); conv => whnf) | (refine wl_cvB tabOk rfl rfl rfl rfl rfl rfl (run_l tabOk ?_); conv => whnf) | (refine wl_rem rfl rfl rfl rfl rfl rfl (by omega) (by omega) (fun r hr hr0 hr1 hr2 => run_l tabOk ?_); conv => whnf) | (refine wl_quo rfl rfl rfl rfl rfl rfl (by omega) (by omega) (by simp only [inK]; omega) (run_l tabOk ?_); conv => whnf) | (refine wl_mul rfl rfl rfl rfl rfl rfl (by omega) (by omega) (run_l tabOk ?_); conv => whnf) | (refine gs_dt (by first | assumption | omega) ?_; conv => whnf) | (refine gs_df (by first | assumption | omega) ?_; conv => whnf) | (refine gs_t (by assumption) ?_; conv => whnf) | (refine gs_f (by assumption) ?_; conv => whnf) | (refine gs_d (fun hg => ?_) (fun hg => ?_) <;> conv => whnf) | (refine gs_n (fun hg => ?_) (fun hg => ?_) <;> conv => whnf) | (refine gs_nb (fun hg => ?_) (fun hg => ?_) <;> conv => whnf) | (refine gs_b (fun hg => ?_) (fun hg => ?_) <;> conv => whnf) | refine fin1 rfl rfl ?_))
        have hD4 := bup hD3 hC4
        refine wl_C fn21 (pLess (hS9.up hD4).set (hS9.up hD4).set (by omega) (by omega)) rfl rfl rfl rfl rfl rfl rfl ?_
        rintro _ v5 ⟨ge, E, fe, rE⟩
        refine ⟨_, rE.ret, run_l tabOk ?_⟩
        conv => whnf
        (repeat' (first | (refine wl_add rfl rfl rfl rfl rfl rfl (by omega) (by omega) (run_l tabOk ?_); conv => whnf) | (refine wl_sub rfl rfl rfl rfl rfl rfl (by omega) (by omega) (run_l tabOk ?_); conv => whnf) | (refine wl_cvA tabOk rfl rfl rfl (by simp only [inK]; omega) rfl rfl rfl (run_l tabOk ?_); conv => whnf) | (refine wl_cvB tabOk rfl rfl rfl rfl rfl rfl (run_l tabOk ?_); conv => whnf) | (refine wl_rem rfl rfl rfl rfl rfl rfl (by omega) (by omega) (fun r hr hr0 hr1 hr2 => run_l tabOk ?_); conv => whnf) | (refine wl_quo rfl rfl rfl rfl rfl rfl (by omega) (by omega) (by simp only [inK]; omega) (run_l tabOk ?_); conv => whnf) | (refine wl_mul rfl rfl rfl rfl rfl rfl (by omega) (by omega) (run_l tabOk ?_); conv => whnf) | (refine gs_dt (by first | assumption | omega) ?_; conv => whnf) | (refine gs_df (by first | assumption | omega) ?_; conv => whnf) | (refine gs_t (by assumption) ?_; conv => whnf) | (refine gs_f (by assumption) ?_; conv => whnf) | (refine gs_d (fun hg => ?_) (fun hg => ?_) <;> conv => whnf) | (refine gs_n (fun hg => ?_) (fun hg => ?_) <;> conv => whnf) | (refine gs_nb (fun hg => ?_) (fun hg => ?_) <;> conv => whnf) | (refine gs_b (fun hg => ?_) (fun hg => ?_) <;> conv => whnf) | refine fin1 rfl rfl ?_))
        refine wl_C fn15 (pOf [] none 0 v5 (RowR.nil ..) (by decide)) rfl rfl rfl rfl rfl rfl rfl ?_
        rintro _ v6 ⟨go, O, fo, rfl, hO, hOm, hOl⟩
        refine ⟨_, rfl, run_l tabOk ?_⟩
        conv => whnf
        (repeat' (first | (refine wl_add rfl rfl rfl rfl rfl rfl (by omega) (by omega) (run_l tabOk ?_); conv => whnf) | (refine wl_sub rfl rfl rfl rfl rfl rfl (by omega) (by omega) (run_l tabOk ?_); conv => whnf) | (refine wl_cvA tabOk rfl rfl rfl (by simp only [inK]; omega) rfl rfl rfl (run_l tabOk ?_); conv => whnf) | (refine wl_cvB tabOk rfl rfl rfl rfl rfl rfl (run_l tabOk ?_); conv => whnf) | (refine wl_rem rfl rfl rfl rfl rfl rfl (by omega) (by omega) (fun r hr hr0 hr1 hr2 => run_l tabOk ?_); conv => whnf) | (refine wl_quo rfl rfl rfl rfl rfl rfl (by omega) (by omega) (by simp only [inK]; omega) (run_l tabOk ?_); conv => whnf) | (refine wl_mul rfl rfl rfl rfl rfl rfl (by omega) (by omega) (run_l tabOk ?_); conv => whnf) | (refine gs_dt (by first | assumption | omega) ?_; conv => whnf) | (refine gs_df (by first | assumption | omega) ?_; conv => whnf) | (refine gs_t (by assumption) ?_; conv => whnf) | (refine gs_f (by assumption) ?_; conv => whnf) | (refine gs_d (fun hg => ?_) (fun hg => ?_) <;> conv => whnf) | (refine gs_n (fun hg => ?_) (fun hg => ?_) <;> conv => whnf) | (refine gs_nb (fun hg => ?_) (fun hg => ?_) <;> conv => whnf) | (refine gs_b (fun hg => ?_) (fun hg => ?_) <;> conv => whnf) | refine fin1 rfl rfl ?_))
        have hEO : E = O := canonB rE.own.set.wf hO.set.wf fun n => by
          rw [rE.mem, hOm]
          cases memB S n <;> simp
        have hsame2 := pSame (rE.own.up hO.below).set hO.set
        rw [decide_eq_true hEO] at hsame2
        refine wl_C fn14 hsame2 rfl rfl rfl rfl rfl rfl rfl ?_
        rintro _ v7 ⟨rfl, hC7⟩
        refine ⟨_, rfl, run_l tabOk ?_⟩
        conv => whnf
        (repeat' (first | (refine wl_add rfl rfl rfl rfl rfl rfl (by omega) (by omega) (run_l tabOk ?_); conv => whnf) | (refine wl_sub rfl rfl rfl rfl rfl rfl (by omega) (by omega) (run_l tabOk ?_); conv => whnf) | (refine wl_cvA tabOk rfl rfl rfl (by simp only [inK]; omega) rfl rfl rfl (run_l tabOk ?_); conv => whnf) | (refine wl_cvB tabOk rfl rfl rfl rfl rfl rfl (run_l tabOk ?_); conv => whnf) | (refine wl_rem rfl rfl rfl rfl rfl rfl (by omega) (by omega) (fun r hr hr0 hr1 hr2 => run_l tabOk ?_); conv => whnf) | (refine wl_quo rfl rfl rfl rfl rfl rfl (by omega) (by omega) (by simp only [inK]; omega) (run_l tabOk ?_); conv => whnf) | (refine wl_mul rfl rfl rfl rfl rfl rfl (by omega) (by omega) (run_l tabOk ?_); conv => whnf) | (refine gs_dt (by first | assumption | omega) ?_; conv => whnf) | (refine gs_df (by first | assumption | omega) ?_; conv => whnf) | (refine gs_t (by assumption) ?_; conv => whnf) | (refine gs_f (by assumption) ?_; conv => whnf) | (refine gs_d (fun hg => ?_) (fun hg => ?_) <;> conv => whnf) | (refine gs_n (fun hg => ?_) (fun hg => ?_) <;> conv => whnf) | (refine gs_nb (fun hg => ?_) (fun hg => ?_) <;> conv => whnf) | (refine gs_b (fun hg => ?_) (fun hg => ?_) <;> conv => whnf) | refine fin1 rfl rfl ?_))
        exact ⟨rfl, bup hS9.below (bup hD4 (bup rE.own.below (bup hO.below hC7)))⟩
end Go.Proofs.YtkmnhkfgjadppaaDoor
