/- The walk of GaugeSame. -/
import Derived.Test.YtkjbkalakafnlaaDoorL0405
import Derived.Test.YtkjbkalakafnlaaDoorFX04
namespace Go.Proofs.YtkjbkalakafnlaaDoor
open Go.RowKit
set_option linter.unusedVariables false
set_option linter.unusedSimpArgs false
set_option maxRecDepth 100000
theorem sgn_val (a : Int) (z : Nat) : (if decide (a < 0) = true then -((a.natAbs * z : Nat) : Int) else ((a.natAbs * z : Nat) : Int)) = a * (z : Int) := by
  by_cases h : a < 0
  · rw [if_pos (by simpa using h), Int.natCast_mul, show (a.natAbs : Int) = -a by omega, Int.neg_mul, Int.neg_neg]
  · rw [if_neg (by simpa using h), Int.natCast_mul, show (a.natAbs : Int) = a by omega]
theorem add_near {a b : Int} (ha : a.natAbs < 9007199254740992) (hb : b.natAbs < 9007199254740992) (hc : (a + b).natAbs < 9007199254740992) : floatBits .add .f64 (nearF a) (nearF b) = some (nearF (a + b)) := by
  obtain ⟨r1, h1, v1, e1⟩ := near_word ha
  obtain ⟨r2, h2, v2, e2⟩ := near_word hb
  obtain ⟨r3, h3, v3, e3⟩ := near_word hc
  show D64.add (nearF a) (nearF b) = _
  rw [show nearF a = _ from e1, show nearF b = _ from e2, show nearF (a + b) = _ from e3]
  have hz : 0 < 2 ^ 1074 := Nat.two_pow_pos 1074
  generalize 2 ^ 1074 = z at v1 v2 v3 hz
  have hT := add_exact (s := decide (a < 0)) (t := decide (b < 0)) h1 h2 h3 (T := (a + b) * (z : Int)) (by rw [v1, v2, sgn_val, sgn_val, Int.add_mul]) (by rw [Int.natAbs_mul, v3]; simp)
  rw [hT]
  congr 2
  have hzi : (0 : Int) < (z : Int) := by omega
  by_cases h0 : a + b = 0
  · rw [if_pos (by rw [h0]; simp)]
    by_cases h : a < 0
    · rw [decide_eq_true h, decide_eq_false (by omega : ¬ b < 0), decide_eq_false (by omega : ¬ a + b < 0)]; rfl
    · rw [decide_eq_false h, decide_eq_false (by omega : ¬ a + b < 0)]; rfl
  · rw [if_neg (fun h => by rcases Int.mul_eq_zero.1 h with h | h <;> omega), decide_eq_decide]
    constructor
    · intro h
      apply Classical.byContradiction
      intro hh
      have := Int.mul_nonneg (Int.not_lt.1 hh) (Int.le_of_lt hzi)
      omega
    · intro h; exact Int.mul_neg_of_neg_of_pos h hzi
theorem quo_near {x : Int} {n : Nat} (hn : 0 < n) (hn2 : n < 9007199254740992) (hx : x.natAbs < 9007199254740992) (hnx : ((n : Int) * x).natAbs < 9007199254740992) : floatBits .quo .f64 (nearF ((n : Int) * x)) (nearF n) = some (nearF x) := by
  obtain ⟨r1, h1, v1, e1⟩ := near_word hnx
  obtain ⟨r2, h2, v2, e2⟩ := near_word (n := (n : Int)) (by omega)
  obtain ⟨r3, h3, v3, e3⟩ := near_word hx
  show D64.div (nearF ((n : Int) * x)) (nearF n) = _
  rw [show nearF ((n : Int) * x) = _ from e1, show nearF (n : Int) = _ from e2, show nearF x = _ from e3]
  have hb0 : r2 ≠ 0 := fun h => by
    have hz : 0 < 2 ^ 1074 := Nat.two_pow_pos 1074
    rw [h, valB_zero] at v2
    generalize 2 ^ 1074 = z at v2 hz
    rcases Nat.mul_eq_zero.1 v2.symm with h | h <;> omega
  have hq := quo_exact (s := decide ((n : Int) * x < 0)) (t := decide ((n : Int) < 0)) h1 h2 h3 hb0 v3 hx (by omega) (z := 1074) rfl (by
    rw [v1, v2, v3, Int.natAbs_mul]
    generalize 2 ^ 1074 = z
    simp only [Int.natAbs_natCast, Nat.mul_assoc, Nat.mul_comm, Nat.mul_left_comm])
  rw [hq]
  congr 2
  rw [decide_eq_false (by omega : ¬ (n : Int) < 0), Bool.xor_false, decide_eq_decide]
  constructor
  · intro h
    apply Classical.byContradiction
    intro hh
    have := Int.mul_nonneg (by omega : (0 : Int) ≤ (n : Int)) (Int.not_lt.1 hh)
    omega
  · intro h; exact Int.mul_neg_of_pos_of_neg (by omega) h
theorem sum_same {x : Int} (hx : -2147483648 ≤ x ∧ x ≤ 2147483647) : ∀ n : Nat, n ≤ 255 → sumO (List.replicate n (nearF x)) = some (nearF ((n : Int) * x))
  | 0, _ => by
    rw [List.replicate_zero, show ((0 : Nat) : Int) * x = 0 by simp, show nearF 0 = 0 by decide +kernel]
    rfl
  | n + 1, h => by
    have hb : -(2147483648 * (n : Int)) ≤ (n : Int) * x ∧ (n : Int) * x ≤ 2147483648 * (n : Int) := by
      rw [Int.mul_comm (n : Int) x]
      have h0 : (0 : Int) ≤ (n : Int) := by omega
      have h1 := Int.mul_le_mul_of_nonneg_right hx.1 h0
      have h2 := Int.mul_le_mul_of_nonneg_right (show x ≤ 2147483648 by omega) h0
      omega
    rw [List.replicate_succ', sumO_snoc, sum_same hx n (by omega)]
    show floatBits .add .f64 (nearF ((n : Int) * x)) (nearF x) = _
    rw [add_near (by omega) (by omega) (by omega), show ((n + 1 : Nat) : Int) * x = (n : Int) * x + x by rw [Int.natCast_add, Int.add_mul]; simp]
theorem mean_same {x : Int} (hx : -2147483648 ≤ x ∧ x ≤ 2147483647) {n : Nat} (h0 : 0 < n) (hn : n ≤ 255) : meanO (List.replicate n (nearF x)) = some (nearF x) := by
  unfold meanO
  rw [sum_same hx n hn, List.length_replicate]
  have hb : -(2147483648 * (n : Int)) ≤ (n : Int) * x ∧ (n : Int) * x ≤ 2147483648 * (n : Int) := by
    rw [Int.mul_comm (n : Int) x]
    have h0 : (0 : Int) ≤ (n : Int) := by omega
    have h1 := Int.mul_le_mul_of_nonneg_right hx.1 h0
    have h2 := Int.mul_le_mul_of_nonneg_right (show x ≤ 2147483648 by omega) h0
    omega
  exact quo_near h0 (by omega) (by omega) (by omega)
theorem near_num {x : Int} (hx : x.natAbs < 9007199254740992) : nanB (nearF x) = false := by
  obtain ⟨r, h1, _, e⟩ := near_word hx
  rw [show nearF x = _ from e]
  unfold nanB
  rw [wordB_rg (by omega)]
  simp; omega
set_option maxHeartbeats 8000000 in
theorem lawGaugeSame (x n : Int) (w : World) (hx : IntKind.i32.min ≤ x ∧ x ≤ IntKind.i32.max) (hn : IntKind.u8.min ≤ n ∧ n ≤ IntKind.u8.max) :
    Calls Tryd.prog 8 #[.int .i32 x, .int .u8 n] w fun e w' => e = .returned (.bool true) ∧ Below w.heap.size w w' := by
  have hx : -2147483648 ≤ x ∧ x ≤ 2147483647 := hx
  have hn : 0 ≤ n ∧ n ≤ 255 := hn
  obtain ⟨n, rfl⟩ : ∃ k : Nat, n = k := ⟨n.toNat, by omega⟩
  refine enterR (args := [.int .i32 x, .int .u8 (n : Int)]) tabOk Tryd.func8 rfl Tryd.ntmps8 rfl ?_; conv => whnf
  refine lp_loop tabOk (X := Nat × Option Addr × Nat) (fun y => [(0, .int .i32 x), (1, .int .u8 n), (5, .slice y.2.1 y.1 y.2.2), (6, .int .i64 y.1)])
    (fun y wr => y.1 ≤ n ∧ GFl w.heap.size wr (.slice y.2.1 y.1 y.2.2) (List.replicate y.1 (nearF x)) ∧ Below w.heap.size w wr) (fun y => n - y.1) (0, none, 0) ⟨rfl, rfl, rfl, rfl, trivial⟩ ⟨by simp, GRow.nil .., Below.refl _ _⟩ ?_
  rintro ⟨i, D, dc⟩ G wr ⟨hi, hI, hB⟩
  simp only at hi hI
  dsimp only
  conv => whnf
  by_cases hlt : i < n
  · (repeat' (first | (refine wl_add rfl rfl rfl rfl rfl rfl (by omega) (by omega) (run_l tabOk ?_); conv => whnf) | (refine wl_sub rfl rfl rfl rfl rfl rfl (by omega) (by omega) (run_l tabOk ?_); conv => whnf) | (refine wl_cvA tabOk rfl rfl rfl (by simp only [inK]; omega) rfl rfl rfl (run_l tabOk ?_); conv => whnf) | (refine wl_cvB tabOk rfl rfl rfl rfl rfl rfl (run_l tabOk ?_); conv => whnf) | (refine wl_rem rfl rfl rfl rfl rfl rfl (by omega) (by omega) (fun r hr hr0 hr1 hr2 => run_l tabOk ?_); conv => whnf) | (refine wl_quo rfl rfl rfl rfl rfl rfl (by omega) (by omega) (by simp only [inK]; omega) (run_l tabOk ?_); conv => whnf) | (refine wl_mul rfl rfl rfl rfl rfl rfl (by omega) (by omega) (run_l tabOk ?_); conv => whnf) | (refine gs_dt (by first | assumption | omega) ?_; conv => whnf) | (refine gs_df (by first | assumption | omega) ?_; conv => whnf) | (refine gs_t (by assumption) ?_; conv => whnf) | (refine gs_f (by assumption) ?_; conv => whnf) | (refine gs_d (fun hg => ?_) (fun hg => ?_) <;> conv => whnf) | (refine gs_n (fun hg => ?_) (fun hg => ?_) <;> conv => whnf) | (refine gs_nb (fun hg => ?_) (fun hg => ?_) <;> conv => whnf) | (refine gs_b (fun hg => ?_) (fun hg => ?_) <;> conv => whnf) | refine fin1 rfl rfl ?_))
    refine wl_fcv tabOk rfl rfl rfl rfl rfl rfl ?_
    refine run_l tabOk ?_
    conv => whnf
    refine wl_bs tabOk 22 1 rfl rfl rfl rfl rfl rfl rfl rfl rfl rfl ?_
    intro g w2 hn2
    refine run_l tabOk ?_
    conv => whnf
    have hlen : (List.replicate i (nearF x)).length = i := by simp
    have hI2 := hI.below hn2.below
    obtain ⟨flat, hfl, hel⟩ := hI2.own
    rw [hlen] at hfl
    have hs2 := hB.size
    have hs3 := hn2.below.size
    refine wl_ap tabOk 22 1 8 hfl hn2.blk rfl rfl rfl rfl rfl rfl rfl rfl rfl rfl rfl rfl (by simp [Value.oneCell']) (by omega) (by omega) (by omega) ?_
    intro A3 cap3 w3 hown hgr hob
    have hnew := gfl_push hI2 hel (by rw [hlen]; exact hown) hgr hob (y := nearF x)
    rw [← List.replicate_succ'] at hnew
    have hB3 : Below w.heap.size w w3 := (bup hB hn2.below).grown hgr (by omega) (fun k hk => (hI2.olt k hk).1)
    refine run_l tabOk ?_
    conv => whnf
    (repeat' (first | (refine wl_add rfl rfl rfl rfl rfl rfl (by omega) (by omega) (run_l tabOk ?_); conv => whnf) | (refine wl_sub rfl rfl rfl rfl rfl rfl (by omega) (by omega) (run_l tabOk ?_); conv => whnf) | (refine wl_cvA tabOk rfl rfl rfl (by simp only [inK]; omega) rfl rfl rfl (run_l tabOk ?_); conv => whnf) | (refine wl_cvB tabOk rfl rfl rfl rfl rfl rfl (run_l tabOk ?_); conv => whnf) | (refine wl_rem rfl rfl rfl rfl rfl rfl (by omega) (by omega) (fun r hr hr0 hr1 hr2 => run_l tabOk ?_); conv => whnf) | (refine wl_quo rfl rfl rfl rfl rfl rfl (by omega) (by omega) (by simp only [inK]; omega) (run_l tabOk ?_); conv => whnf) | (refine wl_mul rfl rfl rfl rfl rfl rfl (by omega) (by omega) (run_l tabOk ?_); conv => whnf) | (refine gs_dt (by first | assumption | omega) ?_; conv => whnf) | (refine gs_df (by first | assumption | omega) ?_; conv => whnf) | (refine gs_t (by assumption) ?_; conv => whnf) | (refine gs_f (by assumption) ?_; conv => whnf) | (refine gs_d (fun hg => ?_) (fun hg => ?_) <;> conv => whnf) | (refine gs_n (fun hg => ?_) (fun hg => ?_) <;> conv => whnf) | (refine gs_nb (fun hg => ?_) (fun hg => ?_) <;> conv => whnf) | (refine gs_b (fun hg => ?_) (fun hg => ?_) <;> conv => whnf) | refine fin1 rfl rfl ?_))
    exact ⟨(i + 1, A3, cap3), ⟨rfl, rfl, rfl, rfl, trivial⟩, ⟨by simp only; omega, hnew, hB3⟩, by simp only; omega⟩
  · obtain rfl : i = n := by omega
    have hlen : (List.replicate i (nearF x)).length = i := by simp
    obtain ⟨A', c', e, _, hrow⟩ := hI.row
    rw [hlen] at e
    injection e with e1 e2 e3
    subst e1 e3
    (repeat' (first | (refine wl_add rfl rfl rfl rfl rfl rfl (by omega) (by omega) (run_l tabOk ?_); conv => whnf) | (refine wl_sub rfl rfl rfl rfl rfl rfl (by omega) (by omega) (run_l tabOk ?_); conv => whnf) | (refine wl_cvA tabOk rfl rfl rfl (by simp only [inK]; omega) rfl rfl rfl (run_l tabOk ?_); conv => whnf) | (refine wl_cvB tabOk rfl rfl rfl rfl rfl rfl (run_l tabOk ?_); conv => whnf) | (refine wl_rem rfl rfl rfl rfl rfl rfl (by omega) (by omega) (fun r hr hr0 hr1 hr2 => run_l tabOk ?_); conv => whnf) | (refine wl_quo rfl rfl rfl rfl rfl rfl (by omega) (by omega) (by simp only [inK]; omega) (run_l tabOk ?_); conv => whnf) | (refine wl_mul rfl rfl rfl rfl rfl rfl (by omega) (by omega) (run_l tabOk ?_); conv => whnf) | (refine gs_dt (by first | assumption | omega) ?_; conv => whnf) | (refine gs_df (by first | assumption | omega) ?_; conv => whnf) | (refine gs_t (by assumption) ?_; conv => whnf) | (refine gs_f (by assumption) ?_; conv => whnf) | (refine gs_d (fun hg => ?_) (fun hg => ?_) <;> conv => whnf) | (refine gs_n (fun hg => ?_) (fun hg => ?_) <;> conv => whnf) | (refine gs_nb (fun hg => ?_) (fun hg => ?_) <;> conv => whnf) | (refine gs_b (fun hg => ?_) (fun hg => ?_) <;> conv => whnf) | refine fin1 rfl rfl ?_))
    have hgm := gaugeMean _ D dc wr hrow
    rw [hlen] at hgm
    refine wl_C fn27 hgm rfl rfl rfl rfl rfl rfl rfl ?_
    rintro _ w4 ⟨q, rfl, hq, hB4⟩
    refine ⟨_, rfl, run_l tabOk ?_⟩
    conv => whnf
    by_cases h0 : i = 0
    · subst h0
      rw [show meanO (List.replicate 0 (nearF x)) = none from (by decide +kernel : meanO [] = none)] at hq
      have cq := cmp_ne_self q
      rw [nan_of hq] at cq
      (repeat' (first | (refine wl_add rfl rfl rfl rfl rfl rfl (by omega) (by omega) (run_l tabOk ?_); conv => whnf) | (refine wl_sub rfl rfl rfl rfl rfl rfl (by omega) (by omega) (run_l tabOk ?_); conv => whnf) | (refine wl_cvA tabOk rfl rfl rfl (by simp only [inK]; omega) rfl rfl rfl (run_l tabOk ?_); conv => whnf) | (refine wl_cvB tabOk rfl rfl rfl rfl rfl rfl (run_l tabOk ?_); conv => whnf) | (refine wl_rem rfl rfl rfl rfl rfl rfl (by omega) (by omega) (fun r hr hr0 hr1 hr2 => run_l tabOk ?_); conv => whnf) | (refine wl_quo rfl rfl rfl rfl rfl rfl (by omega) (by omega) (by simp only [inK]; omega) (run_l tabOk ?_); conv => whnf) | (refine wl_mul rfl rfl rfl rfl rfl rfl (by omega) (by omega) (run_l tabOk ?_); conv => whnf) | (refine gs_dt (by first | assumption | omega) ?_; conv => whnf) | (refine gs_df (by first | assumption | omega) ?_; conv => whnf) | (refine gs_t (by assumption) ?_; conv => whnf) | (refine gs_f (by assumption) ?_; conv => whnf) | (refine gs_d (fun hg => ?_) (fun hg => ?_) <;> conv => whnf) | (refine gs_n (fun hg => ?_) (fun hg => ?_) <;> conv => whnf) | (refine gs_nb (fun hg => ?_) (fun hg => ?_) <;> conv => whnf) | (refine gs_b (fun hg => ?_) (fun hg => ?_) <;> conv => whnf) | refine fin1 rfl rfl ?_))
      refine wl_C fn19 (awake04 w4) rfl rfl rfl rfl rfl rfl rfl ?_
      rintro _ w5 ⟨rfl, hB5⟩
      refine ⟨_, rfl, run_l tabOk ?_⟩
      conv => whnf
      (repeat' (first | (refine wl_fcmp cq rfl rfl rfl rfl rfl rfl (run_l tabOk ?_); (conv => whnf)) | (refine wl_add rfl rfl rfl rfl rfl rfl (by omega) (by omega) (run_l tabOk ?_); conv => whnf) | (refine wl_sub rfl rfl rfl rfl rfl rfl (by omega) (by omega) (run_l tabOk ?_); conv => whnf) | (refine wl_cvA tabOk rfl rfl rfl (by simp only [inK]; omega) rfl rfl rfl (run_l tabOk ?_); conv => whnf) | (refine wl_cvB tabOk rfl rfl rfl rfl rfl rfl (run_l tabOk ?_); conv => whnf) | (refine wl_rem rfl rfl rfl rfl rfl rfl (by omega) (by omega) (fun r hr hr0 hr1 hr2 => run_l tabOk ?_); conv => whnf) | (refine wl_quo rfl rfl rfl rfl rfl rfl (by omega) (by omega) (by simp only [inK]; omega) (run_l tabOk ?_); conv => whnf) | (refine wl_mul rfl rfl rfl rfl rfl rfl (by omega) (by omega) (run_l tabOk ?_); conv => whnf) | (refine gs_dt (by first | assumption | omega) ?_; conv => whnf) | (refine gs_df (by first | assumption | omega) ?_; conv => whnf) | (refine gs_t (by assumption) ?_; conv => whnf) | (refine gs_f (by assumption) ?_; conv => whnf) | (refine gs_d (fun hg => ?_) (fun hg => ?_) <;> conv => whnf) | (refine gs_n (fun hg => ?_) (fun hg => ?_) <;> conv => whnf) | (refine gs_nb (fun hg => ?_) (fun hg => ?_) <;> conv => whnf) | (refine gs_b (fun hg => ?_) (fun hg => ?_) <;> conv => whnf) | refine fin1 rfl rfl ?_))
      refine wl_C fn28 (gBest [] none 0 w5 (RowR.nil ..)) rfl rfl rfl rfl rfl rfl rfl ?_
      rintro _ _ ⟨k, rfl, hk, rfl⟩
      have hk1 : k = -1 := by
        rcases hk with ⟨_, h⟩ | ⟨n', _, h, _⟩
        · exact h
        · simp at h
      subst hk1
      refine ⟨_, rfl, run_l tabOk ?_⟩
      conv => whnf
      (repeat' (first | (refine wl_add rfl rfl rfl rfl rfl rfl (by omega) (by omega) (run_l tabOk ?_); conv => whnf) | (refine wl_sub rfl rfl rfl rfl rfl rfl (by omega) (by omega) (run_l tabOk ?_); conv => whnf) | (refine wl_cvA tabOk rfl rfl rfl (by simp only [inK]; omega) rfl rfl rfl (run_l tabOk ?_); conv => whnf) | (refine wl_cvB tabOk rfl rfl rfl rfl rfl rfl (run_l tabOk ?_); conv => whnf) | (refine wl_rem rfl rfl rfl rfl rfl rfl (by omega) (by omega) (fun r hr hr0 hr1 hr2 => run_l tabOk ?_); conv => whnf) | (refine wl_quo rfl rfl rfl rfl rfl rfl (by omega) (by omega) (by simp only [inK]; omega) (run_l tabOk ?_); conv => whnf) | (refine wl_mul rfl rfl rfl rfl rfl rfl (by omega) (by omega) (run_l tabOk ?_); conv => whnf) | (refine gs_dt (by first | assumption | omega) ?_; conv => whnf) | (refine gs_df (by first | assumption | omega) ?_; conv => whnf) | (refine gs_t (by assumption) ?_; conv => whnf) | (refine gs_f (by assumption) ?_; conv => whnf) | (refine gs_d (fun hg => ?_) (fun hg => ?_) <;> conv => whnf) | (refine gs_n (fun hg => ?_) (fun hg => ?_) <;> conv => whnf) | (refine gs_nb (fun hg => ?_) (fun hg => ?_) <;> conv => whnf) | (refine gs_b (fun hg => ?_) (fun hg => ?_) <;> conv => whnf) | refine fin1 rfl rfl ?_))
      exact ⟨rfl, bup (bup hB hB4) hB5⟩
    · rw [mean_same hx (by omega) (by omega)] at hq
      have cq : fcmpV .eql q (nearF x) = some true := by
        rw [show q = nearF x from hq, cmp_eq_self, near_num (by omega)]
        rfl
      (repeat' (first | (refine wl_add rfl rfl rfl rfl rfl rfl (by omega) (by omega) (run_l tabOk ?_); conv => whnf) | (refine wl_sub rfl rfl rfl rfl rfl rfl (by omega) (by omega) (run_l tabOk ?_); conv => whnf) | (refine wl_cvA tabOk rfl rfl rfl (by simp only [inK]; omega) rfl rfl rfl (run_l tabOk ?_); conv => whnf) | (refine wl_cvB tabOk rfl rfl rfl rfl rfl rfl (run_l tabOk ?_); conv => whnf) | (refine wl_rem rfl rfl rfl rfl rfl rfl (by omega) (by omega) (fun r hr hr0 hr1 hr2 => run_l tabOk ?_); conv => whnf) | (refine wl_quo rfl rfl rfl rfl rfl rfl (by omega) (by omega) (by simp only [inK]; omega) (run_l tabOk ?_); conv => whnf) | (refine wl_mul rfl rfl rfl rfl rfl rfl (by omega) (by omega) (run_l tabOk ?_); conv => whnf) | (refine gs_dt (by first | assumption | omega) ?_; conv => whnf) | (refine gs_df (by first | assumption | omega) ?_; conv => whnf) | (refine gs_t (by assumption) ?_; conv => whnf) | (refine gs_f (by assumption) ?_; conv => whnf) | (refine gs_d (fun hg => ?_) (fun hg => ?_) <;> conv => whnf) | (refine gs_n (fun hg => ?_) (fun hg => ?_) <;> conv => whnf) | (refine gs_nb (fun hg => ?_) (fun hg => ?_) <;> conv => whnf) | (refine gs_b (fun hg => ?_) (fun hg => ?_) <;> conv => whnf) | refine fin1 rfl rfl ?_))
      refine wl_C fn19 (awake04 w4) rfl rfl rfl rfl rfl rfl rfl ?_
      rintro _ w5 ⟨rfl, hB5⟩
      refine ⟨_, rfl, run_l tabOk ?_⟩
      conv => whnf
      (repeat' (first | (refine wl_fcv tabOk rfl rfl rfl rfl rfl rfl (run_l tabOk ?_); (conv => whnf)) | (refine wl_fcmp cq rfl rfl rfl rfl rfl rfl (run_l tabOk ?_); (conv => whnf)) | (refine wl_add rfl rfl rfl rfl rfl rfl (by omega) (by omega) (run_l tabOk ?_); conv => whnf) | (refine wl_sub rfl rfl rfl rfl rfl rfl (by omega) (by omega) (run_l tabOk ?_); conv => whnf) | (refine wl_cvA tabOk rfl rfl rfl (by simp only [inK]; omega) rfl rfl rfl (run_l tabOk ?_); conv => whnf) | (refine wl_cvB tabOk rfl rfl rfl rfl rfl rfl (run_l tabOk ?_); conv => whnf) | (refine wl_rem rfl rfl rfl rfl rfl rfl (by omega) (by omega) (fun r hr hr0 hr1 hr2 => run_l tabOk ?_); conv => whnf) | (refine wl_quo rfl rfl rfl rfl rfl rfl (by omega) (by omega) (by simp only [inK]; omega) (run_l tabOk ?_); conv => whnf) | (refine wl_mul rfl rfl rfl rfl rfl rfl (by omega) (by omega) (run_l tabOk ?_); conv => whnf) | (refine gs_dt (by first | assumption | omega) ?_; conv => whnf) | (refine gs_df (by first | assumption | omega) ?_; conv => whnf) | (refine gs_t (by assumption) ?_; conv => whnf) | (refine gs_f (by assumption) ?_; conv => whnf) | (refine gs_d (fun hg => ?_) (fun hg => ?_) <;> conv => whnf) | (refine gs_n (fun hg => ?_) (fun hg => ?_) <;> conv => whnf) | (refine gs_nb (fun hg => ?_) (fun hg => ?_) <;> conv => whnf) | (refine gs_b (fun hg => ?_) (fun hg => ?_) <;> conv => whnf) | refine fin1 rfl rfl ?_))
      have hgb := gBest _ D dc w5 (hrow.up stays_F (bup hB4 hB5))
      rw [hlen] at hgb
      refine wl_C fn28 hgb rfl rfl rfl rfl rfl rfl rfl ?_
      rintro _ _ ⟨k, rfl, hk, rfl⟩
      have hall : ∀ j, j < i → (List.replicate i (nearF x))[j]! = nearF x := fun j hj => by rw [getElem!_pos _ j (by simpa using hj)]; simp
      have hk0 : k = (0 : Nat) := best_is hk 0 (by omega) (fun j hj => by rw [hall j hj, hall 0 (by omega)]; exact Int.le_refl _) (fun j hj => by omega)
      subst hk0
      refine ⟨_, rfl, run_l tabOk ?_⟩
      conv => whnf
      (repeat' (first | (refine wl_add rfl rfl rfl rfl rfl rfl (by omega) (by omega) (run_l tabOk ?_); conv => whnf) | (refine wl_sub rfl rfl rfl rfl rfl rfl (by omega) (by omega) (run_l tabOk ?_); conv => whnf) | (refine wl_cvA tabOk rfl rfl rfl (by simp only [inK]; omega) rfl rfl rfl (run_l tabOk ?_); conv => whnf) | (refine wl_cvB tabOk rfl rfl rfl rfl rfl rfl (run_l tabOk ?_); conv => whnf) | (refine wl_rem rfl rfl rfl rfl rfl rfl (by omega) (by omega) (fun r hr hr0 hr1 hr2 => run_l tabOk ?_); conv => whnf) | (refine wl_quo rfl rfl rfl rfl rfl rfl (by omega) (by omega) (by simp only [inK]; omega) (run_l tabOk ?_); conv => whnf) | (refine wl_mul rfl rfl rfl rfl rfl rfl (by omega) (by omega) (run_l tabOk ?_); conv => whnf) | (refine gs_dt (by first | assumption | omega) ?_; conv => whnf) | (refine gs_df (by first | assumption | omega) ?_; conv => whnf) | (refine gs_t (by assumption) ?_; conv => whnf) | (refine gs_f (by assumption) ?_; conv => whnf) | (refine gs_d (fun hg => ?_) (fun hg => ?_) <;> conv => whnf) | (refine gs_n (fun hg => ?_) (fun hg => ?_) <;> conv => whnf) | (refine gs_nb (fun hg => ?_) (fun hg => ?_) <;> conv => whnf) | (refine gs_b (fun hg => ?_) (fun hg => ?_) <;> conv => whnf) | refine fin1 rfl rfl ?_))
      exact ⟨rfl, bup (bup hB hB4) hB5⟩
end Go.Proofs.YtkjbkalakafnlaaDoor
