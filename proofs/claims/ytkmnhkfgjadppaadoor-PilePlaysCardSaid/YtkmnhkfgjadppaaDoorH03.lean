/- pile: Has, Len, All; math/bits.OnesCount64, TrailingZeros64. -/
import Derived.Test.YtkmnhkfgjadppaaDoorF03
namespace Go.Proofs.YtkmnhkfgjadppaaDoor
open Go.RowKit
set_option linter.unusedVariables false
set_option linter.unusedSimpArgs false
set_option maxRecDepth 100000
theorem rowB_f {w : World} {A : Option Addr} {bs : List Blk} (h : RowR 2 dBlk w A bs) (i : Nat) (hi : i < bs.length) : ∃ ad, A = some ad ∧ w.cell? (ad.add (i * 2)) = some (.int .i64 bs[i]!.a) ∧ w.cell? ⟨(ad.add (i * 2)).block, (ad.add (i * 2)).off + 1, none⟩ = some (.int .u64 (bs[i]!.w : Int)) := by
  obtain ⟨ad, e, h1, h2, _⟩ := rowB_at h i hi
  refine ⟨ad, e, ?_, ?_⟩
  · have : (ad.add (i * 2)).add 0 = ad.add (i * 2) := addr_add0 _
    rwa [this] at h1
  · rw [add_field _ _ _ (by omega)]
    rwa [add_add] at h2
theorem bit_is (w k : Nat) : decide (((w >>> k &&& 1 : Nat) : Int) = 1) = w.testBit k := by
  rw [Nat.and_one_is_mod, Nat.shiftRight_eq_div_pow, Nat.testBit_eq_decide_div_mod_eq, decide_eq_decide]
  omega
theorem shr_u64 (w : Nat) (b : Int) (k : Nat) (hb : b = k) (hk : k < 64) : (w : Int) / 2 ^ min b.toNat IntKind.u64.bits = ((w >>> k : Nat) : Int) := by
  subst hb
  have : min ((k : Int)).toNat IntKind.u64.bits = k := by simp [IntKind.bits]; omega
  rw [this, Nat.shiftRight_eq_div_pow]
  simp
theorem shr_le (w k : Nat) (h : w < 18446744073709551616) : w >>> k < 18446744073709551616 := by
  rw [Nat.shiftRight_eq_div_pow]
  exact Nat.lt_of_le_of_lt (Nat.div_le_self _ _) h
theorem pHas {base g : Nat} {w : World} {bs : List Blk} {fp : List Nat} (hP : PSet base g w bs fp) (n : Int) (hn : n ≤ 9223372036854775807) (hl : bs.length ≤ 4611686018427387904) :
    Calls Tryd.prog 17 #[.pointer (some ⟨g, 0, none⟩), .int .i64 n] w fun e w' => e = .returned (.bool (decide (0 ≤ n) && memB bs n.toNat)) ∧ Below w.heap.size w w' := by
  obtain ⟨V, hb, ho, hfp, hne⟩ := hP.ex
  obtain ⟨A, c, rfl, hlc, hrow⟩ := ho.row
  refine enterR (args := [.pointer (some ⟨g, 0, none⟩), .int .i64 n]) tabOk Tryd.func17 rfl Tryd.ntmps17 rfl ?_; conv => whnf
  by_cases h0 : n < 0
  · (repeat' (first | (refine wl_pnF tabOk rfl rfl rfl rfl rfl rfl (run_l tabOk ?_); conv => whnf) | (refine wl_pnT tabOk rfl rfl rfl rfl rfl rfl (run_l tabOk ?_); conv => whnf) | (refine wl_pqF tabOk rfl rfl rfl rfl rfl rfl (run_l tabOk ?_); conv => whnf) | (refine wl_pqT tabOk rfl rfl rfl rfl rfl rfl (run_l tabOk ?_); conv => whnf) | (refine wl_add rfl rfl rfl rfl rfl rfl (by omega) (by omega) (run_l tabOk ?_); conv => whnf) | (refine wl_sub rfl rfl rfl rfl rfl rfl (by omega) (by omega) (run_l tabOk ?_); conv => whnf) | (refine wl_cvA tabOk rfl rfl rfl (by simp only [inK]; omega) rfl rfl rfl (run_l tabOk ?_); conv => whnf) | (refine wl_cvB tabOk rfl rfl rfl rfl rfl rfl (run_l tabOk ?_); conv => whnf) | (refine wl_rem rfl rfl rfl rfl rfl rfl (by omega) (by omega) (fun r hr hr0 hr1 hr2 => run_l tabOk ?_); conv => whnf) | (refine wl_quo rfl rfl rfl rfl rfl rfl (by omega) (by omega) (by simp only [inK]; omega) (run_l tabOk ?_); conv => whnf) | (refine wl_mul rfl rfl rfl rfl rfl rfl (by omega) (by omega) (run_l tabOk ?_); conv => whnf) | (refine gs_dt (by first | assumption | omega) ?_; conv => whnf) | (refine gs_df (by first | assumption | omega) ?_; conv => whnf) | (refine gs_t (by assumption) ?_; conv => whnf) | (refine gs_f (by assumption) ?_; conv => whnf) | (refine gs_d (fun hg => ?_) (fun hg => ?_) <;> conv => whnf) | (refine gs_n (fun hg => ?_) (fun hg => ?_) <;> conv => whnf) | (refine gs_nb (fun hg => ?_) (fun hg => ?_) <;> conv => whnf) | (refine gs_b (fun hg => ?_) (fun hg => ?_) <;> conv => whnf) | refine fin1 rfl rfl ?_))
    exact ⟨by rw [decide_eq_false (by omega : ¬ 0 ≤ n)]; rfl, Below.refl _ _⟩
  obtain ⟨m, rfl⟩ : ∃ m : Nat, n = m := ⟨n.toNat, by omega⟩
  (repeat' (first | (refine wl_pnF tabOk rfl rfl rfl rfl rfl rfl (run_l tabOk ?_); conv => whnf) | (refine wl_pnT tabOk rfl rfl rfl rfl rfl rfl (run_l tabOk ?_); conv => whnf) | (refine wl_pqF tabOk rfl rfl rfl rfl rfl rfl (run_l tabOk ?_); conv => whnf) | (refine wl_pqT tabOk rfl rfl rfl rfl rfl rfl (run_l tabOk ?_); conv => whnf) | (refine wl_add rfl rfl rfl rfl rfl rfl (by omega) (by omega) (run_l tabOk ?_); conv => whnf) | (refine wl_sub rfl rfl rfl rfl rfl rfl (by omega) (by omega) (run_l tabOk ?_); conv => whnf) | (refine wl_cvA tabOk rfl rfl rfl (by simp only [inK]; omega) rfl rfl rfl (run_l tabOk ?_); conv => whnf) | (refine wl_cvB tabOk rfl rfl rfl rfl rfl rfl (run_l tabOk ?_); conv => whnf) | (refine wl_rem rfl rfl rfl rfl rfl rfl (by omega) (by omega) (fun r hr hr0 hr1 hr2 => run_l tabOk ?_); conv => whnf) | (refine wl_quo rfl rfl rfl rfl rfl rfl (by omega) (by omega) (by simp only [inK]; omega) (run_l tabOk ?_); conv => whnf) | (refine wl_mul rfl rfl rfl rfl rfl rfl (by omega) (by omega) (run_l tabOk ?_); conv => whnf) | (refine gs_dt (by first | assumption | omega) ?_; conv => whnf) | (refine gs_df (by first | assumption | omega) ?_; conv => whnf) | (refine gs_t (by assumption) ?_; conv => whnf) | (refine gs_f (by assumption) ?_; conv => whnf) | (refine gs_d (fun hg => ?_) (fun hg => ?_) <;> conv => whnf) | (refine gs_n (fun hg => ?_) (fun hg => ?_) <;> conv => whnf) | (refine gs_nb (fun hg => ?_) (fun hg => ?_) <;> conv => whnf) | (refine gs_b (fun hg => ?_) (fun hg => ?_) <;> conv => whnf) | refine fin1 rfl rfl ?_))
  refine wl_C fn30 (pFind hP ((m : Int) / 64) (by omega) hl) rfl rfl rfl rfl rfl rfl rfl ?_
  rintro _ w2 ⟨i, ok, rfl, hf, hB⟩
  refine ⟨_, rfl, run_l tabOk ?_⟩
  conv => whnf
  obtain ⟨hi, hlo, hhi, hok⟩ := hf
  cases ok
  · (repeat' (first | (refine wl_add rfl rfl rfl rfl rfl rfl (by omega) (by omega) (run_l tabOk ?_); conv => whnf) | (refine wl_sub rfl rfl rfl rfl rfl rfl (by omega) (by omega) (run_l tabOk ?_); conv => whnf) | (refine wl_cvA tabOk rfl rfl rfl (by simp only [inK]; omega) rfl rfl rfl (run_l tabOk ?_); conv => whnf) | (refine wl_cvB tabOk rfl rfl rfl rfl rfl rfl (run_l tabOk ?_); conv => whnf) | (refine wl_rem rfl rfl rfl rfl rfl rfl (by omega) (by omega) (fun r hr hr0 hr1 hr2 => run_l tabOk ?_); conv => whnf) | (refine wl_quo rfl rfl rfl rfl rfl rfl (by omega) (by omega) (by simp only [inK]; omega) (run_l tabOk ?_); conv => whnf) | (refine wl_mul rfl rfl rfl rfl rfl rfl (by omega) (by omega) (run_l tabOk ?_); conv => whnf) | (refine gs_dt (by first | assumption | omega) ?_; conv => whnf) | (refine gs_df (by first | assumption | omega) ?_; conv => whnf) | (refine gs_t (by assumption) ?_; conv => whnf) | (refine gs_f (by assumption) ?_; conv => whnf) | (refine gs_d (fun hg => ?_) (fun hg => ?_) <;> conv => whnf) | (refine gs_n (fun hg => ?_) (fun hg => ?_) <;> conv => whnf) | (refine gs_nb (fun hg => ?_) (fun hg => ?_) <;> conv => whnf) | (refine gs_b (fun hg => ?_) (fun hg => ?_) <;> conv => whnf) | refine fin1 rfl rfl ?_))
    refine ⟨?_, hB⟩
    rw [memB_none, Bool.and_false]
    intro j hj e
    simp only [Int.toNat_natCast] at e
    rcases Nat.lt_or_ge j i with h1 | h1
    · have := hlo j h1; omega
    · rcases Nat.lt_or_ge i bs.length with h3 | h3
      · rw [decide_eq_true h3] at hok
        have h4 : ¬ bs[i]!.a = (m : Int) / 64 := by simpa using hok.symm
        rcases Nat.lt_or_ge i j with h5 | h5
        · have := hhi i (Nat.le_refl _) h3
          have := hP.wf.up i j h5 hj
          omega
        · have : j = i := by omega
          subst this
          omega
      · omega
  · have hok := hok.symm
    rw [Bool.and_eq_true, decide_eq_true_eq, decide_eq_true_eq] at hok
    obtain ⟨hi2, he⟩ := hok
    obtain ⟨ad, rfl, _, hc⟩ := rowB_f (hrow.up stays_Blk hB) i hi2
    have hb2 := blk_up hB hb
    have hrg := hP.wf.rng _ (mem_getB hi2)
    (repeat' (first | (refine wl_Lg tabOk hb2 rfl rfl rfl rfl rfl rfl rfl (run_l tabOk ?_); conv => whnf) | (refine wl_L tabOk rfl rfl rfl rfl rfl rfl hc (run_l tabOk ?_); conv => whnf) | (refine wl_Xn tabOk 72 2 rfl rfl rfl rfl rfl rfl rfl (by omega) (run_l tabOk ?_); conv => whnf) | (refine wl_add rfl rfl rfl rfl rfl rfl (by omega) (by omega) (run_l tabOk ?_); conv => whnf) | (refine wl_sub rfl rfl rfl rfl rfl rfl (by omega) (by omega) (run_l tabOk ?_); conv => whnf) | (refine wl_cvA tabOk rfl rfl rfl (by simp only [inK]; omega) rfl rfl rfl (run_l tabOk ?_); conv => whnf) | (refine wl_cvB tabOk rfl rfl rfl rfl rfl rfl (run_l tabOk ?_); conv => whnf) | (refine wl_rem rfl rfl rfl rfl rfl rfl (by omega) (by omega) (fun r hr hr0 hr1 hr2 => run_l tabOk ?_); conv => whnf) | (refine wl_quo rfl rfl rfl rfl rfl rfl (by omega) (by omega) (by simp only [inK]; omega) (run_l tabOk ?_); conv => whnf) | (refine wl_mul rfl rfl rfl rfl rfl rfl (by omega) (by omega) (run_l tabOk ?_); conv => whnf) | (refine gs_dt (by first | assumption | omega) ?_; conv => whnf) | (refine gs_df (by first | assumption | omega) ?_; conv => whnf) | (refine gs_t (by assumption) ?_; conv => whnf) | (refine gs_f (by assumption) ?_; conv => whnf) | (refine gs_d (fun hg => ?_) (fun hg => ?_) <;> conv => whnf) | (refine gs_n (fun hg => ?_) (fun hg => ?_) <;> conv => whnf) | (refine gs_nb (fun hg => ?_) (fun hg => ?_) <;> conv => whnf) | (refine gs_b (fun hg => ?_) (fun hg => ?_) <;> conv => whnf) | refine fin1 rfl rfl ?_))
    refine wl_shr (r := ((bs[i]!.w >>> (m % 64) : Nat) : Int)) (shr_u64 _ _ _ (by omega) (by omega)) rfl rfl rfl (by omega) rfl rfl rfl ?_
    refine run_l tabOk ?_
    conv => whnf
    refine wl_bit (r := ((bs[i]!.w >>> (m % 64) &&& 1 : Nat) : Int)) (bits_and_u64_nat _ 1 (shr_le _ _ hrg.2.2.2) (by omega)) rfl rfl rfl rfl rfl rfl rfl ?_
    refine run_l tabOk ?_
    conv => whnf
    (repeat' (first | (refine wl_add rfl rfl rfl rfl rfl rfl (by omega) (by omega) (run_l tabOk ?_); conv => whnf) | (refine wl_sub rfl rfl rfl rfl rfl rfl (by omega) (by omega) (run_l tabOk ?_); conv => whnf) | (refine wl_cvA tabOk rfl rfl rfl (by simp only [inK]; omega) rfl rfl rfl (run_l tabOk ?_); conv => whnf) | (refine wl_cvB tabOk rfl rfl rfl rfl rfl rfl (run_l tabOk ?_); conv => whnf) | (refine wl_rem rfl rfl rfl rfl rfl rfl (by omega) (by omega) (fun r hr hr0 hr1 hr2 => run_l tabOk ?_); conv => whnf) | (refine wl_quo rfl rfl rfl rfl rfl rfl (by omega) (by omega) (by simp only [inK]; omega) (run_l tabOk ?_); conv => whnf) | (refine wl_mul rfl rfl rfl rfl rfl rfl (by omega) (by omega) (run_l tabOk ?_); conv => whnf) | (refine gs_dt (by first | assumption | omega) ?_; conv => whnf) | (refine gs_df (by first | assumption | omega) ?_; conv => whnf) | (refine gs_t (by assumption) ?_; conv => whnf) | (refine gs_f (by assumption) ?_; conv => whnf) | (refine gs_d (fun hg => ?_) (fun hg => ?_) <;> conv => whnf) | (refine gs_n (fun hg => ?_) (fun hg => ?_) <;> conv => whnf) | (refine gs_nb (fun hg => ?_) (fun hg => ?_) <;> conv => whnf) | (refine gs_b (fun hg => ?_) (fun hg => ?_) <;> conv => whnf) | refine fin1 rfl rfl ?_))
    refine ⟨?_, bup hB (Below.refl _ _)⟩
    rw [bit_is]
    simp only [Int.toNat_natCast]
    rw [hP.wf.at_ hi2 (n := m) (by omega)]
    simp
theorem pHasN (n : Int) (w : World) : Calls Tryd.prog 17 #[.pointer none, .int .i64 n] w fun e w' => e = .returned (.bool false) ∧ Below w.heap.size w w' := by
  refine enterR (args := [.pointer none, .int .i64 n]) tabOk Tryd.func17 rfl Tryd.ntmps17 rfl ?_; conv => whnf
  (repeat' (first | (refine wl_pnF tabOk rfl rfl rfl rfl rfl rfl (run_l tabOk ?_); conv => whnf) | (refine wl_pnT tabOk rfl rfl rfl rfl rfl rfl (run_l tabOk ?_); conv => whnf) | (refine wl_pqF tabOk rfl rfl rfl rfl rfl rfl (run_l tabOk ?_); conv => whnf) | (refine wl_pqT tabOk rfl rfl rfl rfl rfl rfl (run_l tabOk ?_); conv => whnf) | (refine wl_add rfl rfl rfl rfl rfl rfl (by omega) (by omega) (run_l tabOk ?_); conv => whnf) | (refine wl_sub rfl rfl rfl rfl rfl rfl (by omega) (by omega) (run_l tabOk ?_); conv => whnf) | (refine wl_cvA tabOk rfl rfl rfl (by simp only [inK]; omega) rfl rfl rfl (run_l tabOk ?_); conv => whnf) | (refine wl_cvB tabOk rfl rfl rfl rfl rfl rfl (run_l tabOk ?_); conv => whnf) | (refine wl_rem rfl rfl rfl rfl rfl rfl (by omega) (by omega) (fun r hr hr0 hr1 hr2 => run_l tabOk ?_); conv => whnf) | (refine wl_quo rfl rfl rfl rfl rfl rfl (by omega) (by omega) (by simp only [inK]; omega) (run_l tabOk ?_); conv => whnf) | (refine wl_mul rfl rfl rfl rfl rfl rfl (by omega) (by omega) (run_l tabOk ?_); conv => whnf) | (refine gs_dt (by first | assumption | omega) ?_; conv => whnf) | (refine gs_df (by first | assumption | omega) ?_; conv => whnf) | (refine gs_t (by assumption) ?_; conv => whnf) | (refine gs_f (by assumption) ?_; conv => whnf) | (refine gs_d (fun hg => ?_) (fun hg => ?_) <;> conv => whnf) | (refine gs_n (fun hg => ?_) (fun hg => ?_) <;> conv => whnf) | (refine gs_nb (fun hg => ?_) (fun hg => ?_) <;> conv => whnf) | (refine gs_b (fun hg => ?_) (fun hg => ?_) <;> conv => whnf) | refine fin1 rfl rfl ?_))
  exact ⟨rfl, Below.refl _ _⟩
end Go.Proofs.YtkmnhkfgjadppaaDoor
