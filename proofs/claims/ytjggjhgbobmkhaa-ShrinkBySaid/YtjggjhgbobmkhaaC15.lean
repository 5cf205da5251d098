/- Several texts of one claim in one file: H04 H05 OF03 J03 HC18. -/
import Derived.Test.YtjggjhgbobmkhaaC14
import Derived.Test.YtjggjhgbobmkhaaC13
/- math/bits.OnesCount64, TrailingZeros64; pile: Len, All. -/
namespace Go.Proofs.Ytjggjhgbobmkhaa
open Go.RowKit
set_option linter.unusedVariables false
set_option linter.unusedSimpArgs false
set_option maxRecDepth 100000
theorem band (a b : Nat) (bi : Int) (hb : bi = (b : Int)) (h1 : a < 18446744073709551616) (h2 : b < 18446744073709551616) : bits .and .u64 (a : Int) bi = ((a &&& b : Nat) : Int) := by
  subst hb
  exact bits_and_u64_nat a b h1 h2
theorem addu {a b c : Nat} (hc : c = a + b) (h : c < 18446744073709551616) : IntKind.u64.wrap ((a : Int) + (b : Int)) = (c : Int) := by
  rw [IntKind.wrap_u64]; omega
theorem band_i64 (a b : Nat) (bi : Int) (hb : bi = (b : Int)) (h1 : a < 9223372036854775808) (h2 : b < 9223372036854775808) : bits .and .i64 (a : Int) bi = ((a &&& b : Nat) : Int) := by
  subst hb
  have hx : a &&& b < 2 ^ 63 := Nat.and_lt_two_pow _ (by omega)
  have e1 : (BitVec.ofInt 64 (a : Int)).toNat = a := by
    rw [BitVec.ofInt_natCast, BitVec.toNat_ofNat]; exact Nat.mod_eq_of_lt (by omega)
  have e2 : (BitVec.ofInt 64 (b : Int)).toNat = b := by
    rw [BitVec.ofInt_natCast, BitVec.toNat_ofNat]; exact Nat.mod_eq_of_lt (by omega)
  show IntKind.i64.wrap ((BitVec.ofInt 64 (a : Int) &&& BitVec.ofInt 64 (b : Int)).toNat : Int) = _
  rw [BitVec.toNat_and, e1, e2, IntKind.wrap_i64]
  omega
set_option maxHeartbeats 4000000 in
theorem pOnes (x : Nat) (hx : x < 18446744073709551616) (w : World) :
    Calls Try.prog 41 #[.int .u64 (x : Int)] w fun e w' => e = .returned (.int .i64 ((bitsOf x).length : Nat)) ∧ Below w.heap.size w w' := by
  obtain ⟨x1, x2, x3, x4, x5, x6, e1, e2, e3, e4, e5, e6, l1, l2, l3, l4, l5, l6, hf⟩ := pop64 hx
  have q1 : x >>> 1 &&& 6148914691236517205 < 18446744073709551616 := Nat.lt_of_le_of_lt Nat.and_le_right (by decide)
  have l3' : x3 < 18446744073709551616 := by rw [e3]; exact Nat.lt_of_le_of_lt Nat.and_le_right (by decide)
  refine enterR (args := [.int .u64 (x : Int)]) tabOk Try.func41 rfl Try.ntmps41 rfl ?_; conv => whnf
  (repeat' (first | ((first | refine wl_add rfl rfl rfl rfl rfl rfl (by omega) (by omega) (run_l tabOk ?_) | refine wl_sub rfl rfl rfl rfl rfl rfl (by omega) (by omega) (run_l tabOk ?_) | refine wl_cvA tabOk rfl rfl rfl (by simp only [inK]; omega) rfl rfl rfl (run_l tabOk ?_) | refine wl_cvB tabOk rfl rfl rfl rfl rfl rfl (run_l tabOk ?_) | refine wl_rem rfl rfl rfl rfl rfl rfl (by omega) (by omega) (fun r hr hr0 hr1 hr2 => run_l tabOk ?_) | refine wl_quo rfl rfl rfl rfl rfl rfl (by omega) (by omega) (by simp only [inK]; omega) (run_l tabOk ?_) | refine wl_mul rfl rfl rfl rfl rfl rfl (by omega) (by omega) (run_l tabOk ?_) | refine gs_dt (by first | assumption | omega) ?_ | refine gs_df (by first | assumption | omega) ?_ | refine gs_t (by assumption) ?_ | refine gs_f (by assumption) ?_ | refine gs_d (fun hg => ?_) (fun hg => ?_) | refine gs_n (fun hg => ?_) (fun hg => ?_) | refine gs_nb (fun hg => ?_) (fun hg => ?_) | refine gs_b (fun hg => ?_) (fun hg => ?_)) <;> conv => whnf) | refine fin1 rfl rfl ?_))
  refine wl_shr (r := ((x >>> 1 : Nat) : Int)) (shr_u64 x 1 1 rfl (by omega)) rfl rfl rfl (by omega) rfl rfl rfl (run_l tabOk ?_); conv => whnf
  refine wl_bit (r := ((x >>> 1 &&& 6148914691236517205 : Nat) : Int)) (band _ 6148914691236517205 6148914691236517205 rfl (shr_le _ _ hx) (by omega)) rfl rfl rfl rfl rfl rfl rfl (run_l tabOk ?_); conv => whnf
  (repeat' (first | ((first | refine wl_add rfl rfl rfl rfl rfl rfl (by omega) (by omega) (run_l tabOk ?_) | refine wl_sub rfl rfl rfl rfl rfl rfl (by omega) (by omega) (run_l tabOk ?_) | refine wl_cvA tabOk rfl rfl rfl (by simp only [inK]; omega) rfl rfl rfl (run_l tabOk ?_) | refine wl_cvB tabOk rfl rfl rfl rfl rfl rfl (run_l tabOk ?_) | refine wl_rem rfl rfl rfl rfl rfl rfl (by omega) (by omega) (fun r hr hr0 hr1 hr2 => run_l tabOk ?_) | refine wl_quo rfl rfl rfl rfl rfl rfl (by omega) (by omega) (by simp only [inK]; omega) (run_l tabOk ?_) | refine wl_mul rfl rfl rfl rfl rfl rfl (by omega) (by omega) (run_l tabOk ?_) | refine gs_dt (by first | assumption | omega) ?_ | refine gs_df (by first | assumption | omega) ?_ | refine gs_t (by assumption) ?_ | refine gs_f (by assumption) ?_ | refine gs_d (fun hg => ?_) (fun hg => ?_) | refine gs_n (fun hg => ?_) (fun hg => ?_) | refine gs_nb (fun hg => ?_) (fun hg => ?_) | refine gs_b (fun hg => ?_) (fun hg => ?_)) <;> conv => whnf) | refine fin1 rfl rfl ?_))
  refine wl_bit (r := ((x &&& 6148914691236517205 : Nat) : Int)) (band _ 6148914691236517205 6148914691236517205 rfl hx (by omega)) rfl rfl rfl rfl rfl rfl rfl (run_l tabOk ?_); conv => whnf
  refine wl_addr (r := (x1 : Int)) (addu e1 l1) rfl rfl rfl rfl rfl rfl (run_l tabOk ?_); conv => whnf
  (repeat' (first | ((first | refine wl_add rfl rfl rfl rfl rfl rfl (by omega) (by omega) (run_l tabOk ?_) | refine wl_sub rfl rfl rfl rfl rfl rfl (by omega) (by omega) (run_l tabOk ?_) | refine wl_cvA tabOk rfl rfl rfl (by simp only [inK]; omega) rfl rfl rfl (run_l tabOk ?_) | refine wl_cvB tabOk rfl rfl rfl rfl rfl rfl (run_l tabOk ?_) | refine wl_rem rfl rfl rfl rfl rfl rfl (by omega) (by omega) (fun r hr hr0 hr1 hr2 => run_l tabOk ?_) | refine wl_quo rfl rfl rfl rfl rfl rfl (by omega) (by omega) (by simp only [inK]; omega) (run_l tabOk ?_) | refine wl_mul rfl rfl rfl rfl rfl rfl (by omega) (by omega) (run_l tabOk ?_) | refine gs_dt (by first | assumption | omega) ?_ | refine gs_df (by first | assumption | omega) ?_ | refine gs_t (by assumption) ?_ | refine gs_f (by assumption) ?_ | refine gs_d (fun hg => ?_) (fun hg => ?_) | refine gs_n (fun hg => ?_) (fun hg => ?_) | refine gs_nb (fun hg => ?_) (fun hg => ?_) | refine gs_b (fun hg => ?_) (fun hg => ?_)) <;> conv => whnf) | refine fin1 rfl rfl ?_))
  refine wl_shr (r := ((x1 >>> 2 : Nat) : Int)) (shr_u64 x1 2 2 rfl (by omega)) rfl rfl rfl (by omega) rfl rfl rfl (run_l tabOk ?_); conv => whnf
  refine wl_bit (r := ((x1 >>> 2 &&& 3689348814741910323 : Nat) : Int)) (band _ 3689348814741910323 3689348814741910323 rfl (shr_le _ _ l1) (by omega)) rfl rfl rfl rfl rfl rfl rfl (run_l tabOk ?_); conv => whnf
  (repeat' (first | ((first | refine wl_add rfl rfl rfl rfl rfl rfl (by omega) (by omega) (run_l tabOk ?_) | refine wl_sub rfl rfl rfl rfl rfl rfl (by omega) (by omega) (run_l tabOk ?_) | refine wl_cvA tabOk rfl rfl rfl (by simp only [inK]; omega) rfl rfl rfl (run_l tabOk ?_) | refine wl_cvB tabOk rfl rfl rfl rfl rfl rfl (run_l tabOk ?_) | refine wl_rem rfl rfl rfl rfl rfl rfl (by omega) (by omega) (fun r hr hr0 hr1 hr2 => run_l tabOk ?_) | refine wl_quo rfl rfl rfl rfl rfl rfl (by omega) (by omega) (by simp only [inK]; omega) (run_l tabOk ?_) | refine wl_mul rfl rfl rfl rfl rfl rfl (by omega) (by omega) (run_l tabOk ?_) | refine gs_dt (by first | assumption | omega) ?_ | refine gs_df (by first | assumption | omega) ?_ | refine gs_t (by assumption) ?_ | refine gs_f (by assumption) ?_ | refine gs_d (fun hg => ?_) (fun hg => ?_) | refine gs_n (fun hg => ?_) (fun hg => ?_) | refine gs_nb (fun hg => ?_) (fun hg => ?_) | refine gs_b (fun hg => ?_) (fun hg => ?_)) <;> conv => whnf) | refine fin1 rfl rfl ?_))
  refine wl_bit (r := ((x1 &&& 3689348814741910323 : Nat) : Int)) (band _ 3689348814741910323 3689348814741910323 rfl l1 (by omega)) rfl rfl rfl rfl rfl rfl rfl (run_l tabOk ?_); conv => whnf
  refine wl_addr (r := (x2 : Int)) (addu e2 (by omega)) rfl rfl rfl rfl rfl rfl (run_l tabOk ?_); conv => whnf
  (repeat' (first | ((first | refine wl_add rfl rfl rfl rfl rfl rfl (by omega) (by omega) (run_l tabOk ?_) | refine wl_sub rfl rfl rfl rfl rfl rfl (by omega) (by omega) (run_l tabOk ?_) | refine wl_cvA tabOk rfl rfl rfl (by simp only [inK]; omega) rfl rfl rfl (run_l tabOk ?_) | refine wl_cvB tabOk rfl rfl rfl rfl rfl rfl (run_l tabOk ?_) | refine wl_rem rfl rfl rfl rfl rfl rfl (by omega) (by omega) (fun r hr hr0 hr1 hr2 => run_l tabOk ?_) | refine wl_quo rfl rfl rfl rfl rfl rfl (by omega) (by omega) (by simp only [inK]; omega) (run_l tabOk ?_) | refine wl_mul rfl rfl rfl rfl rfl rfl (by omega) (by omega) (run_l tabOk ?_) | refine gs_dt (by first | assumption | omega) ?_ | refine gs_df (by first | assumption | omega) ?_ | refine gs_t (by assumption) ?_ | refine gs_f (by assumption) ?_ | refine gs_d (fun hg => ?_) (fun hg => ?_) | refine gs_n (fun hg => ?_) (fun hg => ?_) | refine gs_nb (fun hg => ?_) (fun hg => ?_) | refine gs_b (fun hg => ?_) (fun hg => ?_)) <;> conv => whnf) | refine fin1 rfl rfl ?_))
  refine wl_shr (r := ((x2 >>> 4 : Nat) : Int)) (shr_u64 x2 4 4 rfl (by omega)) rfl rfl rfl (by omega) rfl rfl rfl (run_l tabOk ?_); conv => whnf
  (repeat' (first | ((first | refine wl_add rfl rfl rfl rfl rfl rfl (by omega) (by omega) (run_l tabOk ?_) | refine wl_sub rfl rfl rfl rfl rfl rfl (by omega) (by omega) (run_l tabOk ?_) | refine wl_cvA tabOk rfl rfl rfl (by simp only [inK]; omega) rfl rfl rfl (run_l tabOk ?_) | refine wl_cvB tabOk rfl rfl rfl rfl rfl rfl (run_l tabOk ?_) | refine wl_rem rfl rfl rfl rfl rfl rfl (by omega) (by omega) (fun r hr hr0 hr1 hr2 => run_l tabOk ?_) | refine wl_quo rfl rfl rfl rfl rfl rfl (by omega) (by omega) (by simp only [inK]; omega) (run_l tabOk ?_) | refine wl_mul rfl rfl rfl rfl rfl rfl (by omega) (by omega) (run_l tabOk ?_) | refine gs_dt (by first | assumption | omega) ?_ | refine gs_df (by first | assumption | omega) ?_ | refine gs_t (by assumption) ?_ | refine gs_f (by assumption) ?_ | refine gs_d (fun hg => ?_) (fun hg => ?_) | refine gs_n (fun hg => ?_) (fun hg => ?_) | refine gs_nb (fun hg => ?_) (fun hg => ?_) | refine gs_b (fun hg => ?_) (fun hg => ?_)) <;> conv => whnf) | refine fin1 rfl rfl ?_))
  refine wl_addr (r := ((x2 >>> 4 + x2 : Nat) : Int)) (addu rfl l3) rfl rfl rfl rfl rfl rfl (run_l tabOk ?_); conv => whnf
  refine wl_bit (r := (x3 : Int)) (by rw [band _ 1085102592571150095 1085102592571150095 rfl l3 (by omega), e3]) rfl rfl rfl rfl rfl rfl rfl (run_l tabOk ?_); conv => whnf
  (repeat' (first | ((first | refine wl_add rfl rfl rfl rfl rfl rfl (by omega) (by omega) (run_l tabOk ?_) | refine wl_sub rfl rfl rfl rfl rfl rfl (by omega) (by omega) (run_l tabOk ?_) | refine wl_cvA tabOk rfl rfl rfl (by simp only [inK]; omega) rfl rfl rfl (run_l tabOk ?_) | refine wl_cvB tabOk rfl rfl rfl rfl rfl rfl (run_l tabOk ?_) | refine wl_rem rfl rfl rfl rfl rfl rfl (by omega) (by omega) (fun r hr hr0 hr1 hr2 => run_l tabOk ?_) | refine wl_quo rfl rfl rfl rfl rfl rfl (by omega) (by omega) (by simp only [inK]; omega) (run_l tabOk ?_) | refine wl_mul rfl rfl rfl rfl rfl rfl (by omega) (by omega) (run_l tabOk ?_) | refine gs_dt (by first | assumption | omega) ?_ | refine gs_df (by first | assumption | omega) ?_ | refine gs_t (by assumption) ?_ | refine gs_f (by assumption) ?_ | refine gs_d (fun hg => ?_) (fun hg => ?_) | refine gs_n (fun hg => ?_) (fun hg => ?_) | refine gs_nb (fun hg => ?_) (fun hg => ?_) | refine gs_b (fun hg => ?_) (fun hg => ?_)) <;> conv => whnf) | refine fin1 rfl rfl ?_))
  refine wl_shr (r := ((x3 / 256 : Nat) : Int)) (by rw [shr_u64 x3 8 8 rfl (by omega), Nat.shiftRight_eq_div_pow]) rfl rfl rfl (by omega) rfl rfl rfl (run_l tabOk ?_); conv => whnf
  refine wl_addr (r := (x4 : Int)) (addu e4 (by omega)) rfl rfl rfl rfl rfl rfl (run_l tabOk ?_); conv => whnf
  (repeat' (first | ((first | refine wl_add rfl rfl rfl rfl rfl rfl (by omega) (by omega) (run_l tabOk ?_) | refine wl_sub rfl rfl rfl rfl rfl rfl (by omega) (by omega) (run_l tabOk ?_) | refine wl_cvA tabOk rfl rfl rfl (by simp only [inK]; omega) rfl rfl rfl (run_l tabOk ?_) | refine wl_cvB tabOk rfl rfl rfl rfl rfl rfl (run_l tabOk ?_) | refine wl_rem rfl rfl rfl rfl rfl rfl (by omega) (by omega) (fun r hr hr0 hr1 hr2 => run_l tabOk ?_) | refine wl_quo rfl rfl rfl rfl rfl rfl (by omega) (by omega) (by simp only [inK]; omega) (run_l tabOk ?_) | refine wl_mul rfl rfl rfl rfl rfl rfl (by omega) (by omega) (run_l tabOk ?_) | refine gs_dt (by first | assumption | omega) ?_ | refine gs_df (by first | assumption | omega) ?_ | refine gs_t (by assumption) ?_ | refine gs_f (by assumption) ?_ | refine gs_d (fun hg => ?_) (fun hg => ?_) | refine gs_n (fun hg => ?_) (fun hg => ?_) | refine gs_nb (fun hg => ?_) (fun hg => ?_) | refine gs_b (fun hg => ?_) (fun hg => ?_)) <;> conv => whnf) | refine fin1 rfl rfl ?_))
  refine wl_shr (r := ((x4 / 65536 : Nat) : Int)) (by rw [shr_u64 x4 16 16 rfl (by omega), Nat.shiftRight_eq_div_pow]) rfl rfl rfl (by omega) rfl rfl rfl (run_l tabOk ?_); conv => whnf
  refine wl_addr (r := (x5 : Int)) (addu e5 (by omega)) rfl rfl rfl rfl rfl rfl (run_l tabOk ?_); conv => whnf
  (repeat' (first | ((first | refine wl_add rfl rfl rfl rfl rfl rfl (by omega) (by omega) (run_l tabOk ?_) | refine wl_sub rfl rfl rfl rfl rfl rfl (by omega) (by omega) (run_l tabOk ?_) | refine wl_cvA tabOk rfl rfl rfl (by simp only [inK]; omega) rfl rfl rfl (run_l tabOk ?_) | refine wl_cvB tabOk rfl rfl rfl rfl rfl rfl (run_l tabOk ?_) | refine wl_rem rfl rfl rfl rfl rfl rfl (by omega) (by omega) (fun r hr hr0 hr1 hr2 => run_l tabOk ?_) | refine wl_quo rfl rfl rfl rfl rfl rfl (by omega) (by omega) (by simp only [inK]; omega) (run_l tabOk ?_) | refine wl_mul rfl rfl rfl rfl rfl rfl (by omega) (by omega) (run_l tabOk ?_) | refine gs_dt (by first | assumption | omega) ?_ | refine gs_df (by first | assumption | omega) ?_ | refine gs_t (by assumption) ?_ | refine gs_f (by assumption) ?_ | refine gs_d (fun hg => ?_) (fun hg => ?_) | refine gs_n (fun hg => ?_) (fun hg => ?_) | refine gs_nb (fun hg => ?_) (fun hg => ?_) | refine gs_b (fun hg => ?_) (fun hg => ?_)) <;> conv => whnf) | refine fin1 rfl rfl ?_))
  refine wl_shr (r := ((x5 / 4294967296 : Nat) : Int)) (by rw [shr_u64 x5 32 32 rfl (by omega), Nat.shiftRight_eq_div_pow]) rfl rfl rfl (by omega) rfl rfl rfl (run_l tabOk ?_); conv => whnf
  refine wl_addr (r := (x6 : Int)) (addu e6 (by omega)) rfl rfl rfl rfl rfl rfl (run_l tabOk ?_); conv => whnf
  (repeat' (first | ((first | refine wl_add rfl rfl rfl rfl rfl rfl (by omega) (by omega) (run_l tabOk ?_) | refine wl_sub rfl rfl rfl rfl rfl rfl (by omega) (by omega) (run_l tabOk ?_) | refine wl_cvA tabOk rfl rfl rfl (by simp only [inK]; omega) rfl rfl rfl (run_l tabOk ?_) | refine wl_cvB tabOk rfl rfl rfl rfl rfl rfl (run_l tabOk ?_) | refine wl_rem rfl rfl rfl rfl rfl rfl (by omega) (by omega) (fun r hr hr0 hr1 hr2 => run_l tabOk ?_) | refine wl_quo rfl rfl rfl rfl rfl rfl (by omega) (by omega) (by simp only [inK]; omega) (run_l tabOk ?_) | refine wl_mul rfl rfl rfl rfl rfl rfl (by omega) (by omega) (run_l tabOk ?_) | refine gs_dt (by first | assumption | omega) ?_ | refine gs_df (by first | assumption | omega) ?_ | refine gs_t (by assumption) ?_ | refine gs_f (by assumption) ?_ | refine gs_d (fun hg => ?_) (fun hg => ?_) | refine gs_n (fun hg => ?_) (fun hg => ?_) | refine gs_nb (fun hg => ?_) (fun hg => ?_) | refine gs_b (fun hg => ?_) (fun hg => ?_)) <;> conv => whnf) | refine fin1 rfl rfl ?_))
  refine wl_bit (r := ((bitsOf x).length : Int)) (by rw [band_i64 _ 127 127 rfl l6 (by omega), show (127 : Nat) = 2 ^ 7 - 1 from rfl, Nat.and_two_pow_sub_one_eq_mod]; exact congrArg _ hf) rfl rfl rfl rfl rfl rfl rfl (run_l tabOk ?_); conv => whnf
  (repeat' (first | ((first | refine wl_add rfl rfl rfl rfl rfl rfl (by omega) (by omega) (run_l tabOk ?_) | refine wl_sub rfl rfl rfl rfl rfl rfl (by omega) (by omega) (run_l tabOk ?_) | refine wl_cvA tabOk rfl rfl rfl (by simp only [inK]; omega) rfl rfl rfl (run_l tabOk ?_) | refine wl_cvB tabOk rfl rfl rfl rfl rfl rfl (run_l tabOk ?_) | refine wl_rem rfl rfl rfl rfl rfl rfl (by omega) (by omega) (fun r hr hr0 hr1 hr2 => run_l tabOk ?_) | refine wl_quo rfl rfl rfl rfl rfl rfl (by omega) (by omega) (by simp only [inK]; omega) (run_l tabOk ?_) | refine wl_mul rfl rfl rfl rfl rfl rfl (by omega) (by omega) (run_l tabOk ?_) | refine gs_dt (by first | assumption | omega) ?_ | refine gs_df (by first | assumption | omega) ?_ | refine gs_t (by assumption) ?_ | refine gs_f (by assumption) ?_ | refine gs_d (fun hg => ?_) (fun hg => ?_) | refine gs_n (fun hg => ?_) (fun hg => ?_) | refine gs_nb (fun hg => ?_) (fun hg => ?_) | refine gs_b (fun hg => ?_) (fun hg => ?_)) <;> conv => whnf) | refine fin1 rfl rfl ?_))
  exact ⟨rfl, Below.refl _ _⟩
end Go.Proofs.Ytjggjhgbobmkhaa

/- pile: Len, All. -/
namespace Go.Proofs.Ytjggjhgbobmkhaa
open Go.RowKit
set_option linter.unusedVariables false
set_option linter.unusedSimpArgs false
set_option maxRecDepth 100000
theorem numsB_take {bs : List Blk} {i : Nat} (hi : i < bs.length) : numsB (bs.take (i + 1)) = numsB (bs.take i) ++ numsOf bs[i]! := by
  rw [take_nextB hi, numsB_snoc]
theorem numsOf_len (b : Blk) : (numsOf b).length = (bitsOf b.w).length := by simp [numsOf]
set_option maxHeartbeats 4000000 in
theorem pLen {base g : Nat} {w : World} {bs : List Blk} {fp : List Nat} (hP : PSet base g w bs fp) (hl : bs.length ≤ 1099511627776) :
    Calls Try.prog 23 #[.pointer (some ⟨g, 0, none⟩)] w fun e w' => e = .returned (.int .i64 ((numsB bs).length : Nat)) ∧ Below w.heap.size w w' := by
  obtain ⟨V, hb, ho, hfp, hne⟩ := hP.ex
  obtain ⟨A, c, rfl, hlc, hrow⟩ := ho.row
  refine enterR (args := [.pointer (some ⟨g, 0, none⟩)]) tabOk Try.func23 rfl Try.ntmps23 rfl ?_; conv => whnf
  (repeat' (first | (refine wl_Lg tabOk hb rfl rfl rfl rfl rfl rfl rfl (run_l tabOk ?_); conv => whnf) | (refine wl_pnF tabOk rfl rfl rfl rfl rfl rfl (run_l tabOk ?_); conv => whnf) | (refine wl_pnT tabOk rfl rfl rfl rfl rfl rfl (run_l tabOk ?_); conv => whnf) | (refine wl_pqF tabOk rfl rfl rfl rfl rfl rfl (run_l tabOk ?_); conv => whnf) | (refine wl_pqT tabOk rfl rfl rfl rfl rfl rfl (run_l tabOk ?_); conv => whnf) | ((first | refine wl_add rfl rfl rfl rfl rfl rfl (by omega) (by omega) (run_l tabOk ?_) | refine wl_sub rfl rfl rfl rfl rfl rfl (by omega) (by omega) (run_l tabOk ?_) | refine gs_dt (by first | assumption | omega) ?_ | refine gs_df (by first | assumption | omega) ?_ | refine gs_t (by assumption) ?_ | refine gs_f (by assumption) ?_ | refine gs_d (fun hg => ?_) (fun hg => ?_) | refine gs_n (fun hg => ?_) (fun hg => ?_) | refine gs_nb (fun hg => ?_) (fun hg => ?_) | refine gs_b (fun hg => ?_) (fun hg => ?_)) <;> conv => whnf) | refine fin1 rfl rfl ?_))
  refine lp_loop tabOk (X := Nat) (fun i => [(3, .int .i64 ((numsB (bs.take i)).length : Nat)), (11, .slice A bs.length c), (12, .int .i64 bs.length), (13, .int .i64 i)])
    (fun i wr => i ≤ bs.length ∧ Below w.heap.size w wr) (fun i => bs.length - i) 0 ⟨rfl, rfl, rfl, rfl, trivial⟩ ⟨by omega, Below.refl _ _⟩ ?_
  intro i G wr ⟨hi, hB⟩
  conv => whnf
  by_cases hlt : i < bs.length
  · obtain ⟨ad, rfl, hc⟩ := rowB_at (hrow.up stays_Blk hB) i hlt
    have hnl := numsB_len (bs.take i)
    have htl : (bs.take i).length ≤ 1099511627776 := by simp; omega
    have hbl := bitsOf_len bs[i]!.w
    have hrg := hP.wf.rng _ (mem_getB hlt)
    generalize hN : (numsB (bs.take i)).length = N at hnl
    (repeat' (first | (refine wl_Xn tabOk 82 2 rfl rfl rfl rfl rfl rfl rfl (by omega) (run_l tabOk ?_); conv => whnf) | (refine wl_La tabOk hc rfl rfl rfl rfl rfl rfl (run_l tabOk ?_); conv => whnf) | ((first | refine wl_add rfl rfl rfl rfl rfl rfl (by omega) (by omega) (run_l tabOk ?_) | refine wl_sub rfl rfl rfl rfl rfl rfl (by omega) (by omega) (run_l tabOk ?_) | refine gs_dt (by first | assumption | omega) ?_ | refine gs_df (by first | assumption | omega) ?_ | refine gs_t (by assumption) ?_ | refine gs_f (by assumption) ?_ | refine gs_d (fun hg => ?_) (fun hg => ?_) | refine gs_n (fun hg => ?_) (fun hg => ?_) | refine gs_nb (fun hg => ?_) (fun hg => ?_) | refine gs_b (fun hg => ?_) (fun hg => ?_)) <;> conv => whnf) | refine fin1 rfl rfl ?_))
    refine wl_alloc tabOk rfl rfl rfl rfl rfl rfl ?_
    intro g5 w1 hn1
    refine run_l tabOk ?_
    conv => whnf
    refine wl_Sa tabOk hn1.blk rfl rfl rfl rfl rfl (by simp [Value.oneCell']) rfl rfl ?_
    intro w2 hp2
    have hB2 : Below wr.heap.size wr w2 := hp2.below hn1.below (by have := hn1.at_; omega) (by have := hn1.size; omega)
    have hb5 := hp2.blk
    refine run_l tabOk ?_
    conv => whnf
    (repeat' (first | (refine wl_Lg tabOk hb5 rfl rfl rfl rfl rfl rfl rfl (run_l tabOk ?_); conv => whnf) | ((first | refine wl_add rfl rfl rfl rfl rfl rfl (by omega) (by omega) (run_l tabOk ?_) | refine wl_sub rfl rfl rfl rfl rfl rfl (by omega) (by omega) (run_l tabOk ?_) | refine gs_dt (by first | assumption | omega) ?_ | refine gs_df (by first | assumption | omega) ?_ | refine gs_t (by assumption) ?_ | refine gs_f (by assumption) ?_ | refine gs_d (fun hg => ?_) (fun hg => ?_) | refine gs_n (fun hg => ?_) (fun hg => ?_) | refine gs_nb (fun hg => ?_) (fun hg => ?_) | refine gs_b (fun hg => ?_) (fun hg => ?_)) <;> conv => whnf) | refine fin1 rfl rfl ?_))
    refine wl_C fn41 (pOnes bs[i]!.w hrg.2.2.2 w2) rfl rfl rfl rfl rfl rfl rfl ?_
    rintro _ w3 ⟨rfl, hB3⟩
    refine ⟨_, rfl, run_l tabOk ?_⟩
    conv => whnf
    (repeat' (first | ((first | refine wl_add rfl rfl rfl rfl rfl rfl (by omega) (by omega) (run_l tabOk ?_) | refine wl_sub rfl rfl rfl rfl rfl rfl (by omega) (by omega) (run_l tabOk ?_) | refine gs_dt (by first | assumption | omega) ?_ | refine gs_df (by first | assumption | omega) ?_ | refine gs_t (by assumption) ?_ | refine gs_f (by assumption) ?_ | refine gs_d (fun hg => ?_) (fun hg => ?_) | refine gs_n (fun hg => ?_) (fun hg => ?_) | refine gs_nb (fun hg => ?_) (fun hg => ?_) | refine gs_b (fun hg => ?_) (fun hg => ?_)) <;> conv => whnf) | refine fin1 rfl rfl ?_))
    refine ⟨i + 1, ⟨?_, rfl, rfl, rfl, trivial⟩, ⟨by omega, bup (bup hB hB2) hB3⟩, by omega⟩
    show Value.int .i64 _ = Value.int .i64 _
    rw [numsB_take hlt, List.length_append, numsOf_len, hN]
    rfl
  · (repeat' (first | ((first | refine wl_add rfl rfl rfl rfl rfl rfl (by omega) (by omega) (run_l tabOk ?_) | refine wl_sub rfl rfl rfl rfl rfl rfl (by omega) (by omega) (run_l tabOk ?_) | refine gs_dt (by first | assumption | omega) ?_ | refine gs_df (by first | assumption | omega) ?_ | refine gs_t (by assumption) ?_ | refine gs_f (by assumption) ?_ | refine gs_d (fun hg => ?_) (fun hg => ?_) | refine gs_n (fun hg => ?_) (fun hg => ?_) | refine gs_nb (fun hg => ?_) (fun hg => ?_) | refine gs_b (fun hg => ?_) (fun hg => ?_)) <;> conv => whnf) | refine fin1 rfl rfl ?_))
    have : bs.take i = bs := List.take_of_length_le (by omega)
    rw [this]
    exact ⟨rfl, hB⟩
end Go.Proofs.Ytjggjhgbobmkhaa

/- pile: Of. Lists that rise. -/
namespace Go.Proofs.Ytjggjhgbobmkhaa
open Go.RowKit
set_option linter.unusedVariables false
set_option linter.unusedSimpArgs false
set_option maxRecDepth 100000
/-- A set of its own. -/
structure OwnS (w0 : World) (g : Nat) (w : World) (bs : List Blk) (fp : List Nat) : Prop where
  set : PSet w0.heap.size g w bs fp
  below : Below w0.heap.size w0 w
/-- An empty one is made. -/
theorem pset_new {w w1 : World} {g : Nat} (h : New w w1 g [.slice none 0 0] 76) : PSet w.heap.size g w1 [] [g] :=
  ⟨⟨.slice none 0 0, h.blk, own_nil .., rfl, by simp [Value.ownBlock]⟩, Nat.le_of_eq h.at_.symm, WFB.nil⟩
theorem OwnS.add {w0 w w' : World} {g : Nat} {bs bs' : List Blk} {fp fp' : List Nat} {n : Int} {e : Ending} (h : OwnS w0 g w bs fp) (r : AddR w0.heap.size g w bs fp n e w' bs' fp') : OwnS w0 g w' bs' fp' :=
  ⟨r.set, r.kept.below h.below h.below.size (fun k hk => (h.set.lt k hk).1)⟩
set_option maxHeartbeats 4000000 in
theorem pOf (l : List Int) (A : Option Addr) (c : Nat) (w : World) (h : RI w A l) (hl : l.length ≤ 1048576) :
    Calls Try.prog 39 #[.slice A l.length c] w fun e w' => ∃ g bs fp, e = .returned (.pointer (some ⟨g, 0, none⟩)) ∧ OwnS w g w' bs fp ∧ (∀ m : Nat, memB bs m = decide ((m : Int) ∈ l)) ∧ bs.length ≤ l.length := by
  refine enterR (args := [.slice A l.length c]) tabOk Try.func39 rfl Try.ntmps39 rfl ?_; conv => whnf
  (repeat' (first | ((first | refine wl_add rfl rfl rfl rfl rfl rfl (by omega) (by omega) (run_l tabOk ?_) | refine wl_sub rfl rfl rfl rfl rfl rfl (by omega) (by omega) (run_l tabOk ?_) | refine gs_dt (by first | assumption | omega) ?_ | refine gs_df (by first | assumption | omega) ?_ | refine gs_t (by assumption) ?_ | refine gs_f (by assumption) ?_ | refine gs_d (fun hg => ?_) (fun hg => ?_) | refine gs_n (fun hg => ?_) (fun hg => ?_) | refine gs_nb (fun hg => ?_) (fun hg => ?_) | refine gs_b (fun hg => ?_) (fun hg => ?_)) <;> conv => whnf) | refine fin1 rfl rfl ?_))
  refine wl_box rfl rfl rfl rfl rfl rfl ?_
  intro g w1 hn1
  refine run_l tabOk ?_
  conv => whnf
  (repeat' (first | ((first | refine wl_add rfl rfl rfl rfl rfl rfl (by omega) (by omega) (run_l tabOk ?_) | refine wl_sub rfl rfl rfl rfl rfl rfl (by omega) (by omega) (run_l tabOk ?_) | refine gs_dt (by first | assumption | omega) ?_ | refine gs_df (by first | assumption | omega) ?_ | refine gs_t (by assumption) ?_ | refine gs_f (by assumption) ?_ | refine gs_d (fun hg => ?_) (fun hg => ?_) | refine gs_n (fun hg => ?_) (fun hg => ?_) | refine gs_nb (fun hg => ?_) (fun hg => ?_) | refine gs_b (fun hg => ?_) (fun hg => ?_)) <;> conv => whnf) | refine fin1 rfl rfl ?_))
  refine lp_loop tabOk (X := Nat) (fun i => [(3, .pointer (some ⟨g, 0, none⟩)), (8, .slice A l.length c), (9, .int .i64 l.length), (10, .int .i64 i)])
    (fun i wr => i ≤ l.length ∧ ∃ bs fp, OwnS w g wr bs fp ∧ (∀ m : Nat, memB bs m = decide ((m : Int) ∈ l.take i)) ∧ bs.length ≤ i) (fun i => l.length - i) 0 ⟨rfl, rfl, rfl, rfl, trivial⟩ ⟨by omega, [], [g], ⟨pset_new hn1, hn1.below⟩, by simp [memB_nil], by simp⟩ ?_
  intro i G wr ⟨hi, bs, fp, hO, hm, hbl⟩
  conv => whnf
  by_cases hlt : i < l.length
  · obtain ⟨o, ad, ho, rfl, f0, ho1, ho2⟩ := intsE (h.up (stays_I _) hO.below) i hlt
    (repeat' (first | (refine wl_L tabOk rfl rfl rfl rfl rfl rfl f0 (run_l tabOk ?_); conv => whnf) | (refine wl_Xn tabOk 3 1 rfl rfl rfl rfl rfl rfl rfl (by omega) (run_l tabOk ?_); conv => whnf) | ((first | refine wl_add rfl rfl rfl rfl rfl rfl (by omega) (by omega) (run_l tabOk ?_) | refine wl_sub rfl rfl rfl rfl rfl rfl (by omega) (by omega) (run_l tabOk ?_) | refine gs_dt (by first | assumption | omega) ?_ | refine gs_df (by first | assumption | omega) ?_ | refine gs_t (by assumption) ?_ | refine gs_f (by assumption) ?_ | refine gs_d (fun hg => ?_) (fun hg => ?_) | refine gs_n (fun hg => ?_) (fun hg => ?_) | refine gs_nb (fun hg => ?_) (fun hg => ?_) | refine gs_b (fun hg => ?_) (fun hg => ?_)) <;> conv => whnf) | refine fin1 rfl rfl ?_))
    refine wl_C fn37 (pAdd hO.set o ho2 (by omega) hO.below.size) rfl rfl rfl rfl rfl rfl rfl ?_
    rintro _ w2 ⟨bs', fp', r⟩
    refine ⟨_, r.ret, run_l tabOk ?_⟩
    conv => whnf
    (repeat' (first | ((first | refine wl_add rfl rfl rfl rfl rfl rfl (by omega) (by omega) (run_l tabOk ?_) | refine wl_sub rfl rfl rfl rfl rfl rfl (by omega) (by omega) (run_l tabOk ?_) | refine gs_dt (by first | assumption | omega) ?_ | refine gs_df (by first | assumption | omega) ?_ | refine gs_t (by assumption) ?_ | refine gs_f (by assumption) ?_ | refine gs_d (fun hg => ?_) (fun hg => ?_) | refine gs_n (fun hg => ?_) (fun hg => ?_) | refine gs_nb (fun hg => ?_) (fun hg => ?_) | refine gs_b (fun hg => ?_) (fun hg => ?_)) <;> conv => whnf) | refine fin1 rfl rfl ?_))
    refine ⟨i + 1, ⟨rfl, rfl, rfl, rfl, trivial⟩, ⟨by omega, bs', fp', hO.add r, fun m => ?_, by have := r.len; omega⟩, by omega⟩
    rw [r.mem, hm, take_next hlt, ho.out]
    simp [Bool.decide_or, eq_comm]
  · (repeat' (first | ((first | refine wl_add rfl rfl rfl rfl rfl rfl (by omega) (by omega) (run_l tabOk ?_) | refine wl_sub rfl rfl rfl rfl rfl rfl (by omega) (by omega) (run_l tabOk ?_) | refine gs_dt (by first | assumption | omega) ?_ | refine gs_df (by first | assumption | omega) ?_ | refine gs_t (by assumption) ?_ | refine gs_f (by assumption) ?_ | refine gs_d (fun hg => ?_) (fun hg => ?_) | refine gs_n (fun hg => ?_) (fun hg => ?_) | refine gs_nb (fun hg => ?_) (fun hg => ?_) | refine gs_b (fun hg => ?_) (fun hg => ?_)) <;> conv => whnf) | refine fin1 rfl rfl ?_))
    refine ⟨g, bs, fp, rfl, hO, fun m => ?_, by omega⟩
    rw [hm, List.take_of_length_le (by omega)]
end Go.Proofs.Ytjggjhgbobmkhaa

/- pile: Join. -/
namespace Go.Proofs.Ytjggjhgbobmkhaa
open Go.RowKit
set_option linter.unusedVariables false
set_option linter.unusedSimpArgs false
set_option maxRecDepth 100000
section
variable {P : Program} {T : Nat → Option TI} {n : Nat} {Q : Post} {F : Fm} {w : World} {ops : Array Oper} {rest : List Oper} {o : Oper} {K : Fm → Prop} {C : World → Prop}
theorem wq_max {c : Call} {x y : Operand} {a b : Nat} (hop : o.op = .call c) (hcal : c.callee = .builtin .max) (hargs : c.args.toList = [x, y]) (hx : ev F x = .int .i64 a) (hy : ev F y = .int .i64 b) (hg : o.guard = none) {d : Nat} (hd : o.dst = some d) (hn : Nat.blt d n = true)
    (k : wq P n ops C rest K (upd F d (.int .i64 ((max a b : Nat) : Int)))) : wq P n ops C (o :: rest) K F := wq_val hg hd hn (fun w' _ => by
  have e : (if (b : Int) > (a : Int) then (b : Int) else (a : Int)) = ((max a b : Nat) : Int) := by split <;> omega
  rw [max_run hop hcal hargs hx hy, e]) k
theorem wq_bit {op : BinOp} {x y : Operand} {xt yt : TypeId} {ki : IntKind} {a b r : Int} (hr : bits op ki a b = r) (hop : o.op = .binOp op xt x y yt) (hx : ev F x = .int ki a) (hy : ev F y = .int ki b) (hb : isBit op = true) (hg : o.guard = none) {d : Nat} (hd : o.dst = some d) (hn : Nat.blt d n = true)
    (k : wq P n ops C rest K (upd F d (.int ki r))) : wq P n ops C (o :: rest) K F := wq_val hg hd hn (fun _ _ => by rw [bits_run hop hx hy hb, hr]) k
/-- make([]E, 0, m). -/
theorem wl_mk0 (hT : TabOk P T) (e s b : Nat) {t : TypeId} {x y : Operand} {m : Nat} {i : TI} {z : List Value} (hop : o.op = .makeSlice t x y) (hx : ev F x = .int .i64 0) (hy : ev F y = .int .i64 m) (h1 : appT T t e s b = true) (hi : T e = some i) (hz : i.zero.cells = z.toArray) (hg : o.guard = none) {d : Nat} (hd : o.dst = some d) (hn : Nat.blt d n = true)
    (hbig : b * m ≤ 281474976710656) (h63 : m ≤ 9223372036854775807)
    (k : ∀ g w1, New w w1 g (List.replicate m z).flatten e → wl P n ops rest Q (upd F d (.slice (some ⟨g, 0, none⟩) 0 m)) w1) : wl P n ops (o :: rest) Q F w := by
  obtain ⟨hu, j, z', hj, hz', hs, hby, hzs⟩ := appT_ok hT h1
  obtain ⟨j2, hj2, hz2, _, _⟩ := T_i hT hi
  rw [hj] at hj2
  cases hj2
  rw [hz'] at hz2
  cases hz2
  refine wl_val hg hd hn ?_ (k _ _ (new_alloc w _ e))
  have hbi : ((j.bytes : Int) * (m : Int)) ≤ 281474976710656 := by rw [hby, ← Int.natCast_mul]; omega
  have hr := run_make (P := P) w t e j i.zero hu hj hz' .i64 .i64 0 m (by omega) (by omega) hbi (by omega)
  simp only [Int.toNat_natCast] at hr
  have hc : madeCells i.zero.cells (m * j.size) = ((List.replicate m z).flatten).toArray := by
    rw [← zeros_eq z m]
    have hzl : z.length = s := by rw [hz] at hzs; simpa using hzs
    unfold madeCells
    rw [hz, hs, hzl]
    apply Array.ext'
    simp [hzl]
  rw [hc] at hr
  simp [execOp, hop, hx, hy, hr]
end
theorem ownsB_push {w : World} {base : Nat} {A : Option Addr} {c : Nat} {out : List Blk} {x : Blk} (h : w.ownsRow base 82 2 (.slice A (out.length + 1) c) (out.length + 1) (flatB out ++ blkC x)) : ownsB w base (.slice A (out ++ [x]).length c) (out ++ [x]) := by
  have e : (out ++ [x]).length = out.length + 1 := by simp
  show World.ownsRow _ _ _ _ _ _ _
  rw [e, flatB_app, flatB_one]
  exact h
/-- What Join leaves. -/
structure JoinR (b1 g1 : Nat) (w : World) (s t : List Blk) (e : Ending) (w' : World) (bs' : List Blk) (fp' : List Nat) : Prop where
  ret : e = .returned (.bool (!decide (bs' = s)))
  set : PSet b1 g1 w' bs' fp'
  kept : Kept [g1] w w'
  new : ∀ b ∈ fp', b = g1 ∨ w.heap.size ≤ b
  mem : ∀ n, memB bs' n = (memB s n || memB t n)
  len : bs'.length ≤ s.length + t.length
set_option maxHeartbeats 16000000 in
theorem pJoin {b1 b2 g1 g2 : Nat} {w : World} {s t : List Blk} {f1 f2 : List Nat} (hP : PSet b1 g1 w s f1) (hQ : PSet b2 g2 w t f2) (hl1 : s.length < 1099511627776) (hl2 : t.length < 1099511627776) (hb1 : b1 ≤ w.heap.size) :
    Calls Try.prog 38 #[.pointer (some ⟨g1, 0, none⟩), .pointer (some ⟨g2, 0, none⟩)] w fun e w' => ∃ bs' fp', JoinR b1 g1 w s t e w' bs' fp' := by
  obtain ⟨V1, hs, ho1, hf1, hne1⟩ := hP.ex
  obtain ⟨A, c, rfl, hlc1, hr1⟩ := ho1.row
  obtain ⟨V2, ht, ho2, hf2, hne2⟩ := hQ.ex
  obtain ⟨B, d, rfl, hlc2, hr2⟩ := ho2.row
  refine enterR (args := [.pointer (some ⟨g1, 0, none⟩), .pointer (some ⟨g2, 0, none⟩)]) tabOk Try.func38 rfl Try.ntmps38 rfl ?_; conv => whnf
  (repeat' (first | (refine wl_pnF tabOk rfl rfl rfl rfl rfl rfl (run_l tabOk ?_); conv => whnf) | (refine wl_pnT tabOk rfl rfl rfl rfl rfl rfl (run_l tabOk ?_); conv => whnf) | (refine wl_pqF tabOk rfl rfl rfl rfl rfl rfl (run_l tabOk ?_); conv => whnf) | (refine wl_pqT tabOk rfl rfl rfl rfl rfl rfl (run_l tabOk ?_); conv => whnf) | ((first | refine wl_add rfl rfl rfl rfl rfl rfl (by omega) (by omega) (run_l tabOk ?_) | refine gs_dt (by first | assumption | omega) ?_ | refine gs_df (by first | assumption | omega) ?_) <;> conv => whnf) | refine fin1 rfl rfl ?_))
  refine wc_qt 11 11 (stable_Bw _) tabOk mixed (by kernel_rfl) rfl (Below.refl _ _) ?_; conv => whnf
  (repeat' (first | (refine wq_Lg tabOk hs rfl rfl rfl rfl rfl rfl rfl (run_q tabOk ?_); conv => whnf) | (refine wq_Lg tabOk ht rfl rfl rfl rfl rfl rfl rfl (run_q tabOk ?_); conv => whnf) | (refine wq_max rfl rfl rfl rfl rfl rfl rfl rfl (run_q tabOk ?_); (conv => whnf)) | ((first | refine wq_add rfl rfl rfl rfl rfl rfl (by omega) (by omega) (run_q tabOk ?_) | refine gs_dt (by first | assumption | omega) ?_ | refine gs_df (by first | assumption | omega) ?_) <;> conv => whnf)))
  intro w1 _ hB1
  conv => whnf
  refine wl_mk0 tabOk 82 2 16 rfl rfl rfl rfl rfl rfl rfl rfl rfl (by omega) (by omega) ?_
  intro g6 w2 hn2
  refine run_l tabOk ?_
  conv => whnf
  have hs1 := hB1.size
  have hs2 := hn2.size
  have ho0 : ownsB w2 w.heap.size (.slice (some ⟨g6, 0, none⟩) ([] : List Blk).length (max s.length t.length)) [] := ⟨by simp [flatB], .inr ⟨g6, max s.length t.length, _, rfl, by have := hn2.at_; omega, hn2.blk, by simp, by simp only [maxLen]; omega, by simp, by simp [flatB]⟩⟩
  have hB02 := bup hB1 hn2.below
  (repeat' (first | ((first | refine wl_add rfl rfl rfl rfl rfl rfl (by omega) (by omega) (run_l tabOk ?_) | refine gs_dt (by first | assumption | omega) ?_ | refine gs_df (by first | assumption | omega) ?_) <;> conv => whnf) | refine fin1 rfl rfl ?_))
  refine lp_loop tabOk (X := Nat × Nat × List Blk × Option Addr × Nat × Bool) (fun y => [(0, .pointer (some ⟨g1, 0, none⟩)), (1, .pointer (some ⟨g2, 0, none⟩)), (5, .bool y.2.2.2.2.2), (6, .slice y.2.2.2.1 y.2.2.1.length y.2.2.2.2.1), (7, .int .i64 y.1), (8, .int .i64 y.2.1)])
    (fun y wr => JInv s t y.1 y.2.1 y.2.2.1 y.2.2.2.2.2 ∧ ownsB wr w.heap.size (.slice y.2.2.2.1 y.2.2.1.length y.2.2.2.2.1) y.2.2.1 ∧ Below w.heap.size w wr) (fun y => (s.length - y.1) + (t.length - y.2.1)) (0, 0, [], some ⟨g6, 0, none⟩, max s.length t.length, false) ⟨rfl, rfl, rfl, rfl, rfl, rfl, trivial⟩ ⟨JInv.start s t, ho0, hB02⟩ ?_
  clear ho0 hB02 hn2 hB1 hs1 hs2
  rintro ⟨i, k, out, D, dc, more⟩ G wr ⟨hJ, hO, hB⟩
  simp only at hJ hO
  dsimp only
  conv => whnf
  have hsr := blk_up hB hs
  have htr := blk_up hB ht
  have hi := hJ.hi
  have hk := hJ.hk
  have hol := hJ.len
  have hsz := hB.size
  by_cases hil : i < s.length
  · by_cases hkl : k < t.length
    · obtain ⟨ad, rfl, ha0, ha1⟩ := rowB_f (hr1.up stays_Blk hB) i hil
      obtain ⟨bd, rfl, hc0, hc1⟩ := rowB_f (hr2.up stays_Blk hB) k hkl
      rcases Int.lt_trichotomy s[i]!.a t[k]!.a with hlt | heq | hgt
      · (repeat' (first | (refine wl_Lg tabOk hsr rfl rfl rfl rfl rfl rfl rfl (run_l tabOk ?_); conv => whnf) | (refine wl_Lg tabOk htr rfl rfl rfl rfl rfl rfl rfl (run_l tabOk ?_); conv => whnf) | ((first | refine wl_add rfl rfl rfl rfl rfl rfl (by omega) (by omega) (run_l tabOk ?_) | refine gs_dt (by first | assumption | omega) ?_ | refine gs_df (by first | assumption | omega) ?_) <;> conv => whnf) | refine fin1 rfl rfl ?_))
        refine wc_qr tabOk mixed (by kernel_rfl) ?_; (conv => whnf)
        (repeat' (first | (refine wq_Lg tabOk hsr rfl rfl rfl rfl rfl rfl rfl (run_q tabOk ?_); conv => whnf) | (refine wq_Lg tabOk htr rfl rfl rfl rfl rfl rfl rfl (run_q tabOk ?_); conv => whnf) | (refine wq_L tabOk rfl rfl rfl rfl rfl rfl ha0 (run_q tabOk ?_); conv => whnf) | (refine wq_L tabOk rfl rfl rfl rfl rfl rfl hc0 (run_q tabOk ?_); conv => whnf) | (refine wq_Xn tabOk 82 2 rfl rfl rfl rfl rfl rfl rfl (by omega) (run_q tabOk ?_); conv => whnf) | ((first | refine wq_add rfl rfl rfl rfl rfl rfl (by omega) (by omega) (run_q tabOk ?_) | refine gs_dt (by first | assumption | omega) ?_ | refine gs_df (by first | assumption | omega) ?_) <;> conv => whnf)))
        intro w3 hB3
        conv => whnf
        (repeat' (first | ((first | refine wl_add rfl rfl rfl rfl rfl rfl (by omega) (by omega) (run_l tabOk ?_) | refine gs_dt (by first | assumption | omega) ?_ | refine gs_df (by first | assumption | omega) ?_) <;> conv => whnf) | refine fin1 rfl rfl ?_))
        have hB03 := bup hB hB3
        have hs3 := blk_up hB03 hs
        have hO3 := hO.keep (w1 := w3) fun b e => hB3.block b (hO.lt b e).2
        obtain ⟨ad3, e3, hc3⟩ := rowB_at (hr1.up stays_Blk hB03) i hil
        cases e3
        (repeat' (first | (refine wl_Lg tabOk hs3 rfl rfl rfl rfl rfl rfl rfl (run_l tabOk ?_); conv => whnf) | (refine wl_Xn tabOk 82 2 rfl rfl rfl rfl rfl rfl rfl (by omega) (run_l tabOk ?_); conv => whnf) | (refine wl_La tabOk hc3 rfl rfl rfl rfl rfl rfl (run_l tabOk ?_); conv => whnf) | ((first | refine wl_add rfl rfl rfl rfl rfl rfl (by omega) (by omega) (run_l tabOk ?_) | refine gs_dt (by first | assumption | omega) ?_ | refine gs_df (by first | assumption | omega) ?_) <;> conv => whnf) | refine fin1 rfl rfl ?_))
        refine wl_bs tabOk 82 2 rfl rfl rfl rfl rfl rfl rfl rfl rfl rfl ?_
        intro g8 w4 hn4
        refine run_l tabOk ?_
        conv => whnf
        have hO4 := hO3.keep (w1 := w4) fun b e => hn4.below.block b (hO3.lt b e).2
        refine wl_ap tabOk 82 2 16 hO4 hn4.blk rfl rfl rfl rfl rfl rfl rfl rfl rfl rfl rfl rfl (by simp [Value.oneCell']) (by omega) (by omega) (by have := hn4.size; have := hB3.size; omega) ?_
        intro A5 c5 w5 hown hgr hob
        have hpush := ownsB_push (x := s[i]!) hown
        have hB5 : Below w.heap.size w w5 := (bup hB03 hn4.below).grown hgr (by have := hn4.size; have := hB3.size; omega) (fun b e => (hO4.lt b e).1)
        have hlen5 : out.length + 1 = (out ++ [s[i]!]).length := by simp
        refine run_l tabOk ?_
        conv => whnf
        rw [hlen5]
        (repeat' (first | ((first | refine wl_add rfl rfl rfl rfl rfl rfl (by omega) (by omega) (run_l tabOk ?_) | refine gs_dt (by first | assumption | omega) ?_ | refine gs_df (by first | assumption | omega) ?_) <;> conv => whnf) | refine fin1 rfl rfl ?_))
        exact ⟨(i + 1, k, out ++ [s[i]!], A5, c5, more), ⟨rfl, rfl, rfl, rfl, rfl, rfl, trivial⟩, ⟨hJ.left hP.wf hQ.wf hil (.inr ⟨hkl, hlt⟩), hpush, hB5⟩, by simp only; omega⟩
      · (repeat' (first | (refine wl_Lg tabOk hsr rfl rfl rfl rfl rfl rfl rfl (run_l tabOk ?_); conv => whnf) | (refine wl_Lg tabOk htr rfl rfl rfl rfl rfl rfl rfl (run_l tabOk ?_); conv => whnf) | ((first | refine wl_add rfl rfl rfl rfl rfl rfl (by omega) (by omega) (run_l tabOk ?_) | refine gs_dt (by first | assumption | omega) ?_ | refine gs_df (by first | assumption | omega) ?_) <;> conv => whnf) | refine fin1 rfl rfl ?_))
        refine wc_qr tabOk mixed (by kernel_rfl) ?_; (conv => whnf)
        (repeat' (first | (refine wq_Lg tabOk hsr rfl rfl rfl rfl rfl rfl rfl (run_q tabOk ?_); conv => whnf) | (refine wq_Lg tabOk htr rfl rfl rfl rfl rfl rfl rfl (run_q tabOk ?_); conv => whnf) | (refine wq_L tabOk rfl rfl rfl rfl rfl rfl ha0 (run_q tabOk ?_); conv => whnf) | (refine wq_L tabOk rfl rfl rfl rfl rfl rfl hc0 (run_q tabOk ?_); conv => whnf) | (refine wq_Xn tabOk 82 2 rfl rfl rfl rfl rfl rfl rfl (by omega) (run_q tabOk ?_); conv => whnf) | ((first | refine wq_add rfl rfl rfl rfl rfl rfl (by omega) (by omega) (run_q tabOk ?_) | refine gs_dt (by first | assumption | omega) ?_ | refine gs_df (by first | assumption | omega) ?_) <;> conv => whnf)))
        intro w3 hB3
        conv => whnf
        (repeat' (first | ((first | refine wl_add rfl rfl rfl rfl rfl rfl (by omega) (by omega) (run_l tabOk ?_) | refine gs_dt (by first | assumption | omega) ?_ | refine gs_df (by first | assumption | omega) ?_) <;> conv => whnf) | refine fin1 rfl rfl ?_))
        have hsr3 := blk_up hB3 hsr
        have htr3 := blk_up hB3 htr
        have ha03 := cell_up hB3 ha0
        have hc03 := cell_up hB3 hc0
        refine wc_qr tabOk mixed (by kernel_rfl) ?_; (conv => whnf)
        (repeat' (first | (refine wq_Lg tabOk hsr3 rfl rfl rfl rfl rfl rfl rfl (run_q tabOk ?_); conv => whnf) | (refine wq_Lg tabOk htr3 rfl rfl rfl rfl rfl rfl rfl (run_q tabOk ?_); conv => whnf) | (refine wq_L tabOk rfl rfl rfl rfl rfl rfl ha03 (run_q tabOk ?_); conv => whnf) | (refine wq_L tabOk rfl rfl rfl rfl rfl rfl hc03 (run_q tabOk ?_); conv => whnf) | (refine wq_Xn tabOk 82 2 rfl rfl rfl rfl rfl rfl rfl (by omega) (run_q tabOk ?_); conv => whnf) | ((first | refine wq_add rfl rfl rfl rfl rfl rfl (by omega) (by omega) (run_q tabOk ?_) | refine gs_dt (by first | assumption | omega) ?_ | refine gs_df (by first | assumption | omega) ?_) <;> conv => whnf)))
        intro w3' hB3'
        conv => whnf
        have hB3 := bup hB3 hB3'
        (repeat' (first | ((first | refine wl_add rfl rfl rfl rfl rfl rfl (by omega) (by omega) (run_l tabOk ?_) | refine gs_dt (by first | assumption | omega) ?_ | refine gs_df (by first | assumption | omega) ?_) <;> conv => whnf) | refine fin1 rfl rfl ?_))
        have hB04 := bup hB hB3
        obtain ⟨ad4, e4, ha04, ha14⟩ := rowB_f (hr1.up stays_Blk hB04) i hil
        obtain ⟨bd4, e5, hc04, hc14⟩ := rowB_f (hr2.up stays_Blk hB04) k hkl
        cases e4
        cases e5
        have hs4 := blk_up hB04 hs
        have ht4 := blk_up hB04 ht
        have hw1 := (hP.wf.rng _ (mem_getB hil)).2.2.2
        have hw2 := (hQ.wf.rng _ (mem_getB hkl)).2.2.2
        have hboth := hJ.both hP.wf hQ.wf hil hkl heq
        obtain ⟨orw, horw⟩ : ∃ r, r = s[i]!.w ||| t[k]!.w := ⟨_, rfl⟩
        have hor : bits .or .u64 (s[i]!.w : Int) (t[k]!.w : Int) = (orw : Int) := by rw [bits_or_u64_nat _ _ hw1 hw2, horw]
        rw [← horw] at hboth
        refine wc_qr tabOk mixed (by kernel_rfl) ?_; (conv => whnf)
        (repeat' (first | (refine wq_Lg tabOk hs4 rfl rfl rfl rfl rfl rfl rfl (run_q tabOk ?_); conv => whnf) | (refine wq_Lg tabOk ht4 rfl rfl rfl rfl rfl rfl rfl (run_q tabOk ?_); conv => whnf) | (refine wq_L tabOk rfl rfl rfl rfl rfl rfl ha14 (run_q tabOk ?_); conv => whnf) | (refine wq_L tabOk rfl rfl rfl rfl rfl rfl hc14 (run_q tabOk ?_); conv => whnf) | (refine wq_Xn tabOk 82 2 rfl rfl rfl rfl rfl rfl rfl (by omega) (run_q tabOk ?_); conv => whnf) | (refine wq_bit hor rfl rfl rfl rfl rfl rfl rfl (run_q tabOk ?_); (conv => whnf)) | ((first | refine wq_add rfl rfl rfl rfl rfl rfl (by omega) (by omega) (run_q tabOk ?_) | refine gs_dt (by first | assumption | omega) ?_ | refine gs_df (by first | assumption | omega) ?_) <;> conv => whnf)))
        intro w4 hB4
        conv => whnf
        have hB04 := bup hB04 hB4
        have hs4 := blk_up hB4 hs4
        have ha04 := cell_up hB4 ha04
        have ha14 := cell_up hB4 ha14
        have hO4 := hO.keep (w1 := w4) fun b e => (bup hB3 hB4).block b (hO.lt b e).2
        cases more
        · (repeat' (first | (refine wl_Lg tabOk hs4 rfl rfl rfl rfl rfl rfl rfl (run_l tabOk ?_); conv => whnf) | (refine wl_L tabOk rfl rfl rfl rfl rfl rfl ha14 (run_l tabOk ?_); conv => whnf) | (refine wl_L tabOk rfl rfl rfl rfl rfl rfl ha04 (run_l tabOk ?_); conv => whnf) | (refine wl_Xn tabOk 82 2 rfl rfl rfl rfl rfl rfl rfl (by omega) (run_l tabOk ?_); conv => whnf) | ((first | refine wl_add rfl rfl rfl rfl rfl rfl (by omega) (by omega) (run_l tabOk ?_) | refine gs_dt (by first | assumption | omega) ?_ | refine gs_df (by first | assumption | omega) ?_) <;> conv => whnf) | refine fin1 rfl rfl ?_))
          refine wl_bs tabOk 82 2 rfl rfl rfl rfl rfl rfl rfl rfl rfl rfl ?_
          intro g8 w5 hn5
          refine run_l tabOk ?_
          conv => whnf
          have hO5 := hO4.keep (w1 := w5) fun b e => hn5.below.block b (hO4.lt b e).2
          refine wl_ap tabOk 82 2 16 hO5 hn5.blk rfl rfl rfl rfl rfl rfl rfl rfl rfl rfl rfl rfl (by simp [Value.oneCell']) (by omega) (by omega) (by have := hn5.size; have := hB04.size; omega) ?_
          intro A5 c5 w6 hown hgr hob
          have hpush := ownsB_push (x := ⟨s[i]!.a, orw⟩) hown
          have hB6 : Below w.heap.size w w6 := (bup hB04 hn5.below).grown hgr (by have := hn5.size; have := hB04.size; omega) (fun b e => (hO5.lt b e).1)
          have hlen5 : out.length + 1 = (out ++ [(⟨s[i]!.a, orw⟩ : Blk)]).length := by simp
          refine run_l tabOk ?_
          conv => whnf
          rw [hlen5]
          (repeat' (first | ((first | refine wl_add rfl rfl rfl rfl rfl rfl (by omega) (by omega) (run_l tabOk ?_) | refine gs_dt (by first | assumption | omega) ?_ | refine gs_df (by first | assumption | omega) ?_) <;> conv => whnf) | refine fin1 rfl rfl ?_))
          refine ⟨(i + 1, k + 1, out ++ [⟨s[i]!.a, orw⟩], A5, c5, decide (orw ≠ s[i]!.w)), ⟨rfl, rfl, ?_, rfl, rfl, rfl, trivial⟩, ⟨by rwa [Bool.false_or] at hboth, hpush, hB6⟩, by simp only; omega⟩
          show Value.bool (decide ¬ ((orw : Int) = (s[i]!.w : Int))) = Value.bool (decide (orw ≠ s[i]!.w))
          congr 1
          rw [decide_eq_decide]
          constructor <;> intro h <;> omega
        · (repeat' (first | (refine wl_Lg tabOk hs4 rfl rfl rfl rfl rfl rfl rfl (run_l tabOk ?_); conv => whnf) | (refine wl_L tabOk rfl rfl rfl rfl rfl rfl ha14 (run_l tabOk ?_); conv => whnf) | (refine wl_L tabOk rfl rfl rfl rfl rfl rfl ha04 (run_l tabOk ?_); conv => whnf) | (refine wl_Xn tabOk 82 2 rfl rfl rfl rfl rfl rfl rfl (by omega) (run_l tabOk ?_); conv => whnf) | ((first | refine wl_add rfl rfl rfl rfl rfl rfl (by omega) (by omega) (run_l tabOk ?_) | refine gs_dt (by first | assumption | omega) ?_ | refine gs_df (by first | assumption | omega) ?_) <;> conv => whnf) | refine fin1 rfl rfl ?_))
          refine wl_bs tabOk 82 2 rfl rfl rfl rfl rfl rfl rfl rfl rfl rfl ?_
          intro g8 w5 hn5
          refine run_l tabOk ?_
          conv => whnf
          have hO5 := hO4.keep (w1 := w5) fun b e => hn5.below.block b (hO4.lt b e).2
          refine wl_ap tabOk 82 2 16 hO5 hn5.blk rfl rfl rfl rfl rfl rfl rfl rfl rfl rfl rfl rfl (by simp [Value.oneCell']) (by omega) (by omega) (by have := hn5.size; have := hB04.size; omega) ?_
          intro A5 c5 w6 hown hgr hob
          have hpush := ownsB_push (x := ⟨s[i]!.a, orw⟩) hown
          have hB6 : Below w.heap.size w w6 := (bup hB04 hn5.below).grown hgr (by have := hn5.size; have := hB04.size; omega) (fun b e => (hO5.lt b e).1)
          have hlen5 : out.length + 1 = (out ++ [(⟨s[i]!.a, orw⟩ : Blk)]).length := by simp
          refine run_l tabOk ?_
          conv => whnf
          rw [hlen5]
          (repeat' (first | ((first | refine wl_add rfl rfl rfl rfl rfl rfl (by omega) (by omega) (run_l tabOk ?_) | refine gs_dt (by first | assumption | omega) ?_ | refine gs_df (by first | assumption | omega) ?_) <;> conv => whnf) | refine fin1 rfl rfl ?_))
          exact ⟨(i + 1, k + 1, out ++ [⟨s[i]!.a, orw⟩], A5, c5, true), ⟨rfl, rfl, rfl, rfl, rfl, rfl, trivial⟩, ⟨by simpa using hboth, hpush, hB6⟩, by simp only; omega⟩
      · (repeat' (first | (refine wl_Lg tabOk hsr rfl rfl rfl rfl rfl rfl rfl (run_l tabOk ?_); conv => whnf) | (refine wl_Lg tabOk htr rfl rfl rfl rfl rfl rfl rfl (run_l tabOk ?_); conv => whnf) | ((first | refine wl_add rfl rfl rfl rfl rfl rfl (by omega) (by omega) (run_l tabOk ?_) | refine gs_dt (by first | assumption | omega) ?_ | refine gs_df (by first | assumption | omega) ?_) <;> conv => whnf) | refine fin1 rfl rfl ?_))
        refine wc_qr tabOk mixed (by kernel_rfl) ?_; (conv => whnf)
        (repeat' (first | (refine wq_Lg tabOk hsr rfl rfl rfl rfl rfl rfl rfl (run_q tabOk ?_); conv => whnf) | (refine wq_Lg tabOk htr rfl rfl rfl rfl rfl rfl rfl (run_q tabOk ?_); conv => whnf) | (refine wq_L tabOk rfl rfl rfl rfl rfl rfl ha0 (run_q tabOk ?_); conv => whnf) | (refine wq_L tabOk rfl rfl rfl rfl rfl rfl hc0 (run_q tabOk ?_); conv => whnf) | (refine wq_Xn tabOk 82 2 rfl rfl rfl rfl rfl rfl rfl (by omega) (run_q tabOk ?_); conv => whnf) | ((first | refine wq_add rfl rfl rfl rfl rfl rfl (by omega) (by omega) (run_q tabOk ?_) | refine gs_dt (by first | assumption | omega) ?_ | refine gs_df (by first | assumption | omega) ?_) <;> conv => whnf)))
        intro w3 hB3
        conv => whnf
        (repeat' (first | ((first | refine wl_add rfl rfl rfl rfl rfl rfl (by omega) (by omega) (run_l tabOk ?_) | refine gs_dt (by first | assumption | omega) ?_ | refine gs_df (by first | assumption | omega) ?_) <;> conv => whnf) | refine fin1 rfl rfl ?_))
        have hsr3 := blk_up hB3 hsr
        have htr3 := blk_up hB3 htr
        have ha03 := cell_up hB3 ha0
        have hc03 := cell_up hB3 hc0
        refine wc_qr tabOk mixed (by kernel_rfl) ?_; (conv => whnf)
        (repeat' (first | (refine wq_Lg tabOk hsr3 rfl rfl rfl rfl rfl rfl rfl (run_q tabOk ?_); conv => whnf) | (refine wq_Lg tabOk htr3 rfl rfl rfl rfl rfl rfl rfl (run_q tabOk ?_); conv => whnf) | (refine wq_L tabOk rfl rfl rfl rfl rfl rfl ha03 (run_q tabOk ?_); conv => whnf) | (refine wq_L tabOk rfl rfl rfl rfl rfl rfl hc03 (run_q tabOk ?_); conv => whnf) | (refine wq_Xn tabOk 82 2 rfl rfl rfl rfl rfl rfl rfl (by omega) (run_q tabOk ?_); conv => whnf) | ((first | refine wq_add rfl rfl rfl rfl rfl rfl (by omega) (by omega) (run_q tabOk ?_) | refine gs_dt (by first | assumption | omega) ?_ | refine gs_df (by first | assumption | omega) ?_) <;> conv => whnf)))
        intro w3' hB3'
        conv => whnf
        have hB3 := bup hB3 hB3'
        have hB03 := bup hB hB3
        have hs3 := blk_up hB03 ht
        have hO3 := hO.keep (w1 := w3') fun b e => hB3.block b (hO.lt b e).2
        obtain ⟨ad3, e3, hc3⟩ := rowB_at (hr2.up stays_Blk hB03) k hkl
        cases e3
        (repeat' (first | (refine wl_Lg tabOk hs3 rfl rfl rfl rfl rfl rfl rfl (run_l tabOk ?_); conv => whnf) | (refine wl_Xn tabOk 82 2 rfl rfl rfl rfl rfl rfl rfl (by omega) (run_l tabOk ?_); conv => whnf) | (refine wl_La tabOk hc3 rfl rfl rfl rfl rfl rfl (run_l tabOk ?_); conv => whnf) | ((first | refine wl_add rfl rfl rfl rfl rfl rfl (by omega) (by omega) (run_l tabOk ?_) | refine gs_dt (by first | assumption | omega) ?_ | refine gs_df (by first | assumption | omega) ?_) <;> conv => whnf) | refine fin1 rfl rfl ?_))
        refine wl_bs tabOk 82 2 rfl rfl rfl rfl rfl rfl rfl rfl rfl rfl ?_
        intro g8 w4 hn4
        refine run_l tabOk ?_
        conv => whnf
        have hO4 := hO3.keep (w1 := w4) fun b e => hn4.below.block b (hO3.lt b e).2
        refine wl_ap tabOk 82 2 16 hO4 hn4.blk rfl rfl rfl rfl rfl rfl rfl rfl rfl rfl rfl rfl (by simp [Value.oneCell']) (by omega) (by omega) (by have := hn4.size; have := hB3.size; omega) ?_
        intro A5 c5 w5 hown hgr hob
        have hpush := ownsB_push (x := t[k]!) hown
        have hB5 : Below w.heap.size w w5 := (bup hB03 hn4.below).grown hgr (by have := hn4.size; have := hB3.size; omega) (fun b e => (hO4.lt b e).1)
        have hlen5 : out.length + 1 = (out ++ [t[k]!]).length := by simp
        refine run_l tabOk ?_
        conv => whnf
        rw [hlen5]
        (repeat' (first | ((first | refine wl_add rfl rfl rfl rfl rfl rfl (by omega) (by omega) (run_l tabOk ?_) | refine gs_dt (by first | assumption | omega) ?_ | refine gs_df (by first | assumption | omega) ?_) <;> conv => whnf) | refine fin1 rfl rfl ?_))
        exact ⟨(i, k + 1, out ++ [t[k]!], A5, c5, true), ⟨rfl, rfl, rfl, rfl, rfl, rfl, trivial⟩, ⟨hJ.right hP.wf hQ.wf hkl (.inr ⟨hil, hgt⟩), hpush, hB5⟩, by simp only; omega⟩
    · (repeat' (first | (refine wl_Lg tabOk hsr rfl rfl rfl rfl rfl rfl rfl (run_l tabOk ?_); conv => whnf) | (refine wl_Lg tabOk htr rfl rfl rfl rfl rfl rfl rfl (run_l tabOk ?_); conv => whnf) | ((first | refine wl_add rfl rfl rfl rfl rfl rfl (by omega) (by omega) (run_l tabOk ?_) | refine gs_dt (by first | assumption | omega) ?_ | refine gs_df (by first | assumption | omega) ?_) <;> conv => whnf) | refine fin1 rfl rfl ?_))
      refine wc_qr tabOk mixed (by kernel_rfl) ?_; (conv => whnf)
      (repeat' (first | (refine wq_Lg tabOk hsr rfl rfl rfl rfl rfl rfl rfl (run_q tabOk ?_); conv => whnf) | (refine wq_Lg tabOk htr rfl rfl rfl rfl rfl rfl rfl (run_q tabOk ?_); conv => whnf) | ((first | refine wq_add rfl rfl rfl rfl rfl rfl (by omega) (by omega) (run_q tabOk ?_) | refine gs_dt (by first | assumption | omega) ?_ | refine gs_df (by first | assumption | omega) ?_) <;> conv => whnf)))
      intro w3 hB3
      conv => whnf
      have hB03 := bup hB hB3
      have hs3 := blk_up hB03 hs
      have hO3 := hO.keep (w1 := w3) fun b e => hB3.block b (hO.lt b e).2
      obtain ⟨ad3, e3, hc3⟩ := rowB_at (hr1.up stays_Blk hB03) i hil
      cases e3
      (repeat' (first | (refine wl_Lg tabOk hs3 rfl rfl rfl rfl rfl rfl rfl (run_l tabOk ?_); conv => whnf) | (refine wl_Xn tabOk 82 2 rfl rfl rfl rfl rfl rfl rfl (by omega) (run_l tabOk ?_); conv => whnf) | (refine wl_La tabOk hc3 rfl rfl rfl rfl rfl rfl (run_l tabOk ?_); conv => whnf) | ((first | refine wl_add rfl rfl rfl rfl rfl rfl (by omega) (by omega) (run_l tabOk ?_) | refine gs_dt (by first | assumption | omega) ?_ | refine gs_df (by first | assumption | omega) ?_) <;> conv => whnf) | refine fin1 rfl rfl ?_))
      refine wl_bs tabOk 82 2 rfl rfl rfl rfl rfl rfl rfl rfl rfl rfl ?_
      intro g8 w4 hn4
      refine run_l tabOk ?_
      conv => whnf
      have hO4 := hO3.keep (w1 := w4) fun b e => hn4.below.block b (hO3.lt b e).2
      refine wl_ap tabOk 82 2 16 hO4 hn4.blk rfl rfl rfl rfl rfl rfl rfl rfl rfl rfl rfl rfl (by simp [Value.oneCell']) (by omega) (by omega) (by have := hn4.size; have := hB3.size; omega) ?_
      intro A5 c5 w5 hown hgr hob
      have hpush := ownsB_push (x := s[i]!) hown
      have hB5 : Below w.heap.size w w5 := (bup hB03 hn4.below).grown hgr (by have := hn4.size; have := hB3.size; omega) (fun b e => (hO4.lt b e).1)
      have hlen5 : out.length + 1 = (out ++ [s[i]!]).length := by simp
      refine run_l tabOk ?_
      conv => whnf
      rw [hlen5]
      (repeat' (first | ((first | refine wl_add rfl rfl rfl rfl rfl rfl (by omega) (by omega) (run_l tabOk ?_) | refine gs_dt (by first | assumption | omega) ?_ | refine gs_df (by first | assumption | omega) ?_) <;> conv => whnf) | refine fin1 rfl rfl ?_))
      exact ⟨(i + 1, k, out ++ [s[i]!], A5, c5, more), ⟨rfl, rfl, rfl, rfl, rfl, rfl, trivial⟩, ⟨hJ.left hP.wf hQ.wf hil (.inl (by show k = t.length; omega)), hpush, hB5⟩, by simp only; omega⟩
  · by_cases hkl : k < t.length
    · (repeat' (first | (refine wl_Lg tabOk hsr rfl rfl rfl rfl rfl rfl rfl (run_l tabOk ?_); conv => whnf) | (refine wl_Lg tabOk htr rfl rfl rfl rfl rfl rfl rfl (run_l tabOk ?_); conv => whnf) | ((first | refine wl_add rfl rfl rfl rfl rfl rfl (by omega) (by omega) (run_l tabOk ?_) | refine gs_dt (by first | assumption | omega) ?_ | refine gs_df (by first | assumption | omega) ?_) <;> conv => whnf) | refine fin1 rfl rfl ?_))
      refine wc_qr tabOk mixed (by kernel_rfl) ?_; (conv => whnf)
      (repeat' (first | (refine wq_Lg tabOk hsr rfl rfl rfl rfl rfl rfl rfl (run_q tabOk ?_); conv => whnf) | (refine wq_Lg tabOk htr rfl rfl rfl rfl rfl rfl rfl (run_q tabOk ?_); conv => whnf) | ((first | refine wq_add rfl rfl rfl rfl rfl rfl (by omega) (by omega) (run_q tabOk ?_) | refine gs_dt (by first | assumption | omega) ?_ | refine gs_df (by first | assumption | omega) ?_) <;> conv => whnf)))
      intro w3 hB3
      conv => whnf
      (repeat' (first | ((first | refine wl_add rfl rfl rfl rfl rfl rfl (by omega) (by omega) (run_l tabOk ?_) | refine gs_dt (by first | assumption | omega) ?_ | refine gs_df (by first | assumption | omega) ?_) <;> conv => whnf) | refine fin1 rfl rfl ?_))
      have hsr3 := blk_up hB3 hsr
      have htr3 := blk_up hB3 htr
      refine wc_qr tabOk mixed (by kernel_rfl) ?_; (conv => whnf)
      (repeat' (first | (refine wq_Lg tabOk hsr3 rfl rfl rfl rfl rfl rfl rfl (run_q tabOk ?_); conv => whnf) | (refine wq_Lg tabOk htr3 rfl rfl rfl rfl rfl rfl rfl (run_q tabOk ?_); conv => whnf) | ((first | refine wq_add rfl rfl rfl rfl rfl rfl (by omega) (by omega) (run_q tabOk ?_) | refine gs_dt (by first | assumption | omega) ?_ | refine gs_df (by first | assumption | omega) ?_) <;> conv => whnf)))
      intro w3' hB3'
      conv => whnf
      have hB3 := bup hB3 hB3'
      have hB03 := bup hB hB3
      have hs3 := blk_up hB03 ht
      have hO3 := hO.keep (w1 := w3') fun b e => hB3.block b (hO.lt b e).2
      obtain ⟨ad3, e3, hc3⟩ := rowB_at (hr2.up stays_Blk hB03) k hkl
      cases e3
      (repeat' (first | (refine wl_Lg tabOk hs3 rfl rfl rfl rfl rfl rfl rfl (run_l tabOk ?_); conv => whnf) | (refine wl_Xn tabOk 82 2 rfl rfl rfl rfl rfl rfl rfl (by omega) (run_l tabOk ?_); conv => whnf) | (refine wl_La tabOk hc3 rfl rfl rfl rfl rfl rfl (run_l tabOk ?_); conv => whnf) | ((first | refine wl_add rfl rfl rfl rfl rfl rfl (by omega) (by omega) (run_l tabOk ?_) | refine gs_dt (by first | assumption | omega) ?_ | refine gs_df (by first | assumption | omega) ?_) <;> conv => whnf) | refine fin1 rfl rfl ?_))
      refine wl_bs tabOk 82 2 rfl rfl rfl rfl rfl rfl rfl rfl rfl rfl ?_
      intro g8 w4 hn4
      refine run_l tabOk ?_
      conv => whnf
      have hO4 := hO3.keep (w1 := w4) fun b e => hn4.below.block b (hO3.lt b e).2
      refine wl_ap tabOk 82 2 16 hO4 hn4.blk rfl rfl rfl rfl rfl rfl rfl rfl rfl rfl rfl rfl (by simp [Value.oneCell']) (by omega) (by omega) (by have := hn4.size; have := hB3.size; omega) ?_
      intro A5 c5 w5 hown hgr hob
      have hpush := ownsB_push (x := t[k]!) hown
      have hB5 : Below w.heap.size w w5 := (bup hB03 hn4.below).grown hgr (by have := hn4.size; have := hB3.size; omega) (fun b e => (hO4.lt b e).1)
      have hlen5 : out.length + 1 = (out ++ [t[k]!]).length := by simp
      refine run_l tabOk ?_
      conv => whnf
      rw [hlen5]
      (repeat' (first | ((first | refine wl_add rfl rfl rfl rfl rfl rfl (by omega) (by omega) (run_l tabOk ?_) | refine gs_dt (by first | assumption | omega) ?_ | refine gs_df (by first | assumption | omega) ?_) <;> conv => whnf) | refine fin1 rfl rfl ?_))
      exact ⟨(i, k + 1, out ++ [t[k]!], A5, c5, true), ⟨rfl, rfl, rfl, rfl, rfl, rfl, trivial⟩, ⟨hJ.right hP.wf hQ.wf hkl (.inl (by show i = s.length; omega)), hpush, hB5⟩, by simp only; omega⟩
    · have hi2 : i = s.length := by omega
      have hk2 : k = t.length := by omega
      subst hi2 hk2
      obtain ⟨j1, j2, j3, j4⟩ := hJ.done
      (repeat' (first | (refine wl_Lg tabOk hsr rfl rfl rfl rfl rfl rfl rfl (run_l tabOk ?_); conv => whnf) | (refine wl_Lg tabOk htr rfl rfl rfl rfl rfl rfl rfl (run_l tabOk ?_); conv => whnf) | ((first | refine wl_add rfl rfl rfl rfl rfl rfl (by omega) (by omega) (run_l tabOk ?_) | refine gs_dt (by first | assumption | omega) ?_ | refine gs_df (by first | assumption | omega) ?_) <;> conv => whnf) | refine fin1 rfl rfl ?_))
      refine wl_S (off := 0) tabOk hsr rfl rfl rfl rfl rfl rfl (by simp) rfl rfl ?_
      intro w9 hp9
      refine run_l tabOk ?_
      conv => whnf
      (repeat' (first | ((first | refine wl_add rfl rfl rfl rfl rfl rfl (by omega) (by omega) (run_l tabOk ?_) | refine gs_dt (by first | assumption | omega) ?_ | refine gs_df (by first | assumption | omega) ?_) <;> conv => whnf) | refine fin1 rfl rfl ?_))
      have hne : (Value.slice D out.length dc).ownBlock ≠ some g1 := fun e => by have := (hO.lt g1 e).1; have := blk_lt hs; omega
      have hO9 : ownsB w9 b1 (.slice D out.length dc) out := (hO.lower hb1).keep fun b e => hp9.grown.block b (hO.lt b e).2 (fun e2 => hne (e.trans e2))
      exact ⟨out, g1 :: (Value.slice D out.length dc).ownBlock.toList, ⟨by rw [j3], ⟨⟨_, hp9.blk, hO9, rfl, hne⟩, hP.ge, j1⟩, (Kept.of hB).put hp9 (.inl (by simp)), fun b hb => by
        rcases List.mem_cons.1 hb with h | h
        · exact .inl h
        · exact .inr (hO.lt b (mem_own h)).1, j2, j4⟩⟩
end Go.Proofs.Ytjggjhgbobmkhaa

/- A set of the call's own, told by its members alone. -/
namespace Go.Proofs.Ytjggjhgbobmkhaa
open Go.RowKit
set_option linter.unusedVariables false
set_option linter.unusedSimpArgs false
section
variable {B B2 g g2 : Nat} {w w1 : World} {P Q : Nat → Prop}
structure CS (B g : Nat) (w : World) (P : Nat → Prop) : Prop where
  ex : ∃ bs fp, PSet B g w bs fp ∧ (∀ j, memB bs j = true ↔ P j) ∧ bs.length ≤ 1024
  lt : ∀ j, P j → j < 65536
theorem cs_of {bs : List Blk} {fp : List Nat} (h : PSet B g w bs fp) (hm : ∀ j, memB bs j = true ↔ P j) (hl : ∀ j, P j → j < 65536) : CS B g w P :=
  ⟨⟨bs, fp, h, hm, blocks_le h.wf fun m hq => by have := hl m ((hm m).1 hq); omega⟩, hl⟩
theorem CS.up (h : CS B g w P) (hb : Below w.heap.size w w1) : CS B g w1 P := by
  obtain ⟨bs, fp, h1, h2⟩ := h.ex
  exact ⟨⟨bs, fp, h1.up hb, h2⟩, h.lt⟩
theorem CS.imp (h : CS B g w P) (hi : ∀ j, P j ↔ Q j) : CS B g w Q := by
  obtain ⟨bs, fp, h1, h2, h3⟩ := h.ex
  exact ⟨⟨bs, fp, h1, fun j => (h2 j).trans (hi j), h3⟩, fun j hj => h.lt j ((hi j).2 hj)⟩
theorem CS.lower (h : CS B g w P) (hb : B2 ≤ B) : CS B2 g w P := by
  obtain ⟨bs, fp, h1, h2⟩ := h.ex
  exact ⟨⟨bs, fp, h1.lower hb, h2⟩, h.lt⟩
theorem CS.ge (h : CS B g w P) : B ≤ g ∧ g < w.heap.size := by
  obtain ⟨bs, fp, h1, h2⟩ := h.ex
  obtain ⟨V, h3, _⟩ := h1.ex
  exact ⟨h1.ge, blk_lt h3⟩
theorem CS.put {gl : Nat} {cs : Array Value} {t : TypeId} {fr : Nat × Nat} (h : CS B g w P) (hl : w.heap[gl]? = some (.cells cs t fr)) (h1 : t ≠ 76) (h2 : t ≠ 82) (hg : w.grownBy w1 (some gl)) : CS B g w1 P := by
  obtain ⟨bs, fp, hP, hm⟩ := h.ex
  refine ⟨⟨bs, fp, hP.keep fun b hb => hg.block b (hP.lt b hb).2 fun e => ?_, hm⟩, h.lt⟩
  injection e with e
  subst e
  obtain ⟨V, q1, q2, rfl, _⟩ := hP.ex
  rcases List.mem_cons.1 hb with rfl | hb
  · rw [hl] at q1
    simp only [Option.some.injEq, Obj.cells.injEq] at q1
    exact h1 q1.2.1
  · rcases q2.2 with ⟨q3, _⟩ | ⟨g', cap, cur, q3, _, q4, _⟩
    · rw [q3] at hb
      simp [Value.ownBlock] at hb
    · rw [q3] at hb
      have hb : b = g' := by simpa [Value.ownBlock] using hb
      subst hb
      rw [hl] at q4
      simp only [Option.some.injEq, Obj.cells.injEq] at q4
      exact h2 q4.2.1
theorem csNew (h : New w w1 g [.slice none 0 0] 76) : CS w.heap.size g w1 (fun _ => False) := cs_of (pset_new h) (fun j => by simp [memB]) fun _ h => h.elim
theorem csAdd (h : CS B g w P) (hB : B ≤ w.heap.size) (n : Nat) {m : Int} (hm0 : m = (n : Int)) (hn : n < 65536) :
    Calls Try.prog 37 #[.pointer (some ⟨g, 0, none⟩), .int .i64 m] w fun e w' => (∃ b, e = .returned (.bool b)) ∧ CS B g w' (fun j => P j ∨ j = n) ∧ ∀ w0, Below B w0 w → Below B w0 w' := by
  subst hm0
  obtain ⟨bs, fp, hP, hm, hl⟩ := h.ex
  refine (pAdd hP n (by omega) (by omega) hB).mono ?_
  rintro e w' ⟨bs', fp', r⟩
  refine ⟨⟨_, r.ret⟩, cs_of r.set (fun j => ?_) (fun j hj => hj.elim (h.lt j) fun e => by omega), fun w0 hb => r.kept.below hb hB fun k hk => (hP.lt k hk).1⟩
  rw [r.mem, Bool.or_eq_true, hm, decide_eq_true_eq]
  exact or_congr Iff.rfl ⟨fun e => by omega, fun e => by omega⟩
theorem csJoin (h : CS B g w P) (k : CS B2 g2 w Q) (hB : B ≤ w.heap.size) :
    Calls Try.prog 38 #[.pointer (some ⟨g, 0, none⟩), .pointer (some ⟨g2, 0, none⟩)] w fun e w' => (∃ b, e = .returned (.bool b)) ∧ CS B g w' (fun j => P j ∨ Q j) ∧ ∀ w0, Below B w0 w → Below B w0 w' := by
  obtain ⟨bs, fp, hP, hm, hl⟩ := h.ex
  obtain ⟨bs2, fp2, hP2, hm2, hl2⟩ := k.ex
  refine (pJoin hP hP2 (by omega) (by omega) hB).mono ?_
  rintro e w' ⟨bs', fp', r⟩
  refine ⟨⟨_, r.ret⟩, cs_of r.set (fun j => ?_) (fun j hj => hj.elim (h.lt j) (k.lt j)), fun w0 hb => r.kept.below hb hB fun k hk => by simp at hk; subst hk; exact hP.ge⟩
  rw [r.mem, Bool.or_eq_true, hm, hm2]
theorem csOf (l : List Int) (A : Option Addr) (c : Nat) (w : World) (h : RI w A l) (hl : l.length ≤ 1048576) (hm : ∀ x ∈ l, 0 ≤ x ∧ x < 65536) :
    Calls Try.prog 39 #[.slice A l.length c] w fun e w' => ∃ g, e = .returned (.pointer (some ⟨g, 0, none⟩)) ∧ CS w.heap.size g w' (fun j => (j : Int) ∈ l) ∧ Below w.heap.size w w' := by
  refine (pOf l A c w h hl).mono ?_
  rintro e w' ⟨g, bs, fp, he, hO, hb, hl2⟩
  exact ⟨g, he, cs_of hO.set (fun j => by rw [hb, decide_eq_true_eq]) (fun j hj => by have := hm _ hj; omega), hO.below⟩
end
/-! ### a row of sets -/
def pvs (K : Nat) (f : Nat → Value) : List Value := (List.range K).map f
theorem pvs_len (K : Nat) (f : Nat → Value) : (pvs K f).length = K := by simp [pvs]
theorem pvs_get {K k : Nat} {f : Nat → Value} (h : k < K) : (pvs K f)[k]? = some (f k) := by simp [pvs, h]
theorem pvs_set (K : Nat) (f : Nat → Value) (k : Nat) (x : Value) : (pvs K f).set k x = pvs K (setF f k x) := range_setF f K k x
theorem pvs_zero (n : Nat) : (List.replicate n [Value.pointer none]).flatten = pvs n fun _ => .pointer none := by
  induction n with
  | zero => rfl
  | succ n ih =>
    rw [List.replicate_succ, List.flatten_cons, ih]
    unfold pvs
    rw [List.range_succ_eq_map]
    simp [Function.comp_def]
structure HM (w0 : World) (gl K k : Nat) (f : Nat → Value) (M : Nat → Nat → Prop) (w : World) : Prop where
  below : Below w0.heap.size w0 w
  ge : w0.heap.size ≤ gl
  row : w.heap[gl]? = some (.cells (pvs K f).toArray 50 (0, 0))
  set : ∀ p, p < k → ∃ g, f p = .pointer (some ⟨g, 0, none⟩) ∧ CS w0.heap.size g w (M p)
section
variable {w0 w w1 : World} {gl K k g : Nat} {f : Nat → Value} {M : Nat → Nat → Prop}
theorem HM.up (h : HM w0 gl K k f M w) (hb : Below w.heap.size w w1) : HM w0 gl K k f M w1 :=
  ⟨bup h.below hb, h.ge, blk_up hb h.row, fun p hp => by obtain ⟨g, h1, h2⟩ := h.set p hp; exact ⟨g, h1, h2.up hb⟩⟩
theorem HM.cell (h : HM w0 gl K k f M w) {p : Nat} (hp : p < K) : w.cell? ((⟨gl, 0, none⟩ : Addr).add (p * 1)) = some (f p) := by
  rw [Nat.mul_one, add_zero]
  exact cell_blk h.row (by simpa using pvs_get hp)
theorem HM.put (h : HM w0 gl K k f M w) (hc : CS w0.heap.size g w (M k)) (hp : Put w w1 gl ((pvs K f).set k (.pointer (some ⟨g, 0, none⟩))) 50) : HM w0 gl K (k + 1) (setF f k (.pointer (some ⟨g, 0, none⟩))) M w1 := by
  refine ⟨hp.below h.below h.ge h.below.size, h.ge, by rw [← pvs_set]; exact hp.blk, fun p hpk => ?_⟩
  by_cases e : p = k
  · subst e
    exact ⟨g, by simp [setF], hc.put h.row (by decide) (by decide) hp.grown⟩
  · obtain ⟨g', h1, h2⟩ := h.set p (by omega)
    exact ⟨g', by rw [← h1]; simp [setF, e], h2.put h.row (by decide) (by decide) hp.grown⟩
end
/-- The sources of a knot. -/
def KSrc (vars nc : Nat) (into bases : List (List Int)) (lo : List Bool) (kn : List (List Nat)) (p j : Nat) : Prop := ∃ v ∈ kn[p]!, GS vars nc into bases lo v j
def NodeP (vars nc : Nat) (into bases : List (List Int)) (lo : List Bool) (of : Nat → Nat) (p w j : Nat) : Prop := (lo[w]! = true ∧ j = nc + w) ∨ (w < vars ∧ (j : Int) ∈ bases[w]!) ∨ ∃ x ∈ into[w]!, of x.toNat ≠ p ∧ GS vars nc into bases lo x.toNat j
section
variable {vars nc : Nat} {into bases : List (List Int)} {lo : List Bool} {kn : List (List Nat)} {of : Nat → Nat}
theorem ks_at (hri : ∀ v, v < into.length → ∀ x ∈ into[v]!, 0 ≤ x ∧ x < (into.length : Int)) (hK : KnOk into kn of) {p v j : Nat} (hp : p < kn.length) (hv : v ∈ kn[p]!) : KSrc vars nc into bases lo kn p j ↔ GS vars nc into bases lo v j := by
  constructor
  · rintro ⟨u, hu, h⟩
    rw [GS_knot hri hK hp hu] at h
    exact (GS_knot hri hK hp hv).2 h
  · exact fun h => ⟨v, hv, h⟩
theorem ks_nodes (hri : ∀ v, v < into.length → ∀ x ∈ into[v]!, 0 ≤ x ∧ x < (into.length : Int)) (hK : KnOk into kn of) {p j : Nat} (hp : p < kn.length) : KSrc vars nc into bases lo kn p j ↔ ∃ w ∈ kn[p]!, NodeP vars nc into bases lo of p w j := by
  obtain ⟨v, hv⟩ := List.exists_mem_of_ne_nil _ (hK.kn p hp).1
  rw [ks_at hri hK hp hv, GS_knot hri hK hp hv]
  constructor
  · rintro (⟨w, hw, h⟩ | ⟨w, hw, h⟩ | ⟨w, hw, h⟩)
    · exact ⟨w, hw, .inl h⟩
    · exact ⟨w, hw, .inr (.inl h)⟩
    · exact ⟨w, hw, .inr (.inr h)⟩
  · rintro ⟨w, hw, h | h | h⟩
    · exact .inl ⟨w, hw, h⟩
    · exact .inr (.inl ⟨w, hw, h⟩)
    · exact .inr (.inr ⟨w, hw, h⟩)
theorem take_mem {α : Type} [Inhabited α] {l : List α} {i : Nat} (hi : i < l.length) {x : α} : x ∈ l.take (i + 1) ↔ x ∈ l.take i ∨ x = l[i]! := by
  rw [List.take_add_one, List.getElem?_eq_getElem hi, getElem!_pos l i hi, List.mem_append, Option.toList_some, List.mem_singleton]
end
end Go.Proofs.Ytjggjhgbobmkhaa
