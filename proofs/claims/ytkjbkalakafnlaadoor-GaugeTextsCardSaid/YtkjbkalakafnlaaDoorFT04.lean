/- Plain: a float by a hundred, cut: how great it is at most, and what it comes to where it can be told. -/
import Derived.Test.YtkjbkalakafnlaaDoorL0406
import Derived.Test.YtkjbkalakafnlaaDoorL0402
namespace Go.Proofs.YtkjbkalakafnlaaDoor
set_option linter.unusedVariables false
set_option linter.unusedSimpArgs false
set_option maxRecDepth 100000
theorem toNat_le_one (b : Bool) : b.toNat ≤ 1 := by cases b <;> decide
theorem cut_even_le (neg : Bool) (n drop : Nat) : Ieee.Toward.even.cut neg n drop ≤ n / 2 ^ min drop (n.log2 + 2) + 1 := by
  simp only [Ieee.Toward.cut, Nat.one_shiftLeft]
  exact Nat.add_le_add_left (toNat_le_one _) _
/-- What is less than 2 ^ 57 is written as a word of at most 2 ^ 57. -/
theorem write_le {neg : Bool} {m : Nat} {p : Int} (h : m = 0 ∨ p + m.log2 ≤ 56) : ∃ r, r ≤ 4863887597560135680 ∧ D64.write (.number neg m p) = wordB neg r := by
  by_cases h0 : m = 0
  · subst h0
    exact ⟨0, by omega, write_zero neg p⟩
  have h := h.resolve_left h0
  show ∃ r, _ ∧ D64.nearest neg m p = _
  unfold Ieee.Format.nearest
  rw [if_neg h0, d64_L, d64_B, d64_I]
  have hf : (D64.fractionBits : Int) = 52 := rfl
  have hw : ∀ k, D64.word neg k = wordB neg k := fun k => by unfold Ieee.Format.word wordB; rw [d64_S]
  rw [hw]
  refine ⟨_, ?_, rfl⟩
  simp only [hf]
  have hhigh : m < 2 ^ (m.log2 + 1) := Nat.lt_log2_self
  have hp53 : (2 : Nat) ^ 53 = 9007199254740992 := by decide
  generalize hl : max (p + (m.log2 : Int) - 52) (-1074) = last
  have hl1 : last ≤ 4 := by omega
  have hl2 : p + (m.log2 : Int) - 52 ≤ last := by omega
  have hl3 : -1074 ≤ last := by omega
  have hkept : Ieee.Toward.even.cut neg (m <<< (p - last).toNat) (last - p).toNat ≤ 9007199254740992 := by
    by_cases hpl : last ≤ p
    · rw [show (last - p).toNat = 0 by omega, cut_zero, Nat.shiftLeft_eq]
      have h1 : m * 2 ^ (p - last).toNat < 2 ^ (m.log2 + 1) * 2 ^ (p - last).toNat := Nat.mul_lt_mul_of_pos_right hhigh (Nat.two_pow_pos _)
      rw [← Nat.pow_add] at h1
      have h2 : 2 ^ (m.log2 + 1 + (p - last).toNat) ≤ 2 ^ 53 := Nat.pow_le_pow_right (by omega) (by omega)
      omega
    · rw [show (p - last).toNat = 0 by omega, Nat.shiftLeft_zero]
      refine Nat.le_trans (cut_even_le neg m _) ?_
      have h3 : m / 2 ^ min (last - p).toNat (m.log2 + 2) < 2 ^ 53 := by
        refine (Nat.div_lt_iff_lt_mul (Nat.two_pow_pos _)).2 ?_
        rw [← Nat.pow_add]
        exact Nat.lt_of_lt_of_le hhigh (Nat.pow_le_pow_right (by omega) (by omega))
      omega
  generalize Ieee.Toward.even.cut neg (m <<< (p - last).toNat) (last - p).toNat = kept at hkept
  omega
theorem pow_move (m q y : Nat) : m * 2 ^ (y + q) = m * 2 ^ q * 2 ^ y := by rw [Nat.add_comm, Nat.pow_add, Nat.mul_assoc]
theorem mul_inj (a b y : Nat) (h : a * 2 ^ y = b * 2 ^ y) : a = b := Nat.eq_of_mul_eq_mul_right (Nat.two_pow_pos y) h
theorem mul_le_inj (a b y : Nat) (h : a * 2 ^ y ≤ b * 2 ^ y) : a ≤ b := Nat.le_of_mul_le_mul_right h (Nat.two_pow_pos y)
theorem pow_split (y p : Nat) (h : p ≤ y) : 2 ^ y = 2 ^ (y - p) * 2 ^ p := by rw [← Nat.pow_add, Nat.sub_add_cancel h]
theorem big_val (y : Nat) (hy : y = 1074) : valB 4863887597560135680 = 144115188075855872 * 2 ^ y := by
  unfold valB
  have h1 : 4863887597560135680 % 4503599627370496 = 0 := by decide
  have h2 : 4863887597560135680 / 4503599627370496 - 1 = 5 + y := by omega
  rw [if_neg (by omega), h1, h2, Nat.pow_add, ← Nat.mul_assoc]
theorem e15_val (y : Nat) (hy : y = 1071) : valB 4831355200913801216 < 2 ^ 53 * 2 ^ y := by
  unfold valB
  have h2 : 4831355200913801216 / 4503599627370496 - 1 = y := by omega
  rw [if_neg (by omega), h2]
  exact Nat.mul_lt_mul_of_pos_right (by decide) (Nat.two_pow_pos _)
/-- The whole part of what a word stands for. -/
theorem trunc_word {neg : Bool} {r : Nat} (hr : r ≤ 4863887597560135680) : ∃ M : Nat, M ≤ 144115188075855872 ∧ floatToIntVal .f64 (truncF (wordB neg r)) .i64 = some (if neg then -(M : Int) else (M : Int)) ∧ nanB (truncF (wordB neg r)) = false ∧ ∀ k, valB r = k * 2 ^ 1074 → M = k := by
  obtain ⟨m, p, e, v, m53⟩ := read_word' (neg := neg) (r := r) (by omega)
  have hv : valB r ≤ valB 4863887597560135680 := by
    rcases Nat.lt_or_eq_of_le hr with h | h
    · exact Nat.le_of_lt (valB_up h)
    · rw [h]; exact Nat.le_refl _
  have hv2 := big_val 1074 rfl
  -- the cut
  have hcut : ∃ M, (F64.read (wordB neg r)).integral .zero = .number neg M 0 ∧ M ≤ 144115188075855872 ∧ (∃ rz, rz < 9218868437227405312 ∧ valB rz = M * 2 ^ 1074) ∧ ∀ k, valB r = k * 2 ^ 1074 → M = k := by
    rw [show F64.read (wordB neg r) = _ from e]
    simp only [Ieee.Datum.integral]
    refine ⟨_, rfl, ?_⟩
    have hlowz : ∀ n d, Ieee.Toward.zero.cut neg n d = n / 2 ^ min d (n.log2 + 2) := fun n d => by simp [Ieee.Toward.cut, Nat.one_shiftLeft]
    rw [hlowz]
    by_cases hp : 1074 ≤ p
    · obtain ⟨q, rfl⟩ : ∃ q, p = 1074 + q := ⟨p - 1074, by omega⟩
      have e1 : (-1074 + ((1074 + q : Nat) : Int)).toNat = q := by omega
      have e2 : (-(-1074 + ((1074 + q : Nat) : Int))).toNat = 0 := by omega
      rw [e1, e2, Nat.zero_min, Nat.pow_zero, Nat.div_one, Nat.shiftLeft_eq]
      have hval : valB r = m * 2 ^ q * 2 ^ 1074 := v.symm.trans (pow_move m q 1074)
      have hle : m * 2 ^ q ≤ 144115188075855872 := by
        rw [hval, hv2] at hv
        exact mul_le_inj (m * 2 ^ q) 144115188075855872 1074 hv
      refine ⟨hle, ⟨r, by omega, hval⟩, fun k hk => ?_⟩
      exact mul_inj (m * 2 ^ q) k 1074 (hval.symm.trans hk)
    · have e1 : (-1074 + (p : Int)).toNat = 0 := by omega
      have e2 : (-(-1074 + (p : Int))).toNat = 1074 - p := by omega
      rw [e1, e2, Nat.shiftLeft_zero]
      have hle : m / 2 ^ min (1074 - p) (m.log2 + 2) ≤ m := Nat.div_le_self _ _
      refine ⟨by omega, rung_of (e := 1074) (by omega) (by omega), fun k hk => ?_⟩
      have hd := pow_split 1074 p (by omega)
      rw [hd, ← v, ← Nat.mul_assoc] at hk
      have hk2 : m = k * 2 ^ (1074 - p) := Nat.eq_of_mul_eq_mul_right (Nat.two_pow_pos p) hk
      by_cases h0 : k = 0
      · rw [hk2, h0, Nat.zero_mul, Nat.zero_div]
      · have hkp := Nat.pos_of_ne_zero h0
        have hl : 1074 - p ≤ m.log2 := (Nat.le_log2 (by rw [hk2]; have := Nat.mul_pos hkp (Nat.two_pow_pos (1074 - p)); omega)).2 (by rw [hk2]; exact Nat.le_mul_of_pos_left _ hkp)
        rw [Nat.min_eq_left (by omega)]
        conv => lhs; rw [hk2]
        exact Nat.mul_div_cancel _ (Nat.two_pow_pos _)
  obtain ⟨M, hi, hM, ⟨rz, hrz, hvz⟩, hk⟩ := hcut
  have ht : truncF (wordB neg r) = wordB neg rz := by
    unfold truncF
    rw [hi]
    have := write_exact (neg := neg) hvz.symm hrz
    rw [show (-1074 + ((1074 : Nat) : Int)) = 0 by omega] at this
    exact this
  refine ⟨M, hM, ?_, ?_, hk⟩
  · rw [ht]
    obtain ⟨n, q, e3, v3, n53⟩ := read_word' (neg := neg) hrz
    unfold floatToIntVal
    have hti : (FloatKind.f64.decode (wordB neg rz)).toInt .zero = some (Ieee.signed neg M 0) := by
      show (D64.read (wordB neg rz)).toInt .zero = _
      rw [e3]
      have hlowz : ∀ n d, Ieee.Toward.zero.cut neg n d = n / 2 ^ min d (n.log2 + 2) := fun n d => by simp [Ieee.Toward.cut, Nat.one_shiftLeft]
      simp only [Ieee.Datum.toInt, Ieee.Datum.integral]
      rw [hlowz]
      congr 2
      rw [hvz] at v3
      by_cases hq : 1074 ≤ q
      · obtain ⟨q', rfl⟩ : ∃ q', q = 1074 + q' := ⟨q - 1074, by omega⟩
        have e1 : (-1074 + ((1074 + q' : Nat) : Int)).toNat = q' := by omega
        have e2 : (-(-1074 + ((1074 + q' : Nat) : Int))).toNat = 0 := by omega
        rw [e1, e2, Nat.zero_min, Nat.pow_zero, Nat.div_one, Nat.shiftLeft_eq]
        exact mul_inj (n * 2 ^ q') M 1074 ((pow_move n q' 1074).symm.trans v3)
      · have e1 : (-1074 + (q : Int)).toNat = 0 := by omega
        have e2 : (-(-1074 + (q : Int))).toNat = 1074 - q := by omega
        rw [e1, e2, Nat.shiftLeft_zero]
        have hd := pow_split 1074 q (by omega)
        rw [hd, ← Nat.mul_assoc] at v3
        have hk2 : n = M * 2 ^ (1074 - q) := Nat.eq_of_mul_eq_mul_right (Nat.two_pow_pos q) v3
        by_cases h0 : M = 0
        · rw [hk2, h0, Nat.zero_mul, Nat.zero_div]
        · have hkp := Nat.pos_of_ne_zero h0
          have hl : 1074 - q ≤ n.log2 := (Nat.le_log2 (by rw [hk2]; have := Nat.mul_pos hkp (Nat.two_pow_pos (1074 - q)); omega)).2 (by rw [hk2]; exact Nat.le_mul_of_pos_left _ hkp)
          rw [Nat.min_eq_left (by omega)]
          conv => lhs; rw [hk2]
          exact Nat.mul_div_cancel _ (Nat.two_pow_pos _)
    rw [hti]
    have hs : Ieee.signed neg M 0 = if neg then -(M : Int) else (M : Int) := by unfold Ieee.signed; cases neg <;> simp
    simp only [hs]
    rw [if_pos]
    cases neg
    · simp only [Bool.false_eq_true, if_false]
      exact ⟨show (-9223372036854775808 : Int) ≤ _ by omega, show _ ≤ (9223372036854775807 : Int) by omega⟩
    · simp only [if_true]
      exact ⟨show (-9223372036854775808 : Int) ≤ _ by omega, show _ ≤ (9223372036854775807 : Int) by omega⟩
  · rw [ht]
    unfold nanB
    rw [wordB_rg (by omega)]
    simp; omega
theorem read_hundred : D64.read 4636737291354636288 = .number false 7036874417766400 (-46) := by decide +kernel
/-- By a hundred: a word of at most 2 ^ 57, of the same sign. -/
theorem mul_hundred {x : Nat} (hx : rgB x < 4831355200913801216) : ∃ r, r ≤ 4863887597560135680 ∧ floatBits .mul .f64 x 4636737291354636288 = some (wordB (ngB x) r) := by
  obtain ⟨m, p, e, v⟩ := read_num (x := x) (by omega)
  show ∃ r, _ ∧ D64.mul x 4636737291354636288 = _
  unfold Ieee.Format.mul
  rw [e, read_hundred]
  simp only [Ieee.Datum.product, Option.map_some, Bool.xor_false]
  have hb : m * 7036874417766400 = 0 ∨ (-1074 + (p : Int) + -46) + ((m * 7036874417766400).log2 : Int) ≤ 56 := by
    by_cases h0 : m = 0
    · exact .inl (by rw [h0])
    · refine .inr ?_
      have hn0 : m * 7036874417766400 ≠ 0 := by omega
      have h1 : valB (rgB x) < valB 4831355200913801216 := valB_up hx
      obtain ⟨y, hy⟩ : ∃ y, y = 1071 := ⟨_, rfl⟩
      have h2 := e15_val y hy
      rw [← v] at h1
      have h3 : m * 7036874417766400 * 2 ^ p < 2 ^ (53 + y + 53) := by
        have h4 : m * 2 ^ p * 7036874417766400 < 2 ^ 53 * 2 ^ y * 2 ^ 53 := Nat.mul_lt_mul_of_lt_of_le (Nat.lt_trans h1 h2) (by decide) (by decide)
        rw [← Nat.pow_add, ← Nat.pow_add] at h4
        rw [Nat.mul_right_comm] at h4
        exact h4
      have h5 := Nat.log2_self_le hn0
      have h6 : 2 ^ ((m * 7036874417766400).log2 + p) < 2 ^ (53 + y + 53) := by
        rw [Nat.pow_add]
        exact Nat.lt_of_le_of_lt (Nat.mul_le_mul_right _ h5) h3
      have h7 := (Nat.pow_lt_pow_iff_right (by omega : 1 < 2)).1 h6
      omega
  obtain ⟨r, h1, h2⟩ := write_le (neg := ngB x) hb
  exact ⟨r, h1, by rw [h2]⟩
end Go.Proofs.YtkjbkalakafnlaaDoor
