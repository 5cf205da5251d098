/- Plain: floats of 64 bits stand in the order of their words. -/
import Derived.Laws.FloatArith
namespace Go.Proofs.YtkjbkalakafnlaaDoor
set_option linter.unusedVariables false
set_option linter.unusedSimpArgs false
abbrev D64 : Ieee.Format := Ieee.double
theorem d64_B : D64.binade = 4503599627370496 := rfl
theorem d64_I : D64.infRung = 9218868437227405312 := rfl
theorem d64_S : D64.signWeight = 9223372036854775808 := rfl
theorem d64_L : D64.leastPlace = -1074 := rfl
def ngB (x : Nat) : Bool := x / 9223372036854775808 % 2 == 1
def rgB (x : Nat) : Nat := x % 9223372036854775808
/-- No number. -/
def nanB (x : Nat) : Bool := decide (9218868437227405312 < rgB x)
/-- What a rung is worth, in units of the least place. -/
def valB (r : Nat) : Nat := if r < 4503599627370496 then r else (4503599627370496 + r % 4503599627370496) * 2 ^ (r / 4503599627370496 - 1)
theorem valB_up {r s : Nat} (h : r < s) : valB r < valB s := by
  unfold valB
  by_cases h1 : r < 4503599627370496
  · rw [if_pos h1]
    by_cases h2 : s < 4503599627370496
    · rw [if_pos h2]; exact h
    · rw [if_neg h2]
      have : 4503599627370496 + s % 4503599627370496 ≤ (4503599627370496 + s % 4503599627370496) * 2 ^ (s / 4503599627370496 - 1) := Nat.le_mul_of_pos_right _ (Nat.two_pow_pos _)
      omega
  · rw [if_neg h1, if_neg (by omega)]
    have hq : r / 4503599627370496 ≤ s / 4503599627370496 := Nat.div_le_div_right (by omega)
    rcases Nat.lt_or_ge (r / 4503599627370496) (s / 4503599627370496) with h3 | h3
    · have e : s / 4503599627370496 - 1 = (r / 4503599627370496 - 1) + (s / 4503599627370496 - r / 4503599627370496) := by omega
      rw [e, Nat.pow_add]
      have h4 : 2 ≤ 2 ^ (s / 4503599627370496 - r / 4503599627370496) := by
        have := Nat.pow_le_pow_right (n := 2) (by omega) (show 1 ≤ s / 4503599627370496 - r / 4503599627370496 by omega)
        simpa using this
      have h5 : r % 4503599627370496 < 4503599627370496 := Nat.mod_lt _ (by omega)
      have hp := Nat.two_pow_pos (r / 4503599627370496 - 1)
      calc (4503599627370496 + r % 4503599627370496) * 2 ^ (r / 4503599627370496 - 1) < (4503599627370496 * 2) * 2 ^ (r / 4503599627370496 - 1) := Nat.mul_lt_mul_of_pos_right (by omega) hp
        _ ≤ (4503599627370496 * 2 ^ (s / 4503599627370496 - r / 4503599627370496)) * 2 ^ (r / 4503599627370496 - 1) := Nat.mul_le_mul_right _ (Nat.mul_le_mul_left _ h4)
        _ ≤ ((4503599627370496 + s % 4503599627370496) * 2 ^ (s / 4503599627370496 - r / 4503599627370496)) * 2 ^ (r / 4503599627370496 - 1) := Nat.mul_le_mul_right _ (Nat.mul_le_mul_right _ (by omega))
        _ = (4503599627370496 + s % 4503599627370496) * (2 ^ (r / 4503599627370496 - 1) * 2 ^ (s / 4503599627370496 - r / 4503599627370496)) := by rw [Nat.mul_assoc, Nat.mul_comm (2 ^ (s / 4503599627370496 - r / 4503599627370496))]
    · have e : r / 4503599627370496 = s / 4503599627370496 := by omega
      rw [e]
      exact Nat.mul_lt_mul_of_pos_right (by omega) (Nat.two_pow_pos _)
theorem read_num {x : Nat} (h : rgB x < 9218868437227405312) : ∃ m p : Nat, D64.read x = .number (ngB x) m (-1074 + (p : Int)) ∧ m * 2 ^ p = valB (rgB x) := by
  unfold Ieee.Format.read
  rw [d64_B, d64_I, d64_S, d64_L]
  unfold rgB at h
  show ∃ m p : Nat, (if x % 9223372036854775808 < 4503599627370496 then _ else _) = _ ∧ _
  unfold valB rgB ngB
  by_cases h1 : x % 9223372036854775808 < 4503599627370496
  · rw [if_pos h1, if_pos h1]
    exact ⟨_, 0, rfl, by simp⟩
  · rw [if_neg h1, if_neg h1, if_pos h]
    exact ⟨_, _, rfl, rfl⟩
theorem read_inf {x : Nat} (h : rgB x = 9218868437227405312) : D64.read x = .infinity (ngB x) := by
  unfold Ieee.Format.read
  rw [d64_B, d64_I, d64_S]
  unfold rgB at h
  show (if x % 9223372036854775808 < 4503599627370496 then _ else _) = _
  rw [if_neg (by omega), if_neg (by omega), if_pos h]
  rfl
theorem read_nan {x : Nat} (h : 9218868437227405312 < rgB x) : ∃ s t, D64.read x = .nan s t := by
  unfold Ieee.Format.read
  rw [d64_B, d64_I, d64_S]
  unfold rgB at h
  refine ⟨x / 9223372036854775808 % 2 == 1, x % 9223372036854775808 - 9218868437227405312, ?_⟩
  show (if x % 9223372036854775808 < 4503599627370496 then _ else _) = _
  rw [if_neg (by omega), if_neg (by omega), if_neg (by omega)]
/-- Where a float stands: both noughts at one place. -/
def keyF (x : Nat) : Int := if ngB x then -(rgB x : Int) else (rgB x : Int)
theorem signed_val (ng : Bool) (m p base : Nat) (h : base ≤ p) : Ieee.signed ng m (p - base) * 2 ^ base = if ng then -((m * 2 ^ p : Nat) : Int) else ((m * 2 ^ p : Nat) : Int) := by
  have e : (m <<< (p - base)) * 2 ^ base = m * 2 ^ p := by
    rw [Nat.shiftLeft_eq, Nat.mul_assoc, ← Nat.pow_add, Nat.sub_add_cancel h]
  have e2 : ((m <<< (p - base) : Nat) : Int) * 2 ^ base = ((m * 2 ^ p : Nat) : Int) := by rw [← e]; simp
  unfold Ieee.signed
  cases ng
  · simp only [Bool.false_eq_true, if_false]; exact e2
  · simp only [if_true]; rw [Int.neg_mul, e2]
theorem compare_scale (a b : Int) (k : Nat) : compare a b = compare (a * 2 ^ k) (b * 2 ^ k) := by
  have hp : (0 : Int) < 2 ^ k := Int.pow_pos (by decide)
  simp only [compare, compareOfLessAndEq]
  have h1 : a < b ↔ a * 2 ^ k < b * 2 ^ k := ⟨fun h => Int.mul_lt_mul_of_pos_right h hp, fun h => Int.lt_of_mul_lt_mul_right h (Int.le_of_lt hp)⟩
  have h2 : a = b ↔ a * 2 ^ k = b * 2 ^ k := ⟨fun h => by rw [h], fun h => Int.eq_of_mul_eq_mul_right (by omega) h⟩
  by_cases h3 : a < b
  · rw [if_pos h3, if_pos (h1.1 h3)]
  · rw [if_neg h3, if_neg (fun h => h3 (h1.2 h))]
    by_cases h4 : a = b
    · rw [if_pos h4, if_pos (h2.1 h4)]
    · rw [if_neg h4, if_neg (fun h => h4 (h2.2 h))]
theorem valB_zero : valB 0 = 0 := rfl
theorem valB_lt {r s : Nat} : valB r < valB s ↔ r < s := ⟨fun h => by
  rcases Nat.lt_trichotomy r s with h1 | h1 | h1
  · exact h1
  · subst h1; omega
  · have := valB_up h1; omega, valB_up⟩
theorem valB_eq {r s : Nat} : valB r = valB s ↔ r = s := ⟨fun h => by
  rcases Nat.lt_trichotomy r s with h1 | h1 | h1
  · have := valB_up h1; omega
  · exact h1
  · have := valB_up h1; omega, fun h => by rw [h]⟩
theorem cmp_val (a b : Bool) (r s : Nat) : compare (if a then -((valB r : Nat) : Int) else ((valB r : Nat) : Int)) (if b then -((valB s : Nat) : Int) else ((valB s : Nat) : Int)) = compare (if a then -(r : Int) else (r : Int)) (if b then -(s : Int) else (s : Int)) := by
  have h0r : valB r = 0 ↔ r = 0 := by rw [← valB_zero]; exact valB_eq
  have h0s : valB s = 0 ↔ s = 0 := by rw [← valB_zero]; exact valB_eq
  have hlt := @valB_lt r s
  have hgt := @valB_lt s r
  have heq := @valB_eq r s
  simp only [compare, compareOfLessAndEq]
  cases a <;> cases b <;> simp only [Bool.false_eq_true, if_false, if_true] <;> (congr 1 <;> first | (rw [eq_iff_iff]; omega) | skip) <;> (congr 1; rw [eq_iff_iff]; omega)
theorem order_key {x y : Nat} (hx : nanB x = false) (hy : nanB y = false) : D64.order x y = some (compare (keyF x) (keyF y)) := by
  unfold nanB at hx hy
  have hx : rgB x ≤ 9218868437227405312 := by simpa using hx
  have hy : rgB y ≤ 9218868437227405312 := by simpa using hy
  unfold Ieee.Format.order
  rcases Nat.lt_or_eq_of_le hx with hx | hx <;> rcases Nat.lt_or_eq_of_le hy with hy | hy
  · obtain ⟨m, p, e1, v1⟩ := read_num hx
    obtain ⟨n, q, e2, v2⟩ := read_num hy
    rw [e1, e2]
    show some (compare _ _) = _
    have eb : min (-1074 + (p : Int)) (-1074 + (q : Int)) = -1074 + ((min p q : Nat) : Int) := by omega
    have t1 : (-1074 + (p : Int) - (-1074 + ((min p q : Nat) : Int))).toNat = p - min p q := by omega
    have t2 : (-1074 + (q : Int) - (-1074 + ((min p q : Nat) : Int))).toNat = q - min p q := by omega
    simp only [eb, t1, t2]
    rw [compare_scale _ _ (min p q), signed_val _ _ _ _ (Nat.min_le_left _ _), signed_val _ _ _ _ (Nat.min_le_right _ _), v1, v2, cmp_val]
    rfl
  · obtain ⟨m, p, e1, v1⟩ := read_num hx
    rw [e1, read_inf hy]
    show some (if ngB y then Ordering.gt else Ordering.lt) = _
    congr 1
    unfold keyF
    rw [hy]
    cases ngB x <;> cases ngB y <;> simp only [Bool.false_eq_true, if_false, if_true, compare, compareOfLessAndEq]
    · rw [if_pos (by omega)]
    · rw [if_neg (by omega), if_neg (by omega)]
    · rw [if_pos (by omega)]
    · rw [if_neg (by omega), if_neg (by omega)]
  · obtain ⟨n, q, e2, v2⟩ := read_num hy
    rw [e2, read_inf hx]
    show some (if ngB x then Ordering.lt else Ordering.gt) = _
    congr 1
    unfold keyF
    rw [hx]
    cases ngB x <;> cases ngB y <;> simp only [Bool.false_eq_true, if_false, if_true, compare, compareOfLessAndEq]
    · rw [if_neg (by omega), if_neg (by omega)]
    · rw [if_neg (by omega), if_neg (by omega)]
    · rw [if_pos (by omega)]
    · rw [if_pos (by omega)]
  · rw [read_inf hx, read_inf hy]
    show some (compare _ _) = _
    congr 1
    unfold keyF
    rw [hx, hy]
    cases ngB x <;> cases ngB y <;> rfl
theorem order_nanL {x y : Nat} (hx : nanB x = true) : D64.order x y = none := by
  unfold nanB at hx
  obtain ⟨s, t, e⟩ := read_nan (of_decide_eq_true hx)
  unfold Ieee.Format.order
  rw [e]
  rfl
theorem order_nanR {x y : Nat} (hy : nanB y = true) : D64.order x y = none := by
  unfold nanB at hy
  obtain ⟨s, t, e⟩ := read_nan (of_decide_eq_true hy)
  unfold Ieee.Format.order
  rw [e]
  cases D64.read x <;> rfl
end Go.Proofs.YtkjbkalakafnlaaDoor
