/- Plain: quarters, as texts; what a number's text looks like. -/
import Derived.Test.YtkjbkalakafnlaaDoorGX04
namespace Go.Proofs.YtkjbkalakafnlaaDoor
open Go.RowKit
set_option linter.unusedVariables false
set_option linter.unusedSimpArgs false
set_option maxRecDepth 100000
theorem four_word (n : Int) (hn : n = 4) : ∃ r, r < 9218868437227405312 ∧ valB r = n.natAbs * 2 ^ 1074 ∧ r ≠ 0 ∧ 4616189618054758400 = wordB false r := by
  obtain ⟨r, h1, h2, h3⟩ := near_word (n := n) (by subst hn; decide)
  have e : FloatKind.f64.nearest n = 4616189618054758400 := by subst hn; decide +kernel
  rw [e, decide_eq_false (by omega : ¬ n < 0)] at h3
  refine ⟨r, h1, h2, fun h => ?_, h3⟩
  rw [h] at h3
  simp [wordB] at h3
theorem low15 {K r : Nat} (hK : K ≤ 2147483648) (y : Nat) (hy : y = 1072) (hv : valB r = K * 2 ^ y) : r < 4831355200913801216 := by
  apply valB_lt.1
  rw [hv]
  obtain ⟨z, hz⟩ : ∃ z, y = z + 1 := ⟨y - 1, by omega⟩
  unfold valB
  rw [if_neg (by omega), hz, Nat.pow_succ, show 4831355200913801216 / 4503599627370496 - 1 = z by omega]
  have hp := Nat.two_pow_pos z
  generalize 2 ^ z = z at hp
  have h3 : K * (z * 2) ≤ 2147483648 * (z * 2) := Nat.mul_le_mul_right _ hK
  have h4 : 4503599627370496 * z ≤ (4503599627370496 + 4831355200913801216 % 4503599627370496) * z := Nat.mul_le_mul_right _ (by omega)
  omega
theorem move_z (a q u z y : Nat) (hq : q = 4) (hz : z = y + 2) : a * 2 ^ u * 2 ^ z = q * 2 ^ u * (a * 2 ^ y) := by
  subst hq hz
  rw [show y + 2 = y + 1 + 1 from rfl, Nat.pow_succ 2 (y + 1), Nat.pow_succ 2 y]
  generalize 2 ^ y = b
  generalize 2 ^ u = c
  have h1 : a * c * (b * 2 * 2) = a * c * b * 4 := by rw [Nat.mul_assoc b, ← Nat.mul_assoc]
  have h2 : 4 * c * (a * b) = a * c * b * 4 := by
    rw [Nat.mul_comm 4 c, Nat.mul_assoc c 4, Nat.mul_comm 4 (a * b), ← Nat.mul_assoc, ← Nat.mul_assoc, Nat.mul_comm c a]
  rw [h1, h2]
theorem quart {n : Int} (hn : n.natAbs ≤ 2147483648) : ∃ r4, r4 < 4831355200913801216 ∧ valB r4 = n.natAbs * 2 ^ 1072 ∧ floatBits .quo .f64 (nearF n) 4616189618054758400 = some (wordB (decide (n < 0)) r4) := by
  obtain ⟨r, h1, h2, h3⟩ := near_word (n := n) (by omega)
  obtain ⟨q, hq⟩ : ∃ q : Int, q = 4 := ⟨4, rfl⟩
  obtain ⟨rf, f1, f2, f3, f4⟩ := four_word q hq
  obtain ⟨r4, g1, g2⟩ := rung_of (s := n.natAbs) (e := 1072) (by omega) (by omega)
  have hlt := low15 hn 1072 rfl g2
  refine ⟨r4, hlt, g2, ?_⟩
  show D64.div (nearF n) 4616189618054758400 = _
  rw [show nearF n = _ from h3, f4]
  have := quo_exact (s := decide (n < 0)) (t := false) h1 f1 g1 f3 g2 (by omega) (by omega) (z := 1074) rfl (by
    rw [h2, f2, g2]
    exact move_z n.natAbs q.natAbs 1074 1074 1072 (by rw [hq]; rfl) rfl)
  rw [this, Bool.xor_false]
theorem hund_move (m p K y z : Nat) (hz : z = y + 2) (hp : 46 ≤ p) (h : m * 2 ^ p = K * 2 ^ y) : m * 7036874417766400 * 2 ^ (p - 46) = 25 * K * 2 ^ z := by
  subst hz
  have e1 : 7036874417766400 = 100 * 2 ^ 46 := by decide
  have e2 : 2 ^ p = 2 ^ 46 * 2 ^ (p - 46) := by rw [← Nat.pow_add]; congr 1; omega
  have h1 : m * (100 * 2 ^ 46) * 2 ^ (p - 46) = 100 * (m * 2 ^ p) := by
    rw [e2]
    generalize 2 ^ 46 = c
    simp only [Nat.mul_assoc, Nat.mul_comm, Nat.mul_left_comm]
  rw [e1, h1, h, show y + 2 = y + 1 + 1 from rfl, Nat.pow_succ 2 (y + 1), Nat.pow_succ 2 y]
  generalize 2 ^ y = b
  have h5 : K * (b * 2 * 2) = K * b * 4 := by rw [Nat.mul_assoc b, ← Nat.mul_assoc]
  rw [Nat.mul_assoc 25 K, h5]
  omega
theorem big_p {m p K y : Nat} (hm : m < 9007199254740992) (hK : K ≠ 0) (hy : 100 ≤ y) (h : m * 2 ^ p = K * 2 ^ y) : 46 ≤ p := by
  have e53 : (2 : Nat) ^ 53 = 9007199254740992 := by decide
  have h1 : 2 ^ y ≤ K * 2 ^ y := Nat.le_mul_of_pos_left _ (Nat.pos_of_ne_zero hK)
  have h2 : m * 2 ^ p < 2 ^ 53 * 2 ^ p := Nat.mul_lt_mul_of_pos_right (by omega) (Nat.two_pow_pos p)
  rw [h, ← Nat.pow_add] at h2
  have := (Nat.pow_lt_pow_iff_right (by omega : 1 < 2)).1 (Nat.lt_of_le_of_lt h1 h2)
  omega
theorem big_p' {m p K y : Nat} (hm : m < 9007199254740992) (hK : K ≠ 0) (hy : y = 1072) (h : m * 2 ^ p = K * 2 ^ y) : 46 ≤ p := big_p hm hK (by omega) h
theorem mant0 {m p y K : Nat} (hK : K = 0) (h : m * 2 ^ p = K * 2 ^ y) : m = 0 := by
  rw [hK, Nat.zero_mul] at h
  rcases Nat.mul_eq_zero.1 h with h | h
  · exact h
  · have := Nat.two_pow_pos p; omega
theorem val00' {K : Nat} (y : Nat) (hK : K = 0) : valB 0 = K * 2 ^ y := by rw [hK, Nat.zero_mul]; rfl
theorem val00 {K : Nat} (y : Nat) (hK : K = 0) : valB 0 = 25 * K * 2 ^ y := by rw [hK, Nat.mul_zero, Nat.zero_mul]; rfl
theorem mul_quart {s : Bool} {K r4 r : Nat} (h4 : r4 < 4831355200913801216) (hv : valB r4 = K * 2 ^ 1072) (hK : K ≤ 2147483648) (hr : r ≤ 4863887597560135680) (hmul : floatBits .mul .f64 (wordB s r4) 4636737291354636288 = some (wordB s r)) : valB r = 25 * K * 2 ^ 1074 := by
  obtain ⟨m, p, e, v, m53⟩ := read_word' (neg := s) (r := r4) (by omega)
  have hmul : D64.mul (wordB s r4) 4636737291354636288 = some (wordB s r) := hmul
  unfold Ieee.Format.mul at hmul
  rw [e, read_hundred] at hmul
  simp only [Ieee.Datum.product, Option.map_some, Bool.xor_false, Option.some.injEq] at hmul
  have inj : ∀ a, a < 9223372036854775808 → wordB s a = wordB s r → a = r := fun a ha h => by
    have h1 := wordB_rg (neg := s) ha
    have h2 := wordB_rg (neg := s) (r := r) (by omega)
    rw [← h1, ← h2, h]
  by_cases h0 : K = 0
  · have hm0 : m = 0 := mant0 h0 (v.trans hv)
    subst hm0
    rw [Nat.zero_mul, write_zero] at hmul
    rw [← inj 0 (by decide) hmul]
    exact val00 1074 h0
  · rw [hv] at v
    have hp : 46 ≤ p := big_p' m53 h0 rfl v
    obtain ⟨r5, g1, g2⟩ := rung_of (s := 25 * K) (e := 1074) (by omega) (by omega)
    have h5 : m * 7036874417766400 * 2 ^ (p - 46) = valB r5 := (hund_move m p K 1072 1074 rfl hp v).trans g2.symm
    have := write_exact (neg := s) h5 g1
    rw [show -1074 + ((p - 46 : Nat) : Int) = -1074 + (p : Int) + -46 by omega] at this
    rw [this] at hmul
    rw [← inj r5 (by omega) hmul]
    exact g2
def quarL (j : Nat) : List UInt8 := if j = 0 then [48, 48] else if j = 1 then [50, 53] else if j = 2 then [53, 48] else [55, 53]
theorem wantT (ng : Bool) (K j : Nat) (hj : K % 4 = j) : textN ng (25 * K) = (if ng then [45] else []) ++ Lib.decDigits (K / 4) ++ [46] ++ quarL j := by
  unfold textN
  have h1 : 25 * K / 100 = K / 4 := by omega
  rw [h1, List.append_assoc _ [UInt8.ofNat _]]
  congr 1
  have hj4 : j = 0 ∨ j = 1 ∨ j = 2 ∨ j = 3 := by omega
  rcases hj4 with rfl | rfl | rfl | rfl
  · rw [show 25 * K / 10 % 10 = 0 by omega, show 25 * K % 10 = 0 by omega]; rfl
  · rw [show 25 * K / 10 % 10 = 2 by omega, show 25 * K % 10 = 5 by omega]; rfl
  · rw [show 25 * K / 10 % 10 = 5 by omega, show 25 * K % 10 = 0 by omega]; rfl
  · rw [show 25 * K / 10 % 10 = 7 by omega, show 25 * K % 10 = 5 by omega]; rfl
/-- The first digit is a digit. -/
theorem dec_head : ∀ m : Nat, ∃ (h : UInt8) (t : List UInt8), Lib.decDigits m = h :: t ∧ 48 ≤ h.toNat := by
  intro m
  induction m using Nat.strongRecOn with
  | ind m ih =>
    by_cases h : m < 10
    · refine ⟨_, [], Lib.decDigits_one h, ?_⟩
      rw [UInt8.toNat_ofNat']
      omega
    · obtain ⟨x, t, e, hx⟩ := ih (m / 10) (by omega)
      refine ⟨x, t ++ [UInt8.ofNat (48 + m % 10)], ?_, hx⟩
      rw [Lib.decDigits, dif_neg h, e]
      rfl
theorem text_len (ng : Bool) (M : Nat) : 4 ≤ (textN ng M).length := by
  obtain ⟨x, t, e, _⟩ := dec_head (M / 100)
  unfold textN
  rw [e]
  cases ng <;> simp <;> omega
theorem text_dot (ng : Bool) (M : Nat) (h : (textN ng M).length - 3 < (textN ng M).length) : (textN ng M)[(textN ng M).length - 3] = 46 := by
  have key : ∀ (a : List UInt8) (x y z : UInt8) (hh : (a ++ [x] ++ [y] ++ [z]).length - 3 < (a ++ [x] ++ [y] ++ [z]).length), (a ++ [x] ++ [y] ++ [z])[(a ++ [x] ++ [y] ++ [z]).length - 3] = x := by
    intro a x y z hh
    simp
  exact key _ _ _ _ h
theorem text_first (ng : Bool) (M : Nat) (h : 0 < (textN ng M).length) : decide ((((textN ng M)[0]).toNat : Int) = 45) = ng := by
  obtain ⟨x, t, e, hx⟩ := dec_head (M / 100)
  have : ∀ l (hl : 0 < l.length), textN ng M = l → (textN ng M)[0] = l[0] := fun l hl e => by simp only [e]
  cases ng
  · rw [this (x :: (t ++ [46] ++ [UInt8.ofNat (48 + M / 10 % 10)] ++ [UInt8.ofNat (48 + M % 10)])) (by simp) (by unfold textN; rw [e]; simp)]
    simp
    omega
  · rw [this (45 :: (Lib.decDigits (M / 100) ++ [46] ++ [UInt8.ofNat (48 + M / 10 % 10)] ++ [UInt8.ofNat (48 + M % 10)])) (by simp) (by unfold textN; simp)]
    rfl
end Go.Proofs.YtkjbkalakafnlaaDoor
