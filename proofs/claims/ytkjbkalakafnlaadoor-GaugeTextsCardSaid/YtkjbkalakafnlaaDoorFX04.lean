/- Plain: floats of 64 bits where what is reckoned can be told exactly. -/
import Derived.Test.YtkjbkalakafnlaaDoorFO04
namespace Go.Proofs.YtkjbkalakafnlaaDoor
set_option linter.unusedVariables false
set_option linter.unusedSimpArgs false
def wordB (neg : Bool) (r : Nat) : Nat := if neg then 9223372036854775808 + r else r
theorem cut_zero (neg : Bool) (n : Nat) : Ieee.Toward.even.cut neg n 0 = n := by
  simp [Ieee.Toward.cut]
  exact ⟨by omega, by omega⟩
theorem cut_exact (neg : Bool) (s d : Nat) (hs : 0 < s) : Ieee.Toward.even.cut neg (s * 2 ^ d) d = s := by
  have hp := Nat.two_pow_pos d
  have hl : d ≤ (s * 2 ^ d).log2 := (Nat.le_log2 (by have := Nat.mul_pos hs hp; omega)).2 (Nat.le_mul_of_pos_left _ hs)
  have hm : min d ((s * 2 ^ d).log2 + 2) = d := Nat.min_eq_left (by omega)
  simp only [Ieee.Toward.cut, hm, Nat.one_shiftLeft, Nat.mul_div_cancel _ hp, Nat.mul_mod_left]
  have h2 : (2 ^ d == 0) = false := by simp
  simp
theorem fin_r {E f q L r : Nat} (hEe : E - 1 = q + L - 52) (hrE : r = E * 4503599627370496 + f) (hd1 : 1 ≤ E) (hr : r < 9218868437227405312) : min ((q + L - 52) * 4503599627370496 + (4503599627370496 + f)) 9218868437227405312 = r := by omega
theorem write_exact {neg : Bool} {m q r : Nat} (hv : m * 2 ^ q = valB r) (hr : r < 9218868437227405312) : D64.write (.number neg m (-1074 + (q : Int))) = wordB neg r := by
  show D64.nearest neg m (-1074 + (q : Int)) = _
  unfold Ieee.Format.nearest
  rw [d64_L, d64_B, d64_I]
  have hw : ∀ k, D64.word neg k = wordB neg k := fun k => by unfold Ieee.Format.word wordB; rw [d64_S]
  by_cases h0 : m = 0
  · subst h0
    rw [if_pos rfl, hw]
    have : r = 0 := by rw [Nat.zero_mul] at hv; have := valB_eq.1 (hv.symm.trans valB_zero.symm); exact this
    rw [this]
  · rw [if_neg h0]
    have hf : (D64.fractionBits : Int) = 52 := rfl
    have hlow : 2 ^ m.log2 ≤ m := Nat.log2_self_le h0
    have hhigh : m < 2 ^ (m.log2 + 1) := Nat.lt_log2_self
    generalize hL : m.log2 = L at hlow hhigh
    simp only [hf]
    have n1 : 2 ^ (L + q) ≤ m * 2 ^ q := by rw [Nat.pow_add]; exact Nat.mul_le_mul_right _ hlow
    have n2 : m * 2 ^ q < 2 ^ (L + 1 + q) := by rw [Nat.pow_add 2 (L + 1)]; exact Nat.mul_lt_mul_of_pos_right hhigh (Nat.two_pow_pos q)
    rw [hv] at n1 n2
    have hp52 : (2 : Nat) ^ 52 = 4503599627370496 := by decide
    have hp53 : (2 : Nat) ^ 53 = 9007199254740992 := by decide
    by_cases hs : q + L ≤ 52
    · have e1 : max (-1074 + (q : Int) + (L : Int) - 52) (-1074) = -1074 := by omega
      have e2 : (-1074 + (q : Int) - -1074).toNat = q := by omega
      have e3 : (-1074 - (-1074 + (q : Int))).toNat = 0 := by omega
      have e4 : ((-1074 : Int) - -1074).toNat = 0 := by decide
      simp only [e1, e2, e3, e4]
      rw [cut_zero, hw, Nat.shiftLeft_eq, hv]
      have hle : 2 ^ (L + 1 + q) ≤ 2 ^ 53 := Nat.pow_le_pow_right (by omega) (by omega)
      have hlt : valB r < 9007199254740992 := by omega
      have hval : valB r = r := by
        unfold valB at hlt ⊢
        split
        · rfl
        · rename_i hge
          rw [if_neg hge] at hlt
          have h1 : r / 4503599627370496 = 1 := by
            apply Classical.byContradiction
            intro hne
            have hx : 1 ≤ r / 4503599627370496 - 1 := by omega
            have := Nat.pow_le_pow_right (n := 2) (by omega) hx
            have h3 := Nat.mul_le_mul_left (4503599627370496 + r % 4503599627370496) this
            omega
          rw [h1]
          simp
          omega
      rw [hval]
      congr 1
      omega
    · have e1 : max (-1074 + (q : Int) + (L : Int) - 52) (-1074) = -1074 + ((q + L - 52 : Nat) : Int) := by omega
      have e4 : (-1074 + ((q + L - 52 : Nat) : Int) - -1074).toNat = q + L - 52 := by omega
      simp only [e1, e4]
      have hge : ¬ r < 4503599627370496 := fun h => by
        have hb : 2 ^ 53 ≤ 2 ^ (L + q) := Nat.pow_le_pow_right (by omega) (by omega)
        unfold valB at n1
        rw [if_pos h] at n1
        omega
      have hE : valB r = (4503599627370496 + r % 4503599627370496) * 2 ^ (r / 4503599627370496 - 1) := by unfold valB; rw [if_neg hge]
      have hmod : r % 4503599627370496 < 4503599627370496 := Nat.mod_lt _ (by omega)
      generalize hf0 : r % 4503599627370496 = f at hE hmod
      have hd1 : 1 ≤ r / 4503599627370496 := by omega
      generalize hE0 : r / 4503599627370496 = E at hE hd1
      have hrE : r = E * 4503599627370496 + f := by omega
      have b1 : 2 ^ (52 + (E - 1)) ≤ valB r := by rw [hE, Nat.pow_add, hp52]; exact Nat.mul_le_mul_right _ (by omega)
      have b2 : valB r < 2 ^ (53 + (E - 1)) := by rw [hE, Nat.pow_add, hp53]; exact Nat.mul_lt_mul_of_pos_right (by omega) (Nat.two_pow_pos _)
      have c1 : 52 + (E - 1) < L + 1 + q := (Nat.pow_lt_pow_iff_right (by omega : 1 < 2)).1 (Nat.lt_of_le_of_lt b1 n2)
      have c2 : L + q < 53 + (E - 1) := (Nat.pow_lt_pow_iff_right (by omega : 1 < 2)).1 (Nat.lt_of_le_of_lt n1 b2)
      have hEe : E - 1 = q + L - 52 := by omega
      rw [hEe] at hE
      have hkept : Ieee.Toward.even.cut neg (m <<< (-1074 + (q : Int) - (-1074 + ((q + L - 52 : Nat) : Int))).toNat) (-1074 + ((q + L - 52 : Nat) : Int) - (-1074 + (q : Int))).toNat = 4503599627370496 + f := by
        by_cases hL52 : L ≤ 52
        · have e5 : (-1074 + (q : Int) - (-1074 + ((q + L - 52 : Nat) : Int))).toNat = 52 - L := by omega
          have e6 : (-1074 + ((q + L - 52 : Nat) : Int) - (-1074 + (q : Int))).toNat = 0 := by omega
          rw [e5, e6, cut_zero, Nat.shiftLeft_eq]
          have hpp := Nat.two_pow_pos (q + L - 52)
          refine Nat.eq_of_mul_eq_mul_right hpp ?_
          rw [← hE, ← hv, Nat.mul_assoc, ← Nat.pow_add]
          congr 2
          omega
        · have e5 : (-1074 + (q : Int) - (-1074 + ((q + L - 52 : Nat) : Int))).toNat = 0 := by omega
          have e6 : (-1074 + ((q + L - 52 : Nat) : Int) - (-1074 + (q : Int))).toNat = L - 52 := by omega
          have hm : m = (4503599627370496 + f) * 2 ^ (L - 52) := by
            have hpp := Nat.two_pow_pos q
            refine Nat.eq_of_mul_eq_mul_right hpp ?_
            rw [hv, hE, Nat.mul_assoc, ← Nat.pow_add]
            congr 2
            omega
          rw [e5, e6, Nat.shiftLeft_eq, Nat.pow_zero, Nat.mul_one, hm]
          exact cut_exact _ _ _ (by omega)
      rw [hkept, hw, fin_r hEe hrE hd1 hr]
theorem wordB_rg {neg : Bool} {r : Nat} (h : r < 9223372036854775808) : rgB (wordB neg r) = r := by
  unfold rgB wordB; cases neg <;> simp <;> omega
theorem wordB_ng {neg : Bool} {r : Nat} (h : r < 9223372036854775808) : ngB (wordB neg r) = neg := by
  unfold ngB wordB
  cases neg
  · simp; omega
  · simp; omega
theorem read_num' {x : Nat} (h : rgB x < 9218868437227405312) : ∃ m p : Nat, D64.read x = .number (ngB x) m (-1074 + (p : Int)) ∧ m * 2 ^ p = valB (rgB x) ∧ m < 9007199254740992 := by
  unfold Ieee.Format.read
  rw [d64_B, d64_I, d64_S, d64_L]
  unfold rgB at h
  show ∃ m p : Nat, (if x % 9223372036854775808 < 4503599627370496 then _ else _) = _ ∧ _
  unfold valB rgB ngB
  by_cases h1 : x % 9223372036854775808 < 4503599627370496
  · rw [if_pos h1, if_pos h1]
    exact ⟨_, 0, rfl, by simp, by omega⟩
  · rw [if_neg h1, if_neg h1, if_pos h]
    exact ⟨_, _, rfl, rfl, by omega⟩
theorem read_word' {neg : Bool} {r : Nat} (h : r < 9218868437227405312) : ∃ m p : Nat, D64.read (wordB neg r) = .number neg m (-1074 + (p : Int)) ∧ m * 2 ^ p = valB r ∧ m < 9007199254740992 := by
  have hg := wordB_rg (neg := neg) (r := r) (by omega)
  obtain ⟨m, p, e, v, l⟩ := read_num' (x := wordB neg r) (by rw [hg]; exact h)
  rw [wordB_ng (by omega)] at e
  rw [hg] at v
  exact ⟨m, p, e, v, l⟩
theorem write_zero (neg : Bool) (p : Int) : D64.write (.number neg 0 p) = wordB neg 0 := by
  show D64.nearest neg 0 p = _
  unfold Ieee.Format.nearest
  rw [if_pos rfl]
  unfold Ieee.Format.word wordB
  rw [d64_S]
theorem read_word {neg : Bool} {r : Nat} (h : r < 9218868437227405312) : ∃ m p : Nat, D64.read (wordB neg r) = .number neg m (-1074 + (p : Int)) ∧ m * 2 ^ p = valB r := by
  have hg := wordB_rg (neg := neg) (r := r) (by omega)
  obtain ⟨m, p, e, v⟩ := read_num (x := wordB neg r) (by rw [hg]; exact h)
  rw [wordB_ng (by omega)] at e
  rw [hg] at v
  exact ⟨m, p, e, v⟩
/-- What can be told: a number of 53 digits, at any place. -/
theorem rung_of {s e : Nat} (hs : s < 9007199254740992) (he : e ≤ 1900) : ∃ r, r < 9218868437227405312 ∧ valB r = s * 2 ^ e := by
  by_cases h0 : s = 0
  · exact ⟨0, by omega, by rw [h0, Nat.zero_mul]; rfl⟩
  have hp52 : (2 : Nat) ^ 52 = 4503599627370496 := by decide
  have hp53 : (2 : Nat) ^ 53 = 9007199254740992 := by decide
  have hlow : 2 ^ s.log2 ≤ s := Nat.log2_self_le h0
  have hhigh : s < 2 ^ (s.log2 + 1) := Nat.lt_log2_self
  generalize s.log2 = l at hlow hhigh
  have hl : l < 53 := (Nat.pow_lt_pow_iff_right (by omega : 1 < 2)).1 (by rw [hp53]; omega)
  by_cases h1 : e + l < 52
  · have hb : s * 2 ^ e < 2 ^ (l + 1 + e) := by rw [Nat.pow_add 2 (l + 1)]; exact Nat.mul_lt_mul_of_pos_right hhigh (Nat.two_pow_pos e)
    have hb2 : 2 ^ (l + 1 + e) ≤ 2 ^ 52 := Nat.pow_le_pow_right (by omega) (by omega)
    refine ⟨s * 2 ^ e, by omega, ?_⟩
    unfold valB
    rw [if_pos (by omega)]
  · have g1 : 4503599627370496 ≤ s * 2 ^ (52 - l) := by
      have := Nat.mul_le_mul_right (2 ^ (52 - l)) hlow
      rw [← Nat.pow_add, show l + (52 - l) = 52 by omega, hp52] at this
      exact this
    have g2 : s * 2 ^ (52 - l) < 9007199254740992 := by
      have := Nat.mul_lt_mul_of_pos_right hhigh (Nat.two_pow_pos (52 - l))
      rw [← Nat.pow_add, show l + 1 + (52 - l) = 53 by omega, hp53] at this
      exact this
    have hval : s * 2 ^ e = s * 2 ^ (52 - l) * 2 ^ (e + l - 52) := by rw [Nat.mul_assoc, ← Nat.pow_add]; congr 2; omega
    rw [hval]
    generalize s * 2 ^ (52 - l) = sg at g1 g2
    refine ⟨(e + l - 52) * 4503599627370496 + sg, by omega, ?_⟩
    unfold valB
    rw [if_neg (by omega)]
    have q1 : ((e + l - 52) * 4503599627370496 + sg) / 4503599627370496 = e + l - 52 + 1 := by omega
    have q2 : ((e + l - 52) * 4503599627370496 + sg) % 4503599627370496 = sg - 4503599627370496 := by omega
    rw [q1, q2, show 4503599627370496 + (sg - 4503599627370496) = sg by omega, Nat.add_sub_cancel]
/-- The floats of whole numbers of 53 digits. -/
theorem near_word {n : Int} (hn : n.natAbs < 9007199254740992) : ∃ r, r < 9218868437227405312 ∧ valB r = n.natAbs * 2 ^ 1074 ∧ FloatKind.f64.nearest n = wordB (decide (n < 0)) r := by
  obtain ⟨r, hr, hv⟩ := rung_of (s := n.natAbs) (e := 1074) hn (by omega)
  refine ⟨r, hr, hv, ?_⟩
  have := write_exact (neg := decide (n < 0)) hv.symm hr
  rw [show (-1074 + ((1074 : Nat) : Int)) = 0 by omega] at this
  exact this
theorem near_eq {n : Int} {r : Nat} (hn : n.natAbs < 9007199254740992) (hv : valB r = n.natAbs * 2 ^ 1074) : FloatKind.f64.nearest n = wordB (decide (n < 0)) r := by
  obtain ⟨r', _, h2, h3⟩ := near_word hn
  rw [h3, valB_eq.1 (h2.trans hv.symm)]
/-- A sum that can be told. -/
theorem add_exact {s t : Bool} {a b r : Nat} (ha : a < 9218868437227405312) (hb : b < 9218868437227405312) (hr : r < 9218868437227405312) {T : Int}
    (hT : (if s then -((valB a : Nat) : Int) else ((valB a : Nat) : Int)) + (if t then -((valB b : Nat) : Int) else ((valB b : Nat) : Int)) = T) (hv : T.natAbs = valB r) :
    D64.add (wordB s a) (wordB t b) = some (wordB (if T = 0 then s && t else decide (T < 0)) r) := by
  obtain ⟨m, p, e1, v1⟩ := read_word (neg := s) ha
  obtain ⟨n, q, e2, v2⟩ := read_word (neg := t) hb
  unfold Ieee.Format.add
  rw [e1, e2]
  have eb : min (-1074 + (p : Int)) (-1074 + (q : Int)) = -1074 + ((min p q : Nat) : Int) := by omega
  have t1 : (-1074 + (p : Int) - (-1074 + ((min p q : Nat) : Int))).toNat = p - min p q := by omega
  have t2 : (-1074 + (q : Int) - (-1074 + ((min p q : Nat) : Int))).toNat = q - min p q := by omega
  simp only [Ieee.Datum.sum, eb, t1, t2, Option.map_some]
  have w1 := signed_val s m p (min p q) (Nat.min_le_left _ _)
  have w2 := signed_val t n q (min p q) (Nat.min_le_right _ _)
  rw [v1] at w1
  rw [v2] at w2
  generalize hS : Ieee.signed s m (p - min p q) + Ieee.signed t n (q - min p q) = S
  have hS2 : S * 2 ^ min p q = T := by rw [← hS, Int.add_mul, w1, w2, hT]
  have hpos : (0 : Int) < 2 ^ min p q := Int.pow_pos (by decide)
  have hz : S = 0 ↔ T = 0 := by
    rw [← hS2]
    constructor
    · intro h; rw [h]; simp
    · intro h; rcases Int.mul_eq_zero.1 h with h | h
      · exact h
      · omega
  have hneg : S < 0 ↔ T < 0 := by
    rw [← hS2]
    constructor
    · intro h; exact Int.mul_neg_of_neg_of_pos h hpos
    · intro h
      apply Classical.byContradiction
      intro hh
      have := Int.mul_nonneg (Int.not_lt.1 hh) (Int.le_of_lt hpos)
      omega
  have habs : S.natAbs * 2 ^ min p q = valB r := by
    rw [← hv, ← hS2, Int.natAbs_mul]
    congr 1
  rw [write_exact habs hr]
  congr 2
  by_cases h1 : T = 0
  · rw [if_pos h1, if_pos (hz.2 h1)]
  · rw [if_neg h1, if_neg (fun h => h1 (hz.1 h))]
    rw [decide_eq_decide]
    exact hneg
/-- A quotient that can be told. -/
theorem quo_exact {s t : Bool} {a b r sg e : Nat} (ha : a < 9218868437227405312) (hb : b < 9218868437227405312) (hr : r < 9218868437227405312) (hb0 : b ≠ 0) (hsg : valB r = sg * 2 ^ e) (hs53 : sg < 9007199254740992) (he : 200 ≤ e) {z : Nat} (hz : z = 1074) (hv : valB a * 2 ^ z = valB b * valB r) :
    D64.div (wordB s a) (wordB t b) = some (wordB (s ^^ t) r) := by
  obtain ⟨m, p, e1, v1, m53⟩ := read_word' (neg := s) ha
  obtain ⟨n, q, e2, v2, _⟩ := read_word' (neg := t) hb
  have hn0 : n ≠ 0 := fun h => by
    rw [h, Nat.zero_mul] at v2
    exact hb0 (valB_eq.1 (v2.symm.trans valB_zero.symm))
  unfold Ieee.Format.div
  rw [e1, e2]
  have hf : D64.fractionBits = 52 := rfl
  simp only [Ieee.Datum.quotient, hf]
  rw [if_neg hn0, Option.map_some]
  refine congrArg some ?_
  rw [hsg, ← v1, ← v2] at hv
  by_cases hm0 : m = 0
  · subst hm0
    have hr0 : r = 0 := by
      rw [Nat.zero_mul, Nat.zero_mul] at hv
      have hz : sg * 2 ^ e = 0 := by
        rcases Nat.mul_eq_zero.1 hv.symm with h | h
        · rcases Nat.mul_eq_zero.1 h with h | h
          · exact absurd h hn0
          · have := Nat.two_pow_pos q; omega
        · exact h
      exact valB_eq.1 ((hsg.trans hz).trans valB_zero.symm)
    rw [hr0, Nat.zero_shiftLeft, Nat.zero_div, Nat.zero_mod]
    exact write_zero _ _
  · have hml : 2 ^ m.log2 ≤ m := Nat.log2_self_le hm0
    have hnl : 2 ^ n.log2 ≤ n := Nat.log2_self_le hn0
    have hnh : n < 2 ^ (n.log2 + 1) := Nat.lt_log2_self
    have hmh : m < 2 ^ (m.log2 + 1) := Nat.lt_log2_self
    generalize n.log2 = ln at hnl hnh
    generalize m.log2 = lm at hml hmh
    have hlm : lm < 53 := (Nat.pow_lt_pow_iff_right (by omega : 1 < 2)).1 (Nat.lt_of_le_of_lt hml m53)
    generalize hK : 52 + 2 + ln - lm = K
    have hmp := Nat.pos_of_ne_zero hm0
    have hnp := Nat.pos_of_ne_zero hn0
    -- the dividend is great enough
    have hD : n * 2 ^ 53 < m * 2 ^ K := by
      have h1 : n * 2 ^ 53 < 2 ^ (ln + 1) * 2 ^ 53 := Nat.mul_lt_mul_of_pos_right hnh (Nat.two_pow_pos _)
      have h2 : 2 ^ lm * 2 ^ K ≤ m * 2 ^ K := Nat.mul_le_mul_right _ hml
      rw [← Nat.pow_add] at h1 h2
      rw [show lm + K = ln + 1 + 53 by omega] at h2
      omega
    have hD2 : m * 2 ^ K < n * 2 ^ 55 := by
      have h1 : m * 2 ^ K < 2 ^ (lm + 1) * 2 ^ K := Nat.mul_lt_mul_of_pos_right hmh (Nat.two_pow_pos _)
      have h2 : 2 ^ ln * 2 ^ 55 ≤ n * 2 ^ 55 := Nat.mul_le_mul_right _ hnl
      rw [← Nat.pow_add] at h1 h2
      rw [show lm + 1 + K = ln + 55 by omega] at h1
      omega
    have hv2 : m * 2 ^ (p + z) = n * sg * 2 ^ (q + e) := by
      rw [Nat.pow_add, Nat.pow_add, ← Nat.mul_assoc, hv]
      simp only [Nat.mul_assoc, Nat.mul_comm, Nat.mul_left_comm]
    have hge : p + z ≤ q + e + K := by
      apply Classical.byContradiction
      intro hlt
      have hd : p + z = K + (q + e) + (p + z - (q + e + K)) := by omega
      rw [hd, Nat.pow_add, Nat.pow_add] at hv2
      have h1 : m * 2 ^ K * 2 ^ (p + z - (q + e + K)) = n * sg := by
        refine Nat.eq_of_mul_eq_mul_right (Nat.two_pow_pos (q + e)) ?_
        rw [← hv2]
        simp only [Nat.mul_assoc, Nat.mul_comm, Nat.mul_left_comm]
      have h2 : m * 2 ^ K ≤ m * 2 ^ K * 2 ^ (p + z - (q + e + K)) := Nat.le_mul_of_pos_right _ (Nat.two_pow_pos _)
      have h3 : n * sg ≤ n * 2 ^ 53 := Nat.mul_le_mul_left _ (Nat.le_of_lt hs53)
      omega
    obtain ⟨k, hk⟩ : ∃ k, q + e + K = p + z + k := ⟨q + e + K - (p + z), by omega⟩
    have hQ : m * 2 ^ K = sg * 2 ^ k * n := by
      refine Nat.eq_of_mul_eq_mul_right (Nat.two_pow_pos (q + e)) ?_
      rw [Nat.mul_assoc, ← Nat.pow_add, Nat.add_comm K, hk, Nat.pow_add, ← Nat.mul_assoc, hv2]
      simp only [Nat.mul_assoc, Nat.mul_comm, Nat.mul_left_comm]
    have hsg0 : 0 < sg := by
      apply Classical.byContradiction
      intro h
      have : sg = 0 := by omega
      rw [this] at hQ
      have := Nat.mul_pos hmp (Nat.two_pow_pos K)
      simp at hQ
      omega
    have hkk : k < 55 := by
      refine (Nat.pow_lt_pow_iff_right (by omega : 1 < 2)).1 ?_
      rw [hQ, Nat.mul_comm _ n] at hD2
      have h1 := Nat.lt_of_mul_lt_mul_left hD2
      have h2 : 2 ^ k ≤ sg * 2 ^ k := Nat.le_mul_of_pos_left _ hsg0
      exact Nat.lt_of_le_of_lt h2 h1
    rw [Nat.shiftLeft_eq, hQ, Nat.mul_div_cancel _ hnp, Nat.mul_mod_left]
    have hpl : -1074 + (p : Int) - (-1074 + (q : Int)) - (K : Int) - 1 = -1074 + ((e - k - 1 : Nat) : Int) := by omega
    rw [hpl]
    refine write_exact ?_ hr
    rw [hsg]
    show (2 * (sg * 2 ^ k) + 0) * 2 ^ (e - k - 1) = _
    rw [Nat.add_zero, Nat.mul_comm 2, Nat.mul_assoc, Nat.mul_assoc, ← Nat.pow_succ', ← Nat.pow_add]
    congr 2
    omega
end Go.Proofs.YtkjbkalakafnlaaDoor
