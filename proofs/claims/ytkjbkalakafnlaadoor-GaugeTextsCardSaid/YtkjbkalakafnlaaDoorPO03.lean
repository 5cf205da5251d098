/- Plain: how many bits a word has, as math/bits counts them; the bytes of a set's key. -/
import Derived.Test.YtkjbkalakafnlaaDoorPK03
namespace Go.Proofs.YtkjbkalakafnlaaDoor
set_option linter.unusedVariables false
set_option linter.unusedSimpArgs false
def pc : Nat → Nat → Nat
  | 0, _ => 0
  | f + 1, x => x % 2 + pc f (x / 2)
theorem filt_pc : ∀ (n w : Nat), ((List.range n).filter fun i => w.testBit i).length = pc n w
  | 0, w => rfl
  | n + 1, w => by
    have h := filt_pc n (w / 2)
    have e : (((List.range n).map Nat.succ).filter fun i => w.testBit i).length = pc n (w / 2) := by
      rw [List.filter_map, List.length_map, ← h]
      congr 1
      refine List.filter_congr fun x _ => ?_
      simp [Nat.testBit_succ]
    rw [List.range_succ_eq_map]
    show _ = w % 2 + pc n (w / 2)
    by_cases h0 : w.testBit 0 = true
    · rw [List.filter_cons_of_pos h0, List.length_cons, e]
      have : w % 2 = 1 := by simpa [Nat.testBit_zero] using h0
      omega
    · rw [List.filter_cons_of_neg h0, e]
      have : w % 2 ≠ 1 := by simpa [Nat.testBit_zero] using h0
      omega
theorem bitsOf_pc (w : Nat) : (bitsOf w).length = pc 64 w := filt_pc 64 w
theorem pc_8 (m x : Nat) : pc (m + 8) x = pc 8 (x % 256) + pc m (x / 256) := by
  simp only [pc]
  have e : x / 2 / 2 / 2 / 2 / 2 / 2 / 2 / 2 = x / 256 := by omega
  rw [e]
  omega
/-! ### Masks, byte by byte -/
def rep (m : Nat) : Nat → Nat
  | 0 => 0
  | n + 1 => 256 * rep m n + m
theorem mask8 (k a b m M : Nat) (ha : a < 256) (hm : m < 256) (hk : k ≤ 8) (hmk : m < 2 ^ (8 - k)) : (256 * b + a) >>> k &&& (256 * M + m) = 256 * (b >>> k &&& M) + (a >>> k &&& m) := by
  have e8 : (256 : Nat) = 2 ^ 8 := rfl
  have hA : a >>> k &&& m < 2 ^ 8 := Nat.lt_of_le_of_lt Nat.and_le_right hm
  refine Nat.eq_of_testBit_eq fun j => ?_
  rw [e8, Nat.testBit_and, Nat.testBit_shiftRight, Nat.testBit_two_pow_mul_add _ ha, Nat.testBit_two_pow_mul_add _ hm, Nat.testBit_two_pow_mul_add _ hA, Nat.testBit_and, Nat.testBit_and, Nat.testBit_shiftRight, Nat.testBit_shiftRight]
  by_cases h : j < 8
  · rw [if_pos h, if_pos h]
    by_cases h2 : k + j < 8
    · rw [if_pos h2]
    · have : m.testBit j = false := Nat.testBit_lt_two_pow (Nat.lt_of_lt_of_le hmk (Nat.pow_le_pow_right (by omega) (by omega)))
      rw [this]; simp
  · rw [if_neg h, if_neg h, if_neg (by omega)]
    congr 2
    omega
def F1 (m M x : Nat) : Nat := (x >>> m &&& M) + (x &&& M)
theorem F1_byte (k a b m M : Nat) (ha : a < 256) (hm : m < 256) (hk : k ≤ 8) (hmk : m < 2 ^ (8 - k)) : F1 k (256 * M + m) (256 * b + a) = 256 * F1 k M b + F1 k m a := by
  have h0 := mask8 0 a b m M ha hm (by omega) hm
  simp only [Nat.shiftRight_zero] at h0
  unfold F1
  rw [mask8 k a b m M ha hm hk hmk, h0]
  omega
def F3 (M x : Nat) : Nat := (x >>> 4 + x) &&& M
theorem F3_byte (a b M : Nat) (ha : a < 256) (h1 : a % 16 + a / 16 ≤ 15) (h2 : b % 16 + a / 16 ≤ 15) : F3 (256 * M + 15) (256 * b + a) = 256 * F3 M b + (a % 16 + a / 16) := by
  have e : (256 * b + a) >>> 4 + (256 * b + a) = 256 * (b >>> 4 + b) + (16 * (b % 16 + a / 16) + (a % 16 + a / 16)) := by
    simp only [Nat.shiftRight_eq_div_pow]
    omega
  have h0 := mask8 0 (16 * (b % 16 + a / 16) + (a % 16 + a / 16)) (b >>> 4 + b) 15 M (by omega) (by omega) (by omega) (by omega)
  simp only [Nat.shiftRight_zero] at h0
  unfold F3
  rw [e, h0]
  have : (16 * (b % 16 + a / 16) + (a % 16 + a / 16)) &&& 15 = a % 16 + a / 16 := by
    rw [show (15 : Nat) = 2 ^ 4 - 1 from rfl, Nat.and_two_pow_sub_one_eq_mod]
    omega
  rw [this]
def F2 (y : Nat) : Nat := F1 2 51 (F1 1 85 y)
theorem byte_all : ∀ y, y < 256 → F1 1 85 y < 256 ∧ F2 y < 256 ∧ F2 y % 16 ≤ 4 ∧ F2 y / 16 ≤ 4 ∧ F2 y % 16 + F2 y / 16 = pc 8 y := by decide +kernel
def pcs : Nat → Nat → Nat
  | 0, _ => 0
  | n + 1, x => 256 * pcs n (x / 256) + pc 8 (x % 256)
theorem swar : ∀ n x, x < 256 ^ n → F3 (rep 15 n) (F1 2 (rep 51 n) (F1 1 (rep 85 n) x)) = pcs n x ∧ F1 2 (rep 51 n) (F1 1 (rep 85 n) x) % 16 ≤ 4
  | 0, x, h => by simp [F3, F1, rep, pcs]
  | n + 1, x, h => by
    obtain ⟨h1, h2⟩ := swar n (x / 256) (by rw [Nat.pow_succ] at h; omega)
    have hx : x = 256 * (x / 256) + x % 256 := by omega
    have hb := byte_all (x % 256) (Nat.mod_lt _ (by omega))
    have e1 : F1 1 (rep 85 (n + 1)) x = 256 * F1 1 (rep 85 n) (x / 256) + F1 1 85 (x % 256) := by
      conv => lhs; rw [hx]
      exact F1_byte 1 _ _ 85 _ (Nat.mod_lt _ (by omega)) (by omega) (by omega) (by decide)
    have e2 : F1 2 (rep 51 (n + 1)) (F1 1 (rep 85 (n + 1)) x) = 256 * F1 2 (rep 51 n) (F1 1 (rep 85 n) (x / 256)) + F2 (x % 256) := by
      rw [e1]
      exact F1_byte 2 _ _ 51 _ hb.1 (by omega) (by omega) (by decide)
    rw [e2]
    refine ⟨?_, by omega⟩
    have e3 := F3_byte (F2 (x % 256)) (F1 2 (rep 51 n) (F1 1 (rep 85 n) (x / 256))) (rep 15 n) hb.2.1 (by omega) (by omega)
    show F3 (256 * rep 15 n + 15) _ = 256 * pcs n (x / 256) + pc 8 (x % 256)
    rw [e3, h1, hb.2.2.2.2]
theorem pc8_le : ∀ y, y < 256 → pc 8 y ≤ 8 := by decide +kernel
/-- The sums at the end. -/
theorem sh1 {x y z p q : Nat} (e : x = 256 * y + p) (f : y = 256 * z + q) : x + y = 256 * (y + z) + (p + q) := by omega
theorem bd1 {x y p B C : Nat} (e : x = 256 * y + p) (h : p ≤ 8) (hy : y ≤ B) (hC : 256 * B + 8 = C) : x ≤ C := by omega
theorem dv1 {x y p : Nat} (e : x = 256 * y + p) (h : p ≤ 8) : x / 256 = y := by omega
theorem dv2 {x y z p q : Nat} (e : x = 256 * y + p) (f : y = 256 * z + q) (h : p ≤ 16) (k : q ≤ 16) : x / 65536 = z := by omega
theorem sh2 {a b c d p q : Nat} (e : a = 256 * b + p) (f : c = 256 * d + q) : a + c = 256 * (b + d) + (p + q) := by omega
theorem dv4 {a b c d e p q r s : Nat} (h1 : a = 256 * b + p) (h2 : b = 256 * c + q) (h3 : c = 256 * d + r) (h4 : d = 256 * e + s) (k1 : p ≤ 32) (k2 : q ≤ 32) (k3 : r ≤ 32) (k4 : s ≤ 32) : a / 4294967296 = e := by omega
theorem md4 {a b c d p q : Nat} (h1 : a = 256 * b + p) (h2 : c = 256 * d + q) (k1 : p ≤ 32) (k2 : q ≤ 32) : (a + c) % 128 = p + q := by omega
theorem bg1 {x a b c : Nat} (h1 : a ≤ 2260630401189896) (h2 : b ≤ 8830587504648) (h3 : c ≤ 34494482440) (h : x ≤ 578721382704613384) : x + a + (b + c) < 9223372036854775808 := by omega
theorem bg2 {x a b c d e f g : Nat} (h1 : a ≤ 2260630401189896) (h2 : b ≤ 8830587504648) (h3 : c ≤ 34494482440) (h4 : d ≤ 134744072) (h5 : e ≤ 526344) (h6 : f ≤ 2056) (h7 : g ≤ 8) (h : x ≤ 578721382704613384) : x + a + (b + c) + (d + e + (f + g)) < 9223372036854775808 := by omega
theorem add2 {a b B : Nat} (h : a ≤ B) (k : b ≤ B) (hB : B + B < 9223372036854775808) : a + b < 9223372036854775808 := by omega
theorem sums {p0 p1 p2 p3 p4 p5 p6 p7 x y1 y2 y3 y4 y5 y6 y7 : Nat} (e0 : x = 256 * y1 + p0) (e1 : y1 = 256 * y2 + p1) (e2 : y2 = 256 * y3 + p2) (e3 : y3 = 256 * y4 + p3) (e4 : y4 = 256 * y5 + p4) (e5 : y5 = 256 * y6 + p5) (e6 : y6 = 256 * y7 + p6) (e7 : y7 = p7)
    (h0 : p0 ≤ 8) (h1 : p1 ≤ 8) (h2 : p2 ≤ 8) (h3 : p3 ≤ 8) (h4 : p4 ≤ 8) (h5 : p5 ≤ 8) (h6 : p6 ≤ 8) (h7 : p7 ≤ 8) :
    ∃ x4 x5 x6, x4 = x + x / 256 ∧ x5 = x4 + x4 / 65536 ∧ x6 = x5 + x5 / 4294967296 ∧ x4 < 9223372036854775808 ∧ x5 < 9223372036854775808 ∧ x6 < 9223372036854775808 ∧ x6 % 128 = p0 + p1 + p2 + p3 + p4 + p5 + p6 + p7 := by
  have b7 : y7 ≤ 8 := by rw [e7]; exact h7
  have e7 : y7 = 256 * 0 + p7 := by rw [e7]; simp
  have b6 := bd1 e6 h6 b7 rfl
  have b5 := bd1 e5 h5 b6 rfl
  have b4 := bd1 e4 h4 b5 rfl
  have b3 := bd1 e3 h3 b4 rfl
  have b2 := bd1 e2 h2 b3 rfl
  have b1 := bd1 e1 h1 b2 rfl
  have b0 := bd1 e0 h0 b1 rfl
  have f1 : x / 256 = y1 := dv1 e0 h0
  have k0 := sh1 e0 e1
  have k1 := sh1 e1 e2
  have k2 := sh1 e2 e3
  have k3 := sh1 e3 e4
  have k4 := sh1 e4 e5
  have k5 := sh1 e5 e6
  have k6 := sh1 e6 e7
  have q : ∀ {a b : Nat}, a ≤ 8 → b ≤ 8 → a + b ≤ 16 := fun h k => Nat.add_le_add h k
  have q2 : ∀ {a b : Nat}, a ≤ 16 → b ≤ 16 → a + b ≤ 32 := fun h k => Nat.add_le_add h k
  have f2 := dv2 k0 k1 (q h0 h1) (q h1 h2)
  have n0 := sh2 k0 k2
  have n1 := sh2 k1 k3
  have n2 := sh2 k2 k4
  have n3 := sh2 k3 k5
  have n4 := sh2 k4 k6
  have f3 := dv4 n0 n1 n2 n3 (q2 (q h0 h1) (q h2 h3)) (q2 (q h1 h2) (q h3 h4)) (q2 (q h2 h3) (q h4 h5)) (q2 (q h3 h4) (q h5 h6))
  have hz : x + y1 < 9223372036854775808 := Nat.lt_of_le_of_lt (Nat.add_le_add b0 b1) (by decide)
  have ym : y1 ≤ 2260630401189896 ∧ y2 ≤ 8830587504648 ∧ y3 ≤ 34494482440 ∧ y4 ≤ 134744072 ∧ y5 ≤ 526344 ∧ x ≤ 578721382704613384 := ⟨b1, b2, b3, b4, b5, b0⟩
  refine ⟨x + y1, x + y1 + (y2 + y3), x + y1 + (y2 + y3) + (y4 + y5 + (y6 + y7)), by rw [f1], by rw [f2], by rw [f3], hz, ?_, ?_, ?_⟩
  · exact bg1 ym.1 ym.2.1 ym.2.2.1 ym.2.2.2.2.2
  · exact bg2 ym.1 ym.2.1 ym.2.2.1 ym.2.2.2.1 ym.2.2.2.2.1 b6 b7 ym.2.2.2.2.2
  · rw [md4 n0 n4 (q2 (q h0 h1) (q h2 h3)) (q2 (q h4 h5) (q h6 h7))]
    simp only [Nat.add_assoc]
theorem reps : rep 85 8 = 6148914691236517205 ∧ rep 51 8 = 3689348814741910323 ∧ rep 15 8 = 1085102592571150095 := by decide +kernel
/-- As the library counts. -/
theorem pop64 {x : Nat} (h : x < 18446744073709551616) : ∃ x1 x2 x3 x4 x5 x6, x1 = (x >>> 1 &&& 6148914691236517205) + (x &&& 6148914691236517205) ∧ x2 = (x1 >>> 2 &&& 3689348814741910323) + (x1 &&& 3689348814741910323) ∧
    x3 = (x2 >>> 4 + x2) &&& 1085102592571150095 ∧ x4 = x3 + x3 / 256 ∧ x5 = x4 + x4 / 65536 ∧ x6 = x5 + x5 / 4294967296 ∧ x1 < 18446744073709551616 ∧ x2 < 9223372036854775808 ∧ x2 >>> 4 + x2 < 18446744073709551616 ∧ x4 < 9223372036854775808 ∧ x5 < 9223372036854775808 ∧ x6 < 9223372036854775808 ∧ x6 % 128 = (bitsOf x).length := by
  obtain ⟨hs, _⟩ := swar 8 x h
  obtain ⟨r1, r2, r3⟩ := reps
  rw [r1, r2, r3] at hs
  have b0 := pc8_le (x % 256) (Nat.mod_lt _ (by omega))
  have b1 := pc8_le (x / 256 % 256) (Nat.mod_lt _ (by omega))
  have b2 := pc8_le (x / 256 / 256 % 256) (Nat.mod_lt _ (by omega))
  have b3 := pc8_le (x / 256 / 256 / 256 % 256) (Nat.mod_lt _ (by omega))
  have b4 := pc8_le (x / 256 / 256 / 256 / 256 % 256) (Nat.mod_lt _ (by omega))
  have b5 := pc8_le (x / 256 / 256 / 256 / 256 / 256 % 256) (Nat.mod_lt _ (by omega))
  have b6 := pc8_le (x / 256 / 256 / 256 / 256 / 256 / 256 % 256) (Nat.mod_lt _ (by omega))
  have b7 := pc8_le (x / 256 / 256 / 256 / 256 / 256 / 256 / 256 % 256) (Nat.mod_lt _ (by omega))
  have hl : (bitsOf x).length = pc 8 (x % 256) + pc 8 (x / 256 % 256) + pc 8 (x / 256 / 256 % 256) + pc 8 (x / 256 / 256 / 256 % 256) + pc 8 (x / 256 / 256 / 256 / 256 % 256) + pc 8 (x / 256 / 256 / 256 / 256 / 256 % 256) + pc 8 (x / 256 / 256 / 256 / 256 / 256 / 256 % 256) + pc 8 (x / 256 / 256 / 256 / 256 / 256 / 256 / 256 % 256) := by
    have e1 : pc 64 x = pc 8 (x % 256) + pc 56 (x / 256) := pc_8 56 _
    have e2 : pc 56 (x / 256) = pc 8 (x / 256 % 256) + pc 48 (x / 256 / 256) := pc_8 48 _
    have e3 : pc 48 (x / 256 / 256) = pc 8 (x / 256 / 256 % 256) + pc 40 (x / 256 / 256 / 256) := pc_8 40 _
    have e4 : pc 40 (x / 256 / 256 / 256) = pc 8 (x / 256 / 256 / 256 % 256) + pc 32 (x / 256 / 256 / 256 / 256) := pc_8 32 _
    have e5 : pc 32 (x / 256 / 256 / 256 / 256) = pc 8 (x / 256 / 256 / 256 / 256 % 256) + pc 24 (x / 256 / 256 / 256 / 256 / 256) := pc_8 24 _
    have e6 : pc 24 (x / 256 / 256 / 256 / 256 / 256) = pc 8 (x / 256 / 256 / 256 / 256 / 256 % 256) + pc 16 (x / 256 / 256 / 256 / 256 / 256 / 256) := pc_8 16 _
    have e7 : pc 16 (x / 256 / 256 / 256 / 256 / 256 / 256) = pc 8 (x / 256 / 256 / 256 / 256 / 256 / 256 % 256) + pc 8 (x / 256 / 256 / 256 / 256 / 256 / 256 / 256) := pc_8 8 _
    have e8 : pc 8 (x / 256 / 256 / 256 / 256 / 256 / 256 / 256) = pc 8 (x / 256 / 256 / 256 / 256 / 256 / 256 / 256 % 256) := pc_8 0 _
    rw [bitsOf_pc, e1, e2, e3, e4, e5, e6, e7, e8]
    simp only [Nat.add_assoc]
  have q : ∀ n y, pcs (n + 1) y = 256 * pcs n (y / 256) + pc 8 (y % 256) := fun _ _ => rfl
  obtain ⟨x4, x5, x6, e4, e5, e6, l4, l5, l6, e7⟩ := sums (q 7 x) (q 6 _) (q 5 _) (q 4 _) (q 3 _) (q 2 _) (q 1 _) (by rw [q]; simp only [pcs, Nat.mul_zero, Nat.zero_add]) b0 b1 b2 b3 b4 b5 b6 b7
  have m1 : F1 1 6148914691236517205 x ≤ 6148914691236517205 + 6148914691236517205 := Nat.add_le_add Nat.and_le_right Nat.and_le_right
  have m2 : ∀ y, F1 2 3689348814741910323 y ≤ 3689348814741910323 + 3689348814741910323 := fun y => Nat.add_le_add Nat.and_le_right Nat.and_le_right
  have m3 := m2 (F1 1 6148914691236517205 x)
  refine ⟨_, _, pcs 8 x, x4, x5, x6, rfl, rfl, hs.symm, e4, e5, e6, ?_, ?_, ?_, l4, l5, l6, e7.trans hl.symm⟩
  · show F1 1 6148914691236517205 x < _; omega
  · show F1 2 3689348814741910323 (F1 1 6148914691236517205 x) < _; omega
  · show F1 2 3689348814741910323 (F1 1 6148914691236517205 x) >>> 4 + F1 2 3689348814741910323 (F1 1 6148914691236517205 x) < _
    rw [Nat.shiftRight_eq_div_pow]
    omega
/-! ### The key -/
def keyOf (b : Blk) : List Nat := (List.range 4).map (fun i => b.a.toNat / 2 ^ (8 * i) % 256) ++ (List.range 8).map fun i => b.w / 2 ^ (8 * i) % 256
def keyB (bs : List Blk) : List Nat := bs.flatMap keyOf
theorem keyOf_len (b : Blk) : (keyOf b).length = 12 := by simp [keyOf]
theorem keyOf_inj {x y : Blk} (hx : 0 ≤ x.a ∧ x.a < 4294967296 ∧ x.w < 18446744073709551616) (hy : 0 ≤ y.a ∧ y.a < 4294967296 ∧ y.w < 18446744073709551616) (h : keyOf x = keyOf y) : x = y := by
  have := List.append_inj h (by simp)
  obtain ⟨h1, h2⟩ := this
  simp only [List.range_succ, List.range_zero, List.map_append, List.map_nil, List.map_cons, List.nil_append, List.cons_append, List.cons.injEq, List.append_assoc, and_true] at h1 h2
  cases x; cases y
  simp only [Blk.mk.injEq] at *
  omega
theorem keyB_inj : ∀ {xs ys : List Blk}, (∀ b ∈ xs, 0 ≤ b.a ∧ b.a < 4294967296 ∧ b.w < 18446744073709551616) → (∀ b ∈ ys, 0 ≤ b.a ∧ b.a < 4294967296 ∧ b.w < 18446744073709551616) → keyB xs = keyB ys → xs = ys
  | [], [], _, _, _ => rfl
  | [], y :: ys, _, _, h => by
    have h : [] = keyOf y ++ keyB ys := h
    have := congrArg List.length h
    rw [List.length_append, keyOf_len] at this
    simp only [List.length_nil] at this
    omega
  | x :: xs, [], _, _, h => by
    have h : keyOf x ++ keyB xs = [] := h
    have := congrArg List.length h
    rw [List.length_append, keyOf_len] at this
    simp only [List.length_nil] at this
    omega
  | x :: xs, y :: ys, hx, hy, h => by
    have h : keyOf x ++ keyB xs = keyOf y ++ keyB ys := h
    obtain ⟨h1, h2⟩ := List.append_inj h (by rw [keyOf_len, keyOf_len])
    rw [keyOf_inj (hx x (by simp)) (hy y (by simp)) h1, keyB_inj (fun b hb => hx b (by simp [hb])) (fun b hb => hy b (by simp [hb])) h2]
end Go.Proofs.YtkjbkalakafnlaaDoor
