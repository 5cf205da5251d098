/- Several texts of one claim in one file: PO03 EP EX. -/
import Derived.Test.YtkjbkalakafnlaaDoorZ5
import Derived.Lib.Overlaps
/- Plain: how many bits a word has, as math/bits counts them; the bytes of a set's key. -/
namespace Go.Proofs.YtkjbkalakafnlaaDoor
set_option linter.unusedVariables false
set_option linter.unusedSimpArgs false
def pc : Nat → Nat → Nat
  | 0, _ => 0
  | f + 1, x => x % 2 + pc f (x / 2)
theorem filt_pc : ∀ (n w : Nat), ((List.range n).filter fun i => w.testBit i).length = pc n w
  | 0, w => rfl
  | n + 1, w => by
    have h := filt_pc n (w / 2)
    have e : (((List.range n).map Nat.succ).filter fun i => w.testBit i).length = pc n (w / 2) := by
      rw [List.filter_map, List.length_map, ← h]
      congr 1
      refine List.filter_congr fun x _ => ?_
      simp [Nat.testBit_succ]
    rw [List.range_succ_eq_map]
    show _ = w % 2 + pc n (w / 2)
    by_cases h0 : w.testBit 0 = true
    · rw [List.filter_cons_of_pos h0, List.length_cons, e]
      have : w % 2 = 1 := by simpa [Nat.testBit_zero] using h0
      omega
    · rw [List.filter_cons_of_neg h0, e]
      have : w % 2 ≠ 1 := by simpa [Nat.testBit_zero] using h0
      omega
theorem bitsOf_pc (w : Nat) : (bitsOf w).length = pc 64 w := filt_pc 64 w
theorem pc_8 (m x : Nat) : pc (m + 8) x = pc 8 (x % 256) + pc m (x / 256) := by
  simp only [pc]
  have e : x / 2 / 2 / 2 / 2 / 2 / 2 / 2 / 2 = x / 256 := by omega
  rw [e]
  omega
/-! ### Masks, byte by byte -/
def rep (m : Nat) : Nat → Nat
  | 0 => 0
  | n + 1 => 256 * rep m n + m
theorem mask8 (k a b m M : Nat) (ha : a < 256) (hm : m < 256) (hk : k ≤ 8) (hmk : m < 2 ^ (8 - k)) : (256 * b + a) >>> k &&& (256 * M + m) = 256 * (b >>> k &&& M) + (a >>> k &&& m) := by
  have e8 : (256 : Nat) = 2 ^ 8 := rfl
  have hA : a >>> k &&& m < 2 ^ 8 := Nat.lt_of_le_of_lt Nat.and_le_right hm
  refine Nat.eq_of_testBit_eq fun j => ?_
  rw [e8, Nat.testBit_and, Nat.testBit_shiftRight, Nat.testBit_two_pow_mul_add _ ha, Nat.testBit_two_pow_mul_add _ hm, Nat.testBit_two_pow_mul_add _ hA, Nat.testBit_and, Nat.testBit_and, Nat.testBit_shiftRight, Nat.testBit_shiftRight]
  by_cases h : j < 8
  · rw [if_pos h, if_pos h]
    by_cases h2 : k + j < 8
    · rw [if_pos h2]
    · have : m.testBit j = false := Nat.testBit_lt_two_pow (Nat.lt_of_lt_of_le hmk (Nat.pow_le_pow_right (by omega) (by omega)))
      rw [this]; simp
  · rw [if_neg h, if_neg h, if_neg (by omega)]
    congr 2
    omega
def F1 (m M x : Nat) : Nat := (x >>> m &&& M) + (x &&& M)
theorem F1_byte (k a b m M : Nat) (ha : a < 256) (hm : m < 256) (hk : k ≤ 8) (hmk : m < 2 ^ (8 - k)) : F1 k (256 * M + m) (256 * b + a) = 256 * F1 k M b + F1 k m a := by
  have h0 := mask8 0 a b m M ha hm (by omega) hm
  simp only [Nat.shiftRight_zero] at h0
  unfold F1
  rw [mask8 k a b m M ha hm hk hmk, h0]
  omega
def F3 (M x : Nat) : Nat := (x >>> 4 + x) &&& M
theorem F3_byte (a b M : Nat) (ha : a < 256) (h1 : a % 16 + a / 16 ≤ 15) (h2 : b % 16 + a / 16 ≤ 15) : F3 (256 * M + 15) (256 * b + a) = 256 * F3 M b + (a % 16 + a / 16) := by
  have e : (256 * b + a) >>> 4 + (256 * b + a) = 256 * (b >>> 4 + b) + (16 * (b % 16 + a / 16) + (a % 16 + a / 16)) := by
    simp only [Nat.shiftRight_eq_div_pow]
    omega
  have h0 := mask8 0 (16 * (b % 16 + a / 16) + (a % 16 + a / 16)) (b >>> 4 + b) 15 M (by omega) (by omega) (by omega) (by omega)
  simp only [Nat.shiftRight_zero] at h0
  unfold F3
  rw [e, h0]
  have : (16 * (b % 16 + a / 16) + (a % 16 + a / 16)) &&& 15 = a % 16 + a / 16 := by
    rw [show (15 : Nat) = 2 ^ 4 - 1 from rfl, Nat.and_two_pow_sub_one_eq_mod]
    omega
  rw [this]
def F2 (y : Nat) : Nat := F1 2 51 (F1 1 85 y)
theorem byte_all : ∀ y, y < 256 → F1 1 85 y < 256 ∧ F2 y < 256 ∧ F2 y % 16 ≤ 4 ∧ F2 y / 16 ≤ 4 ∧ F2 y % 16 + F2 y / 16 = pc 8 y := by decide +kernel
def pcs : Nat → Nat → Nat
  | 0, _ => 0
  | n + 1, x => 256 * pcs n (x / 256) + pc 8 (x % 256)
theorem swar : ∀ n x, x < 256 ^ n → F3 (rep 15 n) (F1 2 (rep 51 n) (F1 1 (rep 85 n) x)) = pcs n x ∧ F1 2 (rep 51 n) (F1 1 (rep 85 n) x) % 16 ≤ 4
  | 0, x, h => by simp [F3, F1, rep, pcs]
  | n + 1, x, h => by
    obtain ⟨h1, h2⟩ := swar n (x / 256) (by rw [Nat.pow_succ] at h; omega)
    have hx : x = 256 * (x / 256) + x % 256 := by omega
    have hb := byte_all (x % 256) (Nat.mod_lt _ (by omega))
    have e1 : F1 1 (rep 85 (n + 1)) x = 256 * F1 1 (rep 85 n) (x / 256) + F1 1 85 (x % 256) := by
      conv => lhs; rw [hx]
      exact F1_byte 1 _ _ 85 _ (Nat.mod_lt _ (by omega)) (by omega) (by omega) (by decide)
    have e2 : F1 2 (rep 51 (n + 1)) (F1 1 (rep 85 (n + 1)) x) = 256 * F1 2 (rep 51 n) (F1 1 (rep 85 n) (x / 256)) + F2 (x % 256) := by
      rw [e1]
      exact F1_byte 2 _ _ 51 _ hb.1 (by omega) (by omega) (by decide)
    rw [e2]
    refine ⟨?_, by omega⟩
    have e3 := F3_byte (F2 (x % 256)) (F1 2 (rep 51 n) (F1 1 (rep 85 n) (x / 256))) (rep 15 n) hb.2.1 (by omega) (by omega)
    show F3 (256 * rep 15 n + 15) _ = 256 * pcs n (x / 256) + pc 8 (x % 256)
    rw [e3, h1, hb.2.2.2.2]
theorem pc8_le : ∀ y, y < 256 → pc 8 y ≤ 8 := by decide +kernel
/-- The sums at the end. -/
theorem sh1 {x y z p q : Nat} (e : x = 256 * y + p) (f : y = 256 * z + q) : x + y = 256 * (y + z) + (p + q) := by omega
theorem bd1 {x y p B C : Nat} (e : x = 256 * y + p) (h : p ≤ 8) (hy : y ≤ B) (hC : 256 * B + 8 = C) : x ≤ C := by omega
theorem dv1 {x y p : Nat} (e : x = 256 * y + p) (h : p ≤ 8) : x / 256 = y := by omega
theorem dv2 {x y z p q : Nat} (e : x = 256 * y + p) (f : y = 256 * z + q) (h : p ≤ 16) (k : q ≤ 16) : x / 65536 = z := by omega
theorem sh2 {a b c d p q : Nat} (e : a = 256 * b + p) (f : c = 256 * d + q) : a + c = 256 * (b + d) + (p + q) := by omega
theorem dv4 {a b c d e p q r s : Nat} (h1 : a = 256 * b + p) (h2 : b = 256 * c + q) (h3 : c = 256 * d + r) (h4 : d = 256 * e + s) (k1 : p ≤ 32) (k2 : q ≤ 32) (k3 : r ≤ 32) (k4 : s ≤ 32) : a / 4294967296 = e := by omega
theorem md4 {a b c d p q : Nat} (h1 : a = 256 * b + p) (h2 : c = 256 * d + q) (k1 : p ≤ 32) (k2 : q ≤ 32) : (a + c) % 128 = p + q := by omega
theorem bg1 {x a b c : Nat} (h1 : a ≤ 2260630401189896) (h2 : b ≤ 8830587504648) (h3 : c ≤ 34494482440) (h : x ≤ 578721382704613384) : x + a + (b + c) < 9223372036854775808 := by omega
theorem bg2 {x a b c d e f g : Nat} (h1 : a ≤ 2260630401189896) (h2 : b ≤ 8830587504648) (h3 : c ≤ 34494482440) (h4 : d ≤ 134744072) (h5 : e ≤ 526344) (h6 : f ≤ 2056) (h7 : g ≤ 8) (h : x ≤ 578721382704613384) : x + a + (b + c) + (d + e + (f + g)) < 9223372036854775808 := by omega
theorem add2 {a b B : Nat} (h : a ≤ B) (k : b ≤ B) (hB : B + B < 9223372036854775808) : a + b < 9223372036854775808 := by omega
theorem sums {p0 p1 p2 p3 p4 p5 p6 p7 x y1 y2 y3 y4 y5 y6 y7 : Nat} (e0 : x = 256 * y1 + p0) (e1 : y1 = 256 * y2 + p1) (e2 : y2 = 256 * y3 + p2) (e3 : y3 = 256 * y4 + p3) (e4 : y4 = 256 * y5 + p4) (e5 : y5 = 256 * y6 + p5) (e6 : y6 = 256 * y7 + p6) (e7 : y7 = p7)
    (h0 : p0 ≤ 8) (h1 : p1 ≤ 8) (h2 : p2 ≤ 8) (h3 : p3 ≤ 8) (h4 : p4 ≤ 8) (h5 : p5 ≤ 8) (h6 : p6 ≤ 8) (h7 : p7 ≤ 8) :
    ∃ x4 x5 x6, x4 = x + x / 256 ∧ x5 = x4 + x4 / 65536 ∧ x6 = x5 + x5 / 4294967296 ∧ x4 < 9223372036854775808 ∧ x5 < 9223372036854775808 ∧ x6 < 9223372036854775808 ∧ x6 % 128 = p0 + p1 + p2 + p3 + p4 + p5 + p6 + p7 := by
  have b7 : y7 ≤ 8 := by rw [e7]; exact h7
  have e7 : y7 = 256 * 0 + p7 := by rw [e7]; simp
  have b6 := bd1 e6 h6 b7 rfl
  have b5 := bd1 e5 h5 b6 rfl
  have b4 := bd1 e4 h4 b5 rfl
  have b3 := bd1 e3 h3 b4 rfl
  have b2 := bd1 e2 h2 b3 rfl
  have b1 := bd1 e1 h1 b2 rfl
  have b0 := bd1 e0 h0 b1 rfl
  have f1 : x / 256 = y1 := dv1 e0 h0
  have k0 := sh1 e0 e1
  have k1 := sh1 e1 e2
  have k2 := sh1 e2 e3
  have k3 := sh1 e3 e4
  have k4 := sh1 e4 e5
  have k5 := sh1 e5 e6
  have k6 := sh1 e6 e7
  have q : ∀ {a b : Nat}, a ≤ 8 → b ≤ 8 → a + b ≤ 16 := fun h k => Nat.add_le_add h k
  have q2 : ∀ {a b : Nat}, a ≤ 16 → b ≤ 16 → a + b ≤ 32 := fun h k => Nat.add_le_add h k
  have f2 := dv2 k0 k1 (q h0 h1) (q h1 h2)
  have n0 := sh2 k0 k2
  have n1 := sh2 k1 k3
  have n2 := sh2 k2 k4
  have n3 := sh2 k3 k5
  have n4 := sh2 k4 k6
  have f3 := dv4 n0 n1 n2 n3 (q2 (q h0 h1) (q h2 h3)) (q2 (q h1 h2) (q h3 h4)) (q2 (q h2 h3) (q h4 h5)) (q2 (q h3 h4) (q h5 h6))
  have hz : x + y1 < 9223372036854775808 := Nat.lt_of_le_of_lt (Nat.add_le_add b0 b1) (by decide)
  have ym : y1 ≤ 2260630401189896 ∧ y2 ≤ 8830587504648 ∧ y3 ≤ 34494482440 ∧ y4 ≤ 134744072 ∧ y5 ≤ 526344 ∧ x ≤ 578721382704613384 := ⟨b1, b2, b3, b4, b5, b0⟩
  refine ⟨x + y1, x + y1 + (y2 + y3), x + y1 + (y2 + y3) + (y4 + y5 + (y6 + y7)), by rw [f1], by rw [f2], by rw [f3], hz, ?_, ?_, ?_⟩
  · exact bg1 ym.1 ym.2.1 ym.2.2.1 ym.2.2.2.2.2
  · exact bg2 ym.1 ym.2.1 ym.2.2.1 ym.2.2.2.1 ym.2.2.2.2.1 b6 b7 ym.2.2.2.2.2
  · rw [md4 n0 n4 (q2 (q h0 h1) (q h2 h3)) (q2 (q h4 h5) (q h6 h7))]
    simp only [Nat.add_assoc]
theorem reps : rep 85 8 = 6148914691236517205 ∧ rep 51 8 = 3689348814741910323 ∧ rep 15 8 = 1085102592571150095 := by decide +kernel
/-- As the library counts. -/
theorem pop64 {x : Nat} (h : x < 18446744073709551616) : ∃ x1 x2 x3 x4 x5 x6, x1 = (x >>> 1 &&& 6148914691236517205) + (x &&& 6148914691236517205) ∧ x2 = (x1 >>> 2 &&& 3689348814741910323) + (x1 &&& 3689348814741910323) ∧
    x3 = (x2 >>> 4 + x2) &&& 1085102592571150095 ∧ x4 = x3 + x3 / 256 ∧ x5 = x4 + x4 / 65536 ∧ x6 = x5 + x5 / 4294967296 ∧ x1 < 18446744073709551616 ∧ x2 < 9223372036854775808 ∧ x2 >>> 4 + x2 < 18446744073709551616 ∧ x4 < 9223372036854775808 ∧ x5 < 9223372036854775808 ∧ x6 < 9223372036854775808 ∧ x6 % 128 = (bitsOf x).length := by
  obtain ⟨hs, _⟩ := swar 8 x h
  obtain ⟨r1, r2, r3⟩ := reps
  rw [r1, r2, r3] at hs
  have b0 := pc8_le (x % 256) (Nat.mod_lt _ (by omega))
  have b1 := pc8_le (x / 256 % 256) (Nat.mod_lt _ (by omega))
  have b2 := pc8_le (x / 256 / 256 % 256) (Nat.mod_lt _ (by omega))
  have b3 := pc8_le (x / 256 / 256 / 256 % 256) (Nat.mod_lt _ (by omega))
  have b4 := pc8_le (x / 256 / 256 / 256 / 256 % 256) (Nat.mod_lt _ (by omega))
  have b5 := pc8_le (x / 256 / 256 / 256 / 256 / 256 % 256) (Nat.mod_lt _ (by omega))
  have b6 := pc8_le (x / 256 / 256 / 256 / 256 / 256 / 256 % 256) (Nat.mod_lt _ (by omega))
  have b7 := pc8_le (x / 256 / 256 / 256 / 256 / 256 / 256 / 256 % 256) (Nat.mod_lt _ (by omega))
  have hl : (bitsOf x).length = pc 8 (x % 256) + pc 8 (x / 256 % 256) + pc 8 (x / 256 / 256 % 256) + pc 8 (x / 256 / 256 / 256 % 256) + pc 8 (x / 256 / 256 / 256 / 256 % 256) + pc 8 (x / 256 / 256 / 256 / 256 / 256 % 256) + pc 8 (x / 256 / 256 / 256 / 256 / 256 / 256 % 256) + pc 8 (x / 256 / 256 / 256 / 256 / 256 / 256 / 256 % 256) := by
    have e1 : pc 64 x = pc 8 (x % 256) + pc 56 (x / 256) := pc_8 56 _
    have e2 : pc 56 (x / 256) = pc 8 (x / 256 % 256) + pc 48 (x / 256 / 256) := pc_8 48 _
    have e3 : pc 48 (x / 256 / 256) = pc 8 (x / 256 / 256 % 256) + pc 40 (x / 256 / 256 / 256) := pc_8 40 _
    have e4 : pc 40 (x / 256 / 256 / 256) = pc 8 (x / 256 / 256 / 256 % 256) + pc 32 (x / 256 / 256 / 256 / 256) := pc_8 32 _
    have e5 : pc 32 (x / 256 / 256 / 256 / 256) = pc 8 (x / 256 / 256 / 256 / 256 % 256) + pc 24 (x / 256 / 256 / 256 / 256 / 256) := pc_8 24 _
    have e6 : pc 24 (x / 256 / 256 / 256 / 256 / 256) = pc 8 (x / 256 / 256 / 256 / 256 / 256 % 256) + pc 16 (x / 256 / 256 / 256 / 256 / 256 / 256) := pc_8 16 _
    have e7 : pc 16 (x / 256 / 256 / 256 / 256 / 256 / 256) = pc 8 (x / 256 / 256 / 256 / 256 / 256 / 256 % 256) + pc 8 (x / 256 / 256 / 256 / 256 / 256 / 256 / 256) := pc_8 8 _
    have e8 : pc 8 (x / 256 / 256 / 256 / 256 / 256 / 256 / 256) = pc 8 (x / 256 / 256 / 256 / 256 / 256 / 256 / 256 % 256) := pc_8 0 _
    rw [bitsOf_pc, e1, e2, e3, e4, e5, e6, e7, e8]
    simp only [Nat.add_assoc]
  have q : ∀ n y, pcs (n + 1) y = 256 * pcs n (y / 256) + pc 8 (y % 256) := fun _ _ => rfl
  obtain ⟨x4, x5, x6, e4, e5, e6, l4, l5, l6, e7⟩ := sums (q 7 x) (q 6 _) (q 5 _) (q 4 _) (q 3 _) (q 2 _) (q 1 _) (by rw [q]; simp only [pcs, Nat.mul_zero, Nat.zero_add]) b0 b1 b2 b3 b4 b5 b6 b7
  have m1 : F1 1 6148914691236517205 x ≤ 6148914691236517205 + 6148914691236517205 := Nat.add_le_add Nat.and_le_right Nat.and_le_right
  have m2 : ∀ y, F1 2 3689348814741910323 y ≤ 3689348814741910323 + 3689348814741910323 := fun y => Nat.add_le_add Nat.and_le_right Nat.and_le_right
  have m3 := m2 (F1 1 6148914691236517205 x)
  refine ⟨_, _, pcs 8 x, x4, x5, x6, rfl, rfl, hs.symm, e4, e5, e6, ?_, ?_, ?_, l4, l5, l6, e7.trans hl.symm⟩
  · show F1 1 6148914691236517205 x < _; omega
  · show F1 2 3689348814741910323 (F1 1 6148914691236517205 x) < _; omega
  · show F1 2 3689348814741910323 (F1 1 6148914691236517205 x) >>> 4 + F1 2 3689348814741910323 (F1 1 6148914691236517205 x) < _
    rw [Nat.shiftRight_eq_div_pow]
    omega
/-! ### The key -/
def keyOf (b : Blk) : List Nat := (List.range 4).map (fun i => b.a.toNat / 2 ^ (8 * i) % 256) ++ (List.range 8).map fun i => b.w / 2 ^ (8 * i) % 256
def keyB (bs : List Blk) : List Nat := bs.flatMap keyOf
theorem keyOf_len (b : Blk) : (keyOf b).length = 12 := by simp [keyOf]
theorem keyOf_inj {x y : Blk} (hx : 0 ≤ x.a ∧ x.a < 4294967296 ∧ x.w < 18446744073709551616) (hy : 0 ≤ y.a ∧ y.a < 4294967296 ∧ y.w < 18446744073709551616) (h : keyOf x = keyOf y) : x = y := by
  have := List.append_inj h (by simp)
  obtain ⟨h1, h2⟩ := this
  simp only [List.range_succ, List.range_zero, List.map_append, List.map_nil, List.map_cons, List.nil_append, List.cons_append, List.cons.injEq, List.append_assoc, and_true] at h1 h2
  cases x; cases y
  simp only [Blk.mk.injEq] at *
  omega
theorem keyB_inj : ∀ {xs ys : List Blk}, (∀ b ∈ xs, 0 ≤ b.a ∧ b.a < 4294967296 ∧ b.w < 18446744073709551616) → (∀ b ∈ ys, 0 ≤ b.a ∧ b.a < 4294967296 ∧ b.w < 18446744073709551616) → keyB xs = keyB ys → xs = ys
  | [], [], _, _, _ => rfl
  | [], y :: ys, _, _, h => by
    have h : [] = keyOf y ++ keyB ys := h
    have := congrArg List.length h
    rw [List.length_append, keyOf_len] at this
    simp only [List.length_nil] at this
    omega
  | x :: xs, [], _, _, h => by
    have h : keyOf x ++ keyB xs = [] := h
    have := congrArg List.length h
    rw [List.length_append, keyOf_len] at this
    simp only [List.length_nil] at this
    omega
  | x :: xs, y :: ys, hx, hy, h => by
    have h : keyOf x ++ keyB xs = keyOf y ++ keyB ys := h
    obtain ⟨h1, h2⟩ := List.append_inj h (by rw [keyOf_len, keyOf_len])
    rw [keyOf_inj (hx x (by simp)) (hy y (by simp)) h1, keyB_inj (fun b hb => hx b (by simp [hb])) (fun b hb => hy b (by simp [hb])) h2]
end Go.Proofs.YtkjbkalakafnlaaDoor

/- Sets of numbers in memory: rows of blocks; what leaves all but some blocks as it was; steps that their functions need. -/
namespace Go.Proofs.YtkjbkalakafnlaaDoor
open Go.RowKit
set_option linter.unusedVariables false
set_option linter.unusedSimpArgs false
/-- All that was there is as it was, but for the blocks of rb. -/
structure Kept (rb : List Nat) (w w' : World) : Prop where
  os : w'.os = w.os
  tape : w'.tape = w.tape
  output : w'.output = w.output
  size : w.heap.size ≤ w'.heap.size
  block : ∀ k, k < w.heap.size → k ∉ rb → w'.heap[k]? = w.heap[k]?
section
variable {rb rb2 : List Nat} {w w1 w2 : World}
theorem Kept.of (h : Below w.heap.size w w1) : Kept rb w w1 := ⟨h.os, h.tape, h.output, h.size, fun k hk _ => h.block k hk⟩
theorem Kept.refl (rb : List Nat) (w : World) : Kept rb w w := Kept.of (Below.refl _ _)
theorem Kept.below_nil (h : Kept [] w w1) : Below w.heap.size w w1 := ⟨h.os, h.tape, h.output, h.size, fun k hk => h.block k hk (by simp)⟩
/-- One step more; what it writes that is new doesn't count. -/
theorem Kept.trans (h : Kept rb w w1) (k : Kept rb2 w1 w2) (hs : ∀ b ∈ rb2, b ∈ rb ∨ w.heap.size ≤ b) : Kept rb w w2 :=
  ⟨k.os.trans h.os, k.tape.trans h.tape, k.output.trans h.output, Nat.le_trans h.size k.size, fun i hi hn => (k.block i (Nat.lt_of_lt_of_le hi h.size) (fun hm => (hs i hm).elim hn (fun h3 => by omega))).trans (h.block i hi hn)⟩
theorem Kept.up (h : Kept rb w w1) (k : Below w1.heap.size w1 w2) : Kept rb w w2 := h.trans (Kept.of (rb := []) k) (by simp)
theorem Kept.put (h : Kept rb w w1) {g : Nat} {cs : List Value} {t : TypeId} (hp : Put w1 w2 g cs t) (hg : g ∈ rb ∨ w.heap.size ≤ g) : Kept rb w w2 :=
  h.trans (rb2 := [g]) ⟨hp.grown.os, hp.grown.tape, hp.grown.output, hp.grown.size, fun k hk hn => hp.grown.block k hk (by simp; intro e; subst e; exact hn (by simp))⟩ (by simpa using hg)
theorem Kept.grown {row : Option Nat} (h : Kept rb w w1) (hg : w1.grownBy w2 row) (hr : ∀ g, row = some g → g ∈ rb ∨ w.heap.size ≤ g) : Kept rb w w2 :=
  h.trans (rb2 := row.toList) ⟨hg.os, hg.tape, hg.output, hg.size, fun k hk hn => hg.block k hk (fun e => hn (by simp [← e]))⟩ (fun b hb => hr b (by simpa using hb))
theorem Kept.blk (h : Kept rb w w1) {g : Nat} {o : Obj} (hb : w.heap[g]? = some o) (hn : g ∉ rb) : w1.heap[g]? = some o := (h.block g (blk_lt hb) hn).trans hb
theorem Kept.below {w0 : World} {B : Nat} (h : Kept rb w w1) (hb : Below B w0 w) (hB : B ≤ w.heap.size) (hr : ∀ k ∈ rb, B ≤ k) : Below B w0 w1 :=
  hb.trans ⟨h.os, h.tape, h.output, h.size, fun k hk => h.block k (Nat.lt_of_lt_of_le hk hB) fun hm => by have := hr k hm; omega⟩
theorem Kept.more (h : Kept rb w w1) (hs : ∀ b ∈ rb, b ∈ rb2) : Kept rb2 w w1 := ⟨h.os, h.tape, h.output, h.size, fun k hk hn => h.block k hk (fun hm => hn (hs k hm))⟩
end
/-! ### Blocks of numbers -/
def dBlk : Dec Blk := fun _ cs b => cs = [.int .i64 b.a, .int .u64 (b.w : Int)]
theorem stays_Blk : Stays dBlk := ⟨fun _ _ _ _ _ h => h⟩
def blkC (b : Blk) : List Value := [.int .i64 b.a, .int .u64 (b.w : Int)]
def flatB (bs : List Blk) : List Value := bs.flatMap blkC
theorem flatB_len (bs : List Blk) : (flatB bs).length = bs.length * 2 := by
  induction bs with
  | nil => rfl
  | cons b bs ih =>
    have : (flatB (b :: bs)).length = 2 + (flatB bs).length := by simp [flatB, blkC]; omega
    rw [this, ih, List.length_cons]; omega
theorem flatB_app (xs ys : List Blk) : flatB (xs ++ ys) = flatB xs ++ flatB ys := by simp [flatB]
theorem flatB_one (b : Blk) : flatB [b] = blkC b := by simp [flatB]
theorem flatB_cons (b : Blk) (bs : List Blk) : flatB (b :: bs) = blkC b ++ flatB bs := by simp [flatB]
theorem flatB_take (bs : List Blk) (i : Nat) (hi : i ≤ bs.length) : (flatB bs).take (i * 2) = flatB (bs.take i) := by
  conv => lhs; rw [← List.take_append_drop i bs, flatB_app]
  rw [List.take_append_of_le_length (by rw [flatB_len, List.length_take]; omega), List.take_of_length_le (by rw [flatB_len, List.length_take]; omega)]
theorem flatB_drop (bs : List Blk) (i : Nat) (hi : i ≤ bs.length) : (flatB bs).drop (i * 2) = flatB (bs.drop i) := by
  conv => lhs; rw [← List.take_append_drop i bs, flatB_app]
  have e : (flatB (bs.take i)).length = i * 2 := by rw [flatB_len]; simp; omega
  rw [← e, List.drop_left]
theorem flatB_at (bs : List Blk) (i : Nat) (hi : i < bs.length) : ((flatB bs).drop (i * 2)).take 2 = blkC bs[i]! := by
  rw [flatB_drop bs i (by omega), getElem!_pos bs i hi, List.drop_eq_getElem_cons hi, flatB_cons]
  rfl
theorem elemsB (w : World) (bs : List Blk) : Elems 2 dBlk w (flatB bs) bs := ⟨flatB_len bs, fun i hi => flatB_at bs i hi⟩
theorem elemsB_eq {w : World} : ∀ {bs : List Blk} {flat : List Value}, Elems 2 dBlk w flat bs → flat = flatB bs
  | [], flat, h => by
    have := h.1
    simp at this
    rw [this]; rfl
  | b :: bs, flat, h => by
    have h0 := h.2 0 (by simp)
    simp only [Nat.zero_mul, List.drop_zero] at h0
    have h0 : flat.take 2 = blkC b := by simpa [dBlk, blkC] using h0
    have ht : Elems 2 dBlk w (flat.drop 2) bs := by
      refine ⟨by have := h.1; simp at this ⊢; omega, fun i hi => ?_⟩
      have := h.2 (i + 1) (by simpa using hi)
      rw [List.drop_drop]
      have e : 2 + i * 2 = (i + 1) * 2 := by omega
      rw [e]
      simpa using this
    rw [flatB_cons, ← h0, ← elemsB_eq ht, List.take_append_drop]
theorem oneB (bs : List Blk) : ∀ u ∈ flatB bs, u.oneCell' = true := by
  intro u hu
  obtain ⟨b, _, hb⟩ := List.mem_flatMap.1 hu
  simp [blkC] at hb
  rcases hb with rfl | rfl <;> rfl
theorem one_Blk : OneC dBlk := fun w cs x h u hu => by
  rw [show cs = blkC x from h] at hu
  simp [blkC] at hu
  rcases hu with rfl | rfl <;> rfl
abbrev ownsB (w : World) (base : Nat) (V : Value) (bs : List Blk) : Prop := w.ownsRow base 104 2 V bs.length (flatB bs)
theorem ownsB.row {w : World} {base : Nat} {V : Value} {bs : List Blk} (h : ownsB w base V bs) : ∃ A c, V = .slice A bs.length c ∧ bs.length ≤ c ∧ RowR 2 dBlk w A bs := row_of_own h rfl (elemsB w bs)
theorem ownsB.rowAt {w : World} {base : Nat} {A : Option Addr} {n c : Nat} {bs : List Blk} (h : ownsB w base (.slice A n c) bs) : n = bs.length ∧ bs.length ≤ c ∧ RowR 2 dBlk w A bs := by
  obtain ⟨A', c', e1, h1, h2⟩ := h.row
  injection e1 with e1 e2 e3
  subst e1 e2 e3
  exact ⟨rfl, h1, h2⟩
theorem ownsB.keep {w w1 : World} {base : Nat} {V : Value} {bs : List Blk} (h : ownsB w base V bs) (hb : ∀ b, V.ownBlock = some b → w1.heap[b]? = w.heap[b]?) : ownsB w1 base V bs := by
  refine ⟨h.1, h.2.imp id ?_⟩
  rintro ⟨g, cap, cur, h4, h5, h6, h7⟩
  refine ⟨g, cap, cur, h4, h5, ?_, h7⟩
  rw [hb g (by rw [h4]; rfl)]
  exact h6
theorem ownsB.lower {w : World} {base b' : Nat} {V : Value} {bs : List Blk} (h : ownsB w base V bs) (hb : b' ≤ base) : ownsB w b' V bs := by
  refine ⟨h.1, h.2.imp id ?_⟩
  rintro ⟨g, cap, cur, h4, h5, h6⟩
  exact ⟨g, cap, cur, h4, Nat.le_trans hb h5, h6⟩
/-- A block's two cells, where they lie. -/
theorem rowB_at {w : World} {A : Option Addr} {bs : List Blk} (h : RowR 2 dBlk w A bs) (i : Nat) (hi : i < bs.length) : ∃ ad, A = some ad ∧ cellsAt w (ad.add (i * 2)) 0 [.int .i64 bs[i]!.a, .int .u64 (bs[i]!.w : Int)] := by
  obtain ⟨ad, cs, e, _, hc, hd⟩ := row_at h i hi
  rw [show cs = _ from hd] at hc
  exact ⟨ad, e, hc⟩
/-! ### A set -/
structure PSet (base g : Nat) (w : World) (bs : List Blk) (fp : List Nat) : Prop where
  ex : ∃ V, w.heap[g]? = some (.cells #[V] 91 (0, 0)) ∧ ownsB w base V bs ∧ fp = g :: V.ownBlock.toList ∧ V.ownBlock ≠ some g
  ge : base ≤ g
  wf : WFB bs
section
variable {base g : Nat} {w w1 : World} {bs : List Blk} {fp : List Nat}
theorem PSet.lt (h : PSet base g w bs fp) : ∀ b ∈ fp, base ≤ b ∧ b < w.heap.size := by
  obtain ⟨V, h1, h2, rfl, _⟩ := h.ex
  intro b hb
  rcases List.mem_cons.1 hb with rfl | hb
  · exact ⟨h.ge, blk_lt h1⟩
  · exact h2.lt b (mem_own hb)
theorem PSet.keep (h : PSet base g w bs fp) (hb : ∀ b ∈ fp, w1.heap[b]? = w.heap[b]?) : PSet base g w1 bs fp := by
  obtain ⟨V, h1, h2, rfl, h4⟩ := h.ex
  exact ⟨⟨V, (hb g (by simp)).trans h1, h2.keep (fun b e => hb b (by simp [e])), rfl, h4⟩, h.ge, h.wf⟩
theorem PSet.up (h : PSet base g w bs fp) (hb : Below w.heap.size w w1) : PSet base g w1 bs fp := h.keep fun b hb' => hb.block b (h.lt b hb').2
theorem PSet.kept {rb : List Nat} (h : PSet base g w bs fp) (hk : Kept rb w w1) (hd : ∀ b ∈ fp, b ∉ rb) : PSet base g w1 bs fp := h.keep fun b hb' => hk.block b (h.lt b hb').2 (hd b hb')
theorem PSet.lower {b' : Nat} (h : PSet base g w bs fp) (hb : b' ≤ base) : PSet b' g w bs fp := by
  obtain ⟨V, h1, h2, h3, h4⟩ := h.ex
  exact ⟨⟨V, h1, h2.lower hb, h3, h4⟩, Nat.le_trans hb h.ge, h.wf⟩
end
/-! ### Steps -/
section
variable {P : Program} {T : Nat → Option TI} {n : Nat} {Q : Post} {F : Fm} {w : World} {ops : Array Oper} {rest : List Oper} {o : Oper} {K : Fm → Prop} {C : World → Prop}
/-- A function of two results. -/
theorem fin2 {fn : Func} {R : Ending → World → Prop} {s t : Tmp} {u v : Value} (hr : fn.results = #[.tmp s, .tmp t]) (hu : opn (F s) = some u) (hv : opn (F t) = some v) (h : R (.returned (.tuple #[u, v])) w) : Fin P fn R F w := by
  rw [opn_eq] at hu hv
  have hu := Option.some.inj hu
  have hv := Option.some.inj hv
  unfold Fin retQ
  intro tmps ht
  refine ⟨.tuple #[u, v], ?_, h⟩
  rw [results_tmp2 hr tmps P w, ht s, ht t, hu, hv]
def arrT (T : Nat → Option TI) (t e s len : Nat) : Bool := match T t, T e with
  | some ⟨.array l e', _, _, _⟩, some i => Nat.beq e' e && Nat.beq i.size s && Nat.beq l len
  | _, _ => false
theorem wl_XA (hT : TabOk P T) (e s len : Nat) {t : TypeId} {x ix : Operand} {a : Addr} {ki : IntKind} {i : Nat} (hop : o.op = .indexAddr t x ix) (hx : ev F x = .pointer (some a)) (hi : ev F ix = .int ki i) (h1 : arrT T t e s len = true) (hg : o.guard = none) {d : Nat} (hd : o.dst = some d) (hn : Nat.blt d n = true)
    (hl : i < len) (k : wl P n ops rest Q (upd F d (.pointer (some (a.add (i * s))))) w) : wl P n ops (o :: rest) Q F w := by
  refine wl_val hg hd hn ?_ k
  unfold arrT at h1
  split at h1
  · rename_i l e' sz by_ z i2 e1 e2
    simp only [Bool.and_eq_true] at h1
    have h2 := Nat.eq_of_beq_eq_true h1.1.1
    have h3 := Nat.eq_of_beq_eq_true h1.1.2
    have h4 := Nat.eq_of_beq_eq_true h1.2
    subst h2 h3 h4
    have hu := T_u hT e1
    have hs := run_size (w := w) hT e2
    simp [execOp, hop, hx, hi, Instr.indexAt, asIntOf, run_und hu, hs, hl, Instr.sureAddr]
  · cases h1
/-- append(v, make(.., m)...), where there is no room. -/
theorem wl_apz (hT : TabOk P T) (e s b : Nat) {t tn : TypeId} {kn : IntKind} {c : Call} {x y : Operand} {g sLen sCap m : Nat} {mi : Int} {i : TI} {olds z : List Value} {cur : List Value} {t' : TypeId} (hop : o.op = .call c) (hcal : c.callee = .builtin .append) (hargs : c.args.toList = [x, y]) (htys : c.argTypes.toList = [t, tn])
    (hx : ev F x = .slice (some ⟨g, 0, none⟩) sLen sCap) (hmi : mi = (m : Int)) (hy : ev F y = .int .i64 mi) (h1 : appT T t e s b = true) (htn : P.underlying tn = some (.int kn)) (hi : T e = some i) (hz : i.zero.cells = z.toArray) (hs0 : Nat.blt 0 s = true) (hg : o.guard = none) {d : Nat} (hd : o.dst = some d) (hn : Nat.blt d n = true)
    (hb : w.heap[g]? = some (.cells cur.toArray t' (0, 0))) (hol : olds = cur.take (sLen * s)) (hl : sLen * s ≤ cur.length) (hm0 : 0 < m) (hgr : sCap < sLen + m) (hbig : (sLen + m) * b ≤ 140737488355328) (h63 : sLen + m ≤ 9223372036854775807)
    (k : ∀ cap w1 more, New w w1 w.heap.size (olds ++ (List.replicate m z).flatten ++ more) e → sLen + m ≤ cap → cap ≤ maxLen → (olds ++ (List.replicate m z).flatten ++ more).length = cap * s → wl P n ops rest Q (upd F d (.slice (some ⟨w.heap.size, 0, none⟩) (sLen + m) cap)) w1) : wl P n ops (o :: rest) Q F w := by
  subst hmi
  obtain ⟨hu, j, z', hj, hz', hs, hby, hzs⟩ := appT_ok hT h1
  obtain ⟨j2, hj2, hz2, _, _⟩ := T_i hT hi
  rw [hj] at hj2
  cases hj2
  rw [hz'] at hz2
  cases hz2
  obtain ⟨callee, ⟨args⟩, ⟨tys⟩⟩ := c
  simp only at hcal hargs htys
  subst hcal hargs htys
  have hlen : (cur.take (sLen * s)).length = sLen * s := by simp; omega
  have hold : (Builtin.firstCells j.size sLen (.slice (some ⟨g, 0, none⟩) sLen sCap)).run P w.drew = .ok olds.toArray w.drew := by
    have := run_loadCells_list (P := P) w.drew ⟨g, 0, none⟩ olds (fun q u hu => by
      have e : w.drew.cell? ((⟨g, 0, none⟩ : Addr).add q) = w.cell? ((⟨g, 0, none⟩ : Addr).add q) := rfl
      rw [e, add_zero]
      refine cell_blk hb ?_
      rw [hol] at hu
      rw [List.getElem?_take] at hu
      split at hu
      · simpa using hu
      · cases hu)
    rw [hol, hlen] at this
    simp only [Builtin.firstCells, hs, hol]
    exact this
  have hneed : sLen + m ≤ maxLen := by simp only [maxLen]; omega
  have hfit : Builtin.nextslicecap (sLen + m) sCap * j.bytes ≤ 281474976710656 := growslice_fits hgr (by rw [hby]; exact hbig)
  have hmb : m * j.bytes ≤ 281474976710656 := by
    have : m * j.bytes ≤ (sLen + m) * b := by rw [hby]; exact Nat.mul_le_mul_right _ (by omega)
    omega
  have hr := Lib.run_append_grow_zeros (P := P) w t tn o.type e j i.zero .i64 kn hu htn hj hz' (some ⟨g, 0, none⟩) sLen sCap olds hold m hm0 (by rw [hs]; exact nblt hs0) hgr (by omega) hmb hfit
  have hzl : z.length = s := by rw [hz] at hzs; simpa using hzs
  have hc : ∀ q, Builtin.zeroCells i.zero.cells q = ((List.replicate q z).flatten).toArray := fun q => by
    rw [← zeros_eq z q]
    unfold Builtin.zeroCells
    rw [hz]
    apply Array.ext'
    simp
  rw [hc, hc] at hr
  refine wl_val hg hd hn (v := .slice (some ⟨w.heap.size, 0, none⟩) (sLen + m) (grownCap w (sLen + m) sCap e)) (w1 := w.drew.alloc (.cells (olds ++ (List.replicate m z).flatten ++ (List.replicate (grownCap w (sLen + m) sCap e - (sLen + m)) z).flatten).toArray e)) ?_ (k _ _ (List.replicate (grownCap w (sLen + m) sCap e - (sLen + m)) z).flatten ?_ (grownCap_ge ..) (grownCap_le_maxLen _ _ _ _ hneed) ?_)
  · simp only [List.append_toArray] at hr
    simp [execOp, hop, resolve, invoke, builtin, hx, hy, hr]
  · have hn2 := new_alloc w.drew (olds ++ (List.replicate m z).flatten ++ (List.replicate (grownCap w (sLen + m) sCap e - (sLen + m)) z).flatten) e
    exact ⟨hn2.at_, hn2.size, hn2.blk, ⟨hn2.below.os, hn2.below.tape, hn2.below.output, hn2.below.size, hn2.below.block⟩⟩
  · have hge := grownCap_ge w (sLen + m) sCap e
    have : grownCap w (sLen + m) sCap e = sLen + m + (grownCap w (sLen + m) sCap e - (sLen + m)) := by omega
    rw [this]
    simp only [List.length_append, List.length_flatten, List.map_replicate, List.sum_replicate_nat, hol, hlen, hzl, Nat.add_mul, Nat.add_sub_cancel_left]
/-! ### nil or not -/
def ptrT (T : Nat → Option TI) (t : Nat) : Bool := match T t with
  | some ⟨.pointer _, _, _, _⟩ => true
  | _ => false
theorem pn_run (hT : TabOk P T) {t : TypeId} {x : Operand} {yt : TypeId} {A : Option Addr} (hop : o.op = .binOp .eql t x (.const (.pointer none)) yt) (hx : ev F x = .pointer A) (h1 : ptrT T t = true) : (execOp (ev F) o).run P w = .ok (.value (.bool A.isNone)) w := by
  unfold ptrT at h1
  split at h1
  · rename_i e1
    have hu := T_u hT e1
    have h2 : (Op.equal t (.pointer A) (.pointer none)).run P w = .ok A.isNone w := by
      unfold Op.equal Op.maxDepth
      rw [show (10000 : Nat) = 9999 + 1 from rfl]
      unfold Op.equalIn
      cases A <;> simp [run_und hu]
    have hy : ev F (.const (.pointer none)) = .pointer none := rfl
    simp [execOp, hop, hx, hy, eqGuard, binOp, h2]
  · cases h1
theorem wl_pnT (hT : TabOk P T) {t : TypeId} {x : Operand} {yt : TypeId} (hop : o.op = .binOp .eql t x (.const (.pointer none)) yt) (hx : ev F x = .pointer none) (h1 : ptrT T t = true) (hg : o.guard = none) {d : Nat} (hd : o.dst = some d) (hn : Nat.blt d n = true)
    (k : wl P n ops rest Q (upd F d (.bool true)) w) : wl P n ops (o :: rest) Q F w := wl_val hg hd hn (pn_run hT hop hx h1) k
theorem wl_pnF (hT : TabOk P T) {t : TypeId} {x : Operand} {yt : TypeId} {a : Addr} (hop : o.op = .binOp .eql t x (.const (.pointer none)) yt) (hx : ev F x = .pointer (some a)) (h1 : ptrT T t = true) (hg : o.guard = none) {d : Nat} (hd : o.dst = some d) (hn : Nat.blt d n = true)
    (k : wl P n ops rest Q (upd F d (.bool false)) w) : wl P n ops (o :: rest) Q F w := wl_val hg hd hn (pn_run hT hop hx h1) k
theorem pnn_run (hT : TabOk P T) {t : TypeId} {x : Operand} {yt : TypeId} {A : Option Addr} (hop : o.op = .binOp .neq t x (.const (.pointer none)) yt) (hx : ev F x = .pointer A) (h1 : ptrT T t = true) : (execOp (ev F) o).run P w = .ok (.value (.bool (!A.isNone))) w := by
  unfold ptrT at h1
  split at h1
  · rename_i e1
    have hu := T_u hT e1
    have h2 : (Op.equal t (.pointer A) (.pointer none)).run P w = .ok A.isNone w := by
      unfold Op.equal Op.maxDepth
      rw [show (10000 : Nat) = 9999 + 1 from rfl]
      unfold Op.equalIn
      cases A <;> simp [run_und hu]
    have hy : ev F (.const (.pointer none)) = .pointer none := rfl
    simp [execOp, hop, hx, hy, eqGuard, binOp, h2]
  · cases h1
theorem wl_pqT (hT : TabOk P T) {t : TypeId} {x : Operand} {yt : TypeId} (hop : o.op = .binOp .neq t x (.const (.pointer none)) yt) (hx : ev F x = .pointer none) (h1 : ptrT T t = true) (hg : o.guard = none) {d : Nat} (hd : o.dst = some d) (hn : Nat.blt d n = true)
    (k : wl P n ops rest Q (upd F d (.bool false)) w) : wl P n ops (o :: rest) Q F w := wl_val hg hd hn (pnn_run hT hop hx h1) k
theorem wl_pqF (hT : TabOk P T) {t : TypeId} {x : Operand} {yt : TypeId} {a : Addr} (hop : o.op = .binOp .neq t x (.const (.pointer none)) yt) (hx : ev F x = .pointer (some a)) (h1 : ptrT T t = true) (hg : o.guard = none) {d : Nat} (hd : o.dst = some d) (hn : Nat.blt d n = true)
    (k : wl P n ops rest Q (upd F d (.bool true)) w) : wl P n ops (o :: rest) Q F w := wl_val hg hd hn (pnn_run hT hop hx h1) k
theorem wl_snil (hT : TabOk P T) (e s : Nat) {t : TypeId} {x : Operand} {yt : TypeId} {A : Option Addr} {l c : Nat} (hop : o.op = .binOp .eql t x (.const (.slice none 0 0)) yt) (hx : ev F x = .slice A l c) (h1 : sliceT T t e s = true) (hg : o.guard = none) {d : Nat} (hd : o.dst = some d) (hn : Nat.blt d n = true)
    (k : wl P n ops rest Q (upd F d (.bool A.isNone)) w) : wl P n ops (o :: rest) Q F w := by
  refine wl_val hg hd hn ?_ k
  obtain ⟨hu, _⟩ := sliceT_ok (w := w) hT h1
  have : (Op.equal t (.slice A l c) (.slice none 0 0)).run P w = .ok A.isNone w := by
    unfold Op.equal Op.maxDepth
    rw [show (10000 : Nat) = 9999 + 1 from rfl]
    unfold Op.equalIn
    cases A <;> simp [run_und hu]
  have hy : ev F (.const (.slice none 0 0)) = .slice none 0 0 := rfl
  simp [execOp, hop, hx, hy, eqGuard, binOp, this]
/-! ### cap, cuts with their ends told, functions without a body -/
theorem wl_cap (hT : TabOk P T) (e s : Nat) {c : Call} {x : Operand} {t : TypeId} {A : Option Addr} {l cp : Nat} (hop : o.op = .call c) (hcal : c.callee = .builtin .cap) (hargs : c.args.toList = [x]) (htys : c.argTypes.toList = [t]) (hx : ev F x = .slice A l cp) (h1 : sliceT T t e s = true) (hg : o.guard = none) {d : Nat} (hd : o.dst = some d) (hn : Nat.blt d n = true)
    (k : wl P n ops rest Q (upd F d (.int .i64 cp)) w) : wl P n ops (o :: rest) Q F w := by
  refine wl_val hg hd hn ?_ k
  obtain ⟨hu, _⟩ := sliceT_ok (w := w) hT h1
  obtain ⟨callee, ⟨args⟩, ⟨tys⟩⟩ := c
  simp only at hcal hargs htys
  subst hcal hargs htys
  simp [execOp, hop, resolve, invoke, builtin, hx, Builtin.cap_, run_und hu, goInt]
theorem wl_slLr (hT : TabOk P T) (e s : Nat) {t : TypeId} {x y : Operand} {A B : Option Addr} {l c l2 c2 : Nat} {ki : IntKind} {h : Int} {hn' : Nat} (hh : h = (hn' : Int)) (hB : cutA A hn' c s = B) (hl2 : l2 = l - hn') (hc2 : c2 = c - hn') (hc : hn' ≤ l) (hop : o.op = .slice t x (some y) none none) (hx : ev F x = .slice A l c) (hy : ev F y = .int ki h) (h1 : sliceT T t e s = true) (hg : o.guard = none) {d : Nat} (hd : o.dst = some d) (hn : Nat.blt d n = true)
    (k : wl P n ops rest Q (upd F d (.slice B l2 c2)) w) : wl P n ops (o :: rest) Q F w := by
  subst hh hB hl2 hc2
  refine wl_slL hT e s hop hx hy h1 hg hd hn (by omega) (by omega) ?_
  simpa using k
theorem wq_slLr (hT : TabOk P T) (e s : Nat) {t : TypeId} {x y : Operand} {A B : Option Addr} {l c l2 c2 : Nat} {ki : IntKind} {h : Int} {hn' : Nat} (hh : h = (hn' : Int)) (hB : cutA A hn' c s = B) (hl2 : l2 = l - hn') (hc2 : c2 = c - hn') (hc : hn' ≤ l) (hop : o.op = .slice t x (some y) none none) (hx : ev F x = .slice A l c) (hy : ev F y = .int ki h) (h1 : sliceT T t e s = true) (hg : o.guard = none) {d : Nat} (hd : o.dst = some d) (hn : Nat.blt d n = true)
    (k : wq P n ops C rest K (upd F d (.slice B l2 c2))) : wq P n ops C (o :: rest) K F := by
  subst hh hB hl2 hc2
  refine wq_slL hT e s hop hx hy h1 hg hd hn (by omega) (by omega) ?_
  simpa using k
theorem wl_slHr (hT : TabOk P T) (e s : Nat) {t : TypeId} {x y : Operand} {A : Option Addr} {l c : Nat} {ki : IntKind} {h : Int} {hn' : Nat} (hh : h = (hn' : Int)) (hc : hn' ≤ c) (hop : o.op = .slice t x none (some y) none) (hx : ev F x = .slice A l c) (hy : ev F y = .int ki h) (h1 : sliceT T t e s = true) (hg : o.guard = none) {d : Nat} (hd : o.dst = some d) (hn : Nat.blt d n = true)
    (k : wl P n ops rest Q (upd F d (.slice A hn' c)) w) : wl P n ops (o :: rest) Q F w := by
  subst hh
  refine wl_slH hT e s hop hx hy h1 hg hd hn (by omega) (by omega) ?_
  simpa using k
theorem cut_in {g off i c s : Nat} (h : i < c) : cutA (some ⟨g, off, none⟩) i c s = some ⟨g, off + i * s, none⟩ := by
  unfold cutA
  rw [if_neg (by omega)]
  unfold Addr.add
  simp only [Option.map_some]
  split
  · rename_i e; rw [e]; rfl
  · rfl
theorem wl_ext {f : FuncId} {c : Call} {x : Operand} {args : List Value} {v : Value} (he : (callFunc f args.toArray).run P w = .ok (.value v) w) (hop : o.op = .call c) (hcal : c.callee = .value x) (hx : ev F x = .func (.func f) #[] #[]) (hargs : c.args.toList.map (ev F) = args) (hg : o.guard = none) {d : Nat} (hd : o.dst = some d) (hn : Nat.blt d n = true)
    (k : wl P n ops rest Q (upd F d v) w) : wl P n ops (o :: rest) Q F w := by
  refine wl_val hg hd hn ?_ k
  have : c.args.map (ev F) = args.toArray := Array.toList_inj.1 (by rw [Array.toList_map, hargs])
  simp [execOp, hop, resolve, hcal, hx, Deferred.ofValue, this, invoke, he]
end
end Go.Proofs.YtkjbkalakafnlaaDoor

/- Regions that draw their order, where several operations make blocks: each order that may be is gone through, and all come to one end. -/
namespace Go.Proofs.YtkjbkalakafnlaaDoor
open Go.RowKit
set_option linter.unusedVariables false
set_option linter.unusedSimpArgs false
section
variable {P : Program} {ops : Array Oper} {md : Region.Mode} {C : World → Prop}
def runsTo (P : Program) (o : Oper) (a : Act) (w : World) (R : Value → World → Prop) : Prop :=
  (∃ v w', (execOp a.eval o).run P w = .ok (.value v) w' ∧ R v w') ∨
  (∃ f args, (execOp a.eval o).run P w = .ok (.enter f args) w ∧ Calls P f args w fun e w' => ∃ v, e = .returned v ∧ R v w') ∨
  (∃ w', (execOp a.eval o).run P w = .ok .skip w' ∧ R undef w')
theorem runsTo.mono {o : Oper} {a : Act} {w : World} {R R' : Value → World → Prop} (h : runsTo P o a w R) (k : ∀ v w', R v w' → R' v w') : runsTo P o a w R' := by
  rcases h with ⟨v, w', h1, h2⟩ | ⟨f, args, h1, h2⟩ | ⟨w', h1, h2⟩
  · exact .inl ⟨v, w', h1, k _ _ h2⟩
  · exact .inr (.inl ⟨f, args, h1, h2.mono fun e w' ⟨v, he, h3⟩ => ⟨v, he, k _ _ h3⟩⟩)
  · exact .inr (.inr ⟨w', h1, k _ _ h2⟩)
def xUp (P : Program) (C : World → Prop) (o : Oper) (a : Act) (Φ : World → Prop) (K : (World → Prop) → Act → Prop) : Prop :=
  (∃ v, quB P o a C v ∧ K Φ (a.put o.dst v)) ∨
  (∃ Ψ : Value → World → Prop, (∀ v, Stable (Ψ v)) ∧ (∀ w, C w → Φ w → runsTo P o a w fun v w' => C w' ∧ Ψ v w') ∧ ∀ v, K (Ψ v) (a.put o.dst v))
def xOp (P : Program) (ops : Array Oper) (C : World → Prop) (i : Nat) (Φ : World → Prop) (K : (World → Prop) → Act → Prop) (a : Act) : Prop :=
  match ops[i]? with
  | none => K Φ a
  | some o => if Region.wanted o (yielded ops a.tmps) then xUp P C o a Φ K else K Φ (a.put o.dst undef)
def wpX (P : Program) (md : Region.Mode) (ops : Array Oper) (C : World → Prop) (n : Nat) (L : Array Bool → (World → Prop) → Act → Prop) : Nat → Array Bool → (World → Prop) → Act → Prop
  | 0, listed, Φ, a => L listed Φ a
  | f + 1, listed, Φ, a => Region.ready md ops listed ≠ [] ∧ ∀ i ∈ Region.ready md ops listed, i < n ∧ xOp P ops C i Φ (fun Φ' a' => wpX P md ops C n L f (listed.setIfInBounds i true) Φ' a') a
theorem xUp_mono {o : Oper} {a : Act} {Φ : World → Prop} {K K' : (World → Prop) → Act → Prop} (h : ∀ Φ a, K Φ a → K' Φ a) (hh : xUp P C o a Φ K) : xUp P C o a Φ K' := by
  rcases hh with ⟨v, h1, h2⟩ | ⟨Ψ, h1, h2, h3⟩
  · exact .inl ⟨v, h1, h _ _ h2⟩
  · exact .inr ⟨Ψ, h1, h2, fun v => h _ _ (h3 v)⟩
theorem xOp_mono {i : Nat} {a : Act} {Φ : World → Prop} {K K' : (World → Prop) → Act → Prop} (h : ∀ Φ a, K Φ a → K' Φ a) (hh : xOp P ops C i Φ K a) : xOp P ops C i Φ K' a := by
  unfold xOp at *
  split
  · rename_i ho; simp only [ho] at hh; exact h _ _ hh
  · rename_i o ho
    simp only [ho] at hh
    split
    · rename_i hw; simp only [hw, if_true] at hh; exact xUp_mono h hh
    · rename_i hw; simp only [hw] at hh; exact h _ _ hh
theorem wp_of_xUp (hC : Stable C) {o : Oper} {a : Act} {Φ : World → Prop} {K : (World → Prop) → Act → Prop} {K' : Act → World → Prop} {Q' : Exit → Act → World → Prop} {w : World} (hw : C w) (hst : Stable Φ) (hΦ : Φ w)
    (h : ∀ Φ a w', Stable Φ → C w' → Φ w' → K Φ a → K' a w') (hh : xUp P C o a Φ K) : o.wp P a w K' Q' := by
  rcases hh with ⟨v, h1, h2⟩ | ⟨Ψ, h1, h2, h3⟩
  · have h3 := h1 w hw
    unfold Oper.quietAt at h3
    unfold Oper.wp
    generalize (execOp a.eval o).run P w = r at *
    cases r with
    | ok n w' =>
      cases n <;> simp only [Oper.quietUpon] at h3 <;> simp only [Oper.upon]
      case value u =>
        obtain ⟨e1, e2⟩ := h3
        rw [e1, e2]
        exact h _ _ _ hst hw hΦ h2
      case skip =>
        obtain ⟨e1, e2⟩ := h3
        rw [e1, ← e2]
        exact h _ _ _ hst hw hΦ h2
      case enter f args =>
        obtain ⟨e1, hc⟩ := h3
        rw [e1]
        exact hc.mono fun e w'' ⟨he, hw''⟩ => by subst he; exact h _ _ _ hst (hC _ _ hw hw'') (hst _ _ hΦ hw'') h2
    | halt x w' => simp only [Oper.quietUpon] at h3
  · rcases h2 w hw hΦ with ⟨v, w', h4, h5, h6⟩ | ⟨f, args, h4, h5⟩ | ⟨w', h4, h5, h6⟩
    · unfold Oper.wp
      rw [h4]
      exact h _ _ _ (h1 v) h5 h6 (h3 v)
    · unfold Oper.wp
      rw [h4]
      refine h5.mono fun e w'' ⟨v, he, h6, h7⟩ => ?_
      subst he
      exact h _ _ _ (h1 v) h6 h7 (h3 v)
    · unfold Oper.wp
      rw [h4]
      exact h _ _ _ (h1 undef) h5 h6 (h3 undef)
theorem wpOp_of_xOp (hC : Stable C) {i : Nat} {a : Act} {Φ : World → Prop} {K : (World → Prop) → Act → Prop} {K' : Act → World → Prop} {Q' : Exit → Act → World → Prop} {w : World} (hw : C w) (hst : Stable Φ) (hΦ : Φ w)
    (h : ∀ Φ a w', Stable Φ → C w' → Φ w' → K Φ a → K' a w') (hh : xOp P ops C i Φ K a) : wpOp P ops Q' i K' a w := by
  unfold xOp at hh
  unfold wpOp
  split
  · rename_i ho; simp only [ho] at hh; exact h _ _ _ hst hw hΦ hh
  · rename_i o ho
    simp only [ho] at hh
    split
    · rename_i hwn; simp only [hwn, if_true] at hh; exact .inl (wp_of_xUp hC hw hst hΦ h hh)
    · rename_i hwn; simp only [hwn] at hh; exact h _ _ _ hst hw hΦ hh
theorem wpAny_of_X (hC : Stable C) {n g : Nat} {L : Array Bool → (World → Prop) → Act → Prop} {Q' : Exit → Act → World → Prop} (hL : ∀ listed Φ a w, C w → Φ w → L listed Φ a → wpAny P md ops Q' g listed a w) :
    ∀ (f : Nat) (listed : Array Bool) (Φ : World → Prop) (a : Act) (w : World), Stable Φ → C w → Φ w → wpX P md ops C n L f listed Φ a → wpAny P md ops Q' (f + g) listed a w
  | 0, listed, Φ, a, w, _, hw, hΦ, h => by rw [Nat.zero_add]; exact hL _ _ _ _ hw hΦ h
  | f + 1, listed, Φ, a, w, hst, hw, hΦ, h => by
    rw [show f + 1 + g = (f + g) + 1 by omega]
    exact ⟨fun h0 => absurd h0 h.1, fun i hi => wpOp_of_xOp hC hw hst hΦ (fun Φ' a' w' hst' hw' hΦ' h' => wpAny_of_X hC hL f _ Φ' a' w' hst' hw' hΦ' h') (h.2 i hi).2⟩
theorem YieldsB.xOp {i : Nat} {o : Oper} {v : Value} {a : Act} (hi : ops[i]? = some o) (hy : YieldsB P ops C o v a) {Φ : World → Prop} {K : (World → Prop) → Act → Prop} (h : K Φ (a.put o.dst v)) : xOp P ops C i Φ K a := by
  unfold Proofs.YtkjbkalakafnlaaDoor.xOp
  simp only [hi]
  rcases hy with ⟨hw, hv⟩ | ⟨hw, rfl⟩
  · simp only [hw, if_true]; exact .inl ⟨v, hv, h⟩
  · simp only [hw, Bool.false_eq_true, if_false]; exact h
theorem xOp_put {j : Nat} {oi oj : Oper} {v : Value} (hj : ops[j]? = some oj) (hap : oi.apart ops oj = true)
    (hsi : ∀ cs b, oi.op ≠ .select cs b) (hsj : ∀ cs b, oj.op ≠ .select cs b) {Φ : World → Prop} {K : (World → Prop) → Act → Prop} {a : Act}
    (hy : YieldsB P ops C oi v a) (h : xOp P ops C j Φ K (a.put oi.dst v)) :
    xOp P ops C j Φ (fun Φ' a' => YieldsB P ops C oi v a' ∧ K Φ' (a'.put oi.dst v)) a := by
  obtain ⟨h1, h2, h3⟩ := Oper.apart_spec hap
  have keep : ∀ (a : Act), YieldsB P ops C oi v a → ∀ u, YieldsB P ops C oi v (a.put oj.dst u) := fun a hy u =>
    hy.of_same (execOp_put oi hsi a oj.dst u h3) (wanted_put oi a oj.dst u h3)
  unfold Proofs.YtkjbkalakafnlaaDoor.xOp at *
  simp only [hj] at *
  rw [wanted_put oj a oi.dst v h1] at h
  split
  · rename_i hw
    simp only [hw, if_true] at h
    rcases h with ⟨u, hu, hn⟩ | ⟨Ψ, g1, g2, g3⟩
    · refine .inl ⟨u, fun w hw' => ?_, keep a hy u, by rw [← Act.put_comm a v u h2]; exact hn⟩
      have := hu w hw'
      unfold Oper.quietAt at *
      rwa [execOp_put oj hsj a oi.dst v h1] at this
    · refine .inr ⟨Ψ, g1, fun w hw' hΦ' => ?_, fun u => ⟨keep a hy u, by rw [← Act.put_comm a v u h2]; exact g3 u⟩⟩
      have := g2 w hw' hΦ'
      unfold runsTo at *
      rwa [execOp_put oj hsj a oi.dst v h1] at this
  · rename_i hw
    simp only [hw] at h
    exact ⟨keep a hy _, by rw [← Act.put_comm a v undef h2]; exact h⟩
theorem wpX_first {n i : Nat} {oi : Oper} {v : Value} {L : Array Bool → (World → Prop) → Act → Prop} (hi : ops[i]? = some oi) (hsel : ∀ (j : Nat) (o : Oper) cs b, ops[j]? = some o → o.op ≠ .select cs b)
    (hs : Region.sinkB md ops n = true) (hc : Region.chainB md ops n = true) (hn : n < ops.size) (hin : i < n)
    (hdone : ∀ listed Φ a, L listed Φ a → ∀ j ∈ Region.ready md ops listed, n ≤ j) :
    ∀ (f : Nat) (listed : Array Bool) (Φ : World → Prop) (a : Act), HeadInv md ops n listed →
      (∀ j oj, ops[j]? = some oj → j ≠ i → listed.getD j true = false → (∀ e ∈ oj.after, Region.binds md e = true → e.on ≠ i) → oi.apart ops oj = true) →
      i ∈ Region.ready md ops listed → YieldsB P ops C oi v a →
      wpX P md ops C n L f (listed.setIfInBounds i true) Φ (a.put oi.dst v) → wpX P md ops C n L (f + 1) listed Φ a := by
  intro f
  induction f with
  | zero =>
    intro listed Φ a inv _ hr hy H
    have hun := (mem_ready.1 hr).1
    refine ⟨fun h => (by rw [h] at hr; cases hr), fun j hj => ?_⟩
    have hjn : j < n := by
      rcases Nat.lt_or_ge j n with h | h
      · exact h
      · exact absurd hj (tail_waits hs hc hn inv _ i rfl hin hun j h)
    refine ⟨hjn, ?_⟩
    by_cases hji : j = i
    · subst hji; exact hy.xOp hi H
    · have := hdone _ _ _ H j (ready_mono hj hji)
      omega
  | succ f ih =>
    intro listed Φ a inv hfree hr hy H
    have hun := (mem_ready.1 hr).1
    refine ⟨fun h => (by rw [h] at hr; cases hr), fun j hj => ?_⟩
    have hjn : j < n := by
      rcases Nat.lt_or_ge j n with h | h
      · exact h
      · exact absurd hj (tail_waits hs hc hn inv _ i rfl hin hun j h)
    refine ⟨hjn, ?_⟩
    by_cases hji : j = i
    · subst hji; exact hy.xOp hi H
    · have h1 := (H.2 j (ready_mono hj hji)).2
      obtain ⟨hjun, oj, hoj, hall⟩ := mem_ready.1 hj
      have hnot : ∀ e ∈ oj.after, Region.binds md e = true → e.on ≠ i := fun e he hb heq => by
        have h1 := hall e he hb
        rw [heq, getD_both hun] at h1
        cases h1
      have h2 := xOp_put hoj (hfree j oj hoj hji hjun hnot) (fun cs b => hsel i oi cs b hi) (fun cs b => hsel j oj cs b hoj) hy h1
      have hfree' : ∀ k ok, ops[k]? = some ok → k ≠ i → (listed.setIfInBounds j true).getD k true = false →
          (∀ e ∈ ok.after, Region.binds md e = true → e.on ≠ i) → oi.apart ops ok = true := fun k ok hk hki hun hno => by
        refine hfree k ok hk hki ?_ hno
        by_cases hjk : j = k
        · subst hjk; exact hjun
        · rw [getD_set_ne true hjk] at hun; exact hun
      refine xOp_mono (fun Φ' a' h3 => ih (listed.setIfInBounds j true) Φ' a' (inv.set hj hjn) hfree' (ready_mono hr (Ne.symm hji)) h3.1 ?_) h2
      rw [Array.setIfInBounds_comm _ _ hji]
      exact h3.2

/-- The orders that may be: what is known of them without a world. -/
def exB (md : Region.Mode) (ops : Array Oper) (g n : Nat) : Nat → Array Bool → Bool
  | 0, listed => Region.seqB md ops g n listed
  | f + 1, listed => !(Region.ready md ops listed).isEmpty && (Region.ready md ops listed).all fun i => decide (i < n) && ((ops[i]?).map fun o => o.guard.isNone).getD false && exB md ops g n f (listed.setIfInBounds i true)
def exA (P : Program) (md : Region.Mode) (ops : Array Oper) (C : World → Prop) (T : Act → World → Prop) : Nat → Array Bool → Act → World → Prop
  | 0, _, a, W => T a W
  | f + 1, listed, a, W => ∀ i ∈ Region.ready md ops listed, ∀ o, ops[i]? = some o → runsTo P o a W fun v w2 => C w2 ∧ ∀ W', Below w2.heap.size w2 W' → C W' → exA P md ops C T f (listed.setIfInBounds i true) (a.put o.dst v) W'
theorem wpX_of_ex {g n : Nat} {T : Act → World → Prop} : ∀ (f : Nat) (listed : Array Bool) (Φ : World → Prop) (a : Act), exB md ops g n f listed = true → (∀ W, C W → Φ W → exA P md ops C T f listed a W) →
    wpX P md ops C n (fun listed' Φ' a' => Region.seqB md ops g n listed' = true ∧ ∀ W, C W → Φ' W → T a' W) f listed Φ a
  | 0, listed, Φ, a, hB, h => ⟨hB, h⟩
  | f + 1, listed, Φ, a, hB, h => by
    simp only [exB, Bool.and_eq_true, Bool.not_eq_true', List.isEmpty_eq_false_iff, List.all_eq_true, decide_eq_true_eq] at hB
    refine ⟨hB.1, fun i hi => ?_⟩
    obtain ⟨⟨h1, h2⟩, h3⟩ := hB.2 i hi
    refine ⟨h1, ?_⟩
    cases ho : ops[i]? with
    | none => rw [ho] at h2; simp at h2
    | some o =>
      rw [ho] at h2
      have hg : o.guard = none := by simpa using h2
      unfold Proofs.YtkjbkalakafnlaaDoor.xOp
      simp only [ho]
      rw [if_pos (by simp [Region.wanted, hg])]
      refine .inr ⟨fun v W => ∃ w2, Below w2.heap.size w2 W ∧ ∀ W', Below w2.heap.size w2 W' → C W' → exA P md ops C T f (listed.setIfInBounds i true) (a.put o.dst v) W', fun v w w' ⟨w2, h1, h2⟩ hb => ⟨w2, bup h1 hb, h2⟩, fun w hw hΦ => ?_, fun v => wpX_of_ex f _ _ _ h3 fun W hW ⟨w2, h1, h2⟩ => h2 W h1 hW⟩
      exact (h w hw hΦ i hi o ho).mono fun v w2 ⟨h4, h5⟩ => ⟨h4, w2, Below.refl _ _, h5⟩
/-- The heads that read alone, in this order, then f others in any. -/
def permB (md : Region.Mode) (ops : Array Oper) (g n f : Nat) : List Nat → Array Bool → Bool
  | [], listed => exB md ops g n f listed
  | k :: qs, listed => decide (k < n) && (Region.ready md ops listed).contains k && Region.free md ops listed k && permB md ops g n f qs (listed.setIfInBounds k true)
def setAllB : List Nat → Array Bool → Array Bool
  | [], listed => listed
  | k :: qs, listed => setAllB qs (listed.setIfInBounds k true)
def opsAt (ops : Array Oper) : List Nat → List Oper
  | [] => []
  | k :: qs => match ops[k]? with
    | some o => o :: opsAt ops qs
    | none => opsAt ops qs
theorem wpX_perm {n g f : Nat} {T : Act → World → Prop} (hsel : Region.noSelect ops = true) (hs : Region.sinkB md ops n = true) (hc : Region.chainB md ops n = true) (hn : n < ops.size) :
    ∀ (qs : List Nat) (listed : Array Bool) (Φ : World → Prop) (a : Act), HeadInv md ops n listed → permB md ops g n f qs listed = true →
    wpQB P ops C (fun a' => ∀ W, C W → Φ W → exA P md ops C T f (setAllB qs listed) a' W) (opsAt ops qs) a →
    wpX P md ops C n (fun listed' Φ' a' => Region.seqB md ops g n listed' = true ∧ ∀ W, C W → Φ' W → T a' W) (qs.length + f) listed Φ a
  | [], listed, Φ, a, inv, hB, h => by
    rw [List.length_nil, Nat.zero_add]
    exact wpX_of_ex f listed Φ a hB h
  | k :: qs, listed, Φ, a, inv, hB, h => by
    simp only [permB, Bool.and_eq_true, decide_eq_true_eq] at hB
    obtain ⟨⟨⟨hkn, hr⟩, hf⟩, hB'⟩ := hB
    have hr' : k ∈ Region.ready md ops listed := by simpa using hr
    obtain ⟨o, h0⟩ : ∃ o, ops[k]? = some o := ⟨ops[k]'(by omega), by simp⟩
    have e1 : opsAt ops (k :: qs) = o :: opsAt ops qs := by simp [opsAt, h0]
    rw [e1] at h
    have key : ∃ v, YieldsB P ops C o v a ∧ wpQB P ops C (fun a' => ∀ W, C W → Φ W → exA P md ops C T f (setAllB (k :: qs) listed) a' W) (opsAt ops qs) (a.put o.dst v) := by
      unfold wpQB at h
      by_cases hw : Region.wanted o (yielded ops a.tmps) = true
      · rw [if_pos hw] at h
        obtain ⟨v, h1, h2⟩ := h
        exact ⟨v, .inl ⟨hw, h1⟩, h2⟩
      · rw [if_neg hw] at h
        exact ⟨undef, .inr ⟨by simpa using hw, rfl⟩, h⟩
    obtain ⟨v, hy, hK⟩ := key
    have e : (k :: qs).length + f = qs.length + f + 1 := by simp; omega
    rw [e]
    exact wpX_first h0 (Region.noSelect_spec hsel) hs hc hn hkn (fun listed' Φ' a' hL => seqB_ready hL.1) (qs.length + f) listed Φ a inv (Region.free_spec h0 hf) hr' hy
      (wpX_perm hsel hs hc hn qs _ Φ _ (inv.set hr' hkn) hB' hK)
def permAll (ops : Array Oper) (qs : List Nat) (f n : Nat) : Bool :=
  Region.noSelect ops && decide (n < ops.size) && decide (qs.length + f = n) && Region.sinkB .any ops n && Region.chainB .any ops n && permB .any ops (ops.size - n) n f qs (Array.replicate ops.size false)
theorem wp_region_perm {id : Nat} {Q : Exit → Act → World → Prop} {a : Act} {w : World} {l : List Oper} (qs : List Nat) (f n : Nat) (hC : Stable C) (hm : P.follows .mixedOrders = true) (hB : permAll l.toArray qs f n = true) (hCw : C w)
    (h : wpQB P l.toArray C (fun a' => ∀ W, C W → Below w.heap.size w W → exA P .any l.toArray C (wpList P l.toArray Q (l.drop n)) f (setAllB qs (Array.replicate l.toArray.size false)) a' W) (opsAt l.toArray qs) a) : (Code.region id l.toArray true).wp P Q a w := by
  simp only [permAll, Bool.and_eq_true, decide_eq_true_eq] at hB
  obtain ⟨⟨⟨⟨⟨hsel, hn⟩, hqf⟩, hs⟩, hc⟩, hperm⟩ := hB
  have hdl : (l.drop n).length = l.toArray.size - n := by simp
  have inv0 : HeadInv .any l.toArray n (Array.replicate l.toArray.size false) :=
    ⟨by simp, fun j oj _ hl => (by rw [getD_replicate_false] at hl; cases hl), fun t _ ht => getD_in (by simpa using ht) (getD_replicate_false _ _)⟩
  have H := wpX_perm (P := P) (C := C) (md := .any) (g := l.toArray.size - n) (T := wpList P l.toArray Q (l.drop n)) hsel hs hc hn qs _ (fun W => Below w.heap.size w W) a inv0 hperm h
  refine wp_region_any hm ?_
  have hst : Stable (fun W => Below w.heap.size w W) := fun _ _ h h' => bup h h'
  have hΦ : Below w.heap.size w { w with drawn := w.drawn + 1 } := ⟨rfl, rfl, rfl, Nat.le_refl _, fun _ _ => rfl⟩
  have hw' : C { w with drawn := w.drawn + 1 } := hC _ _ hCw ⟨rfl, rfl, rfl, Nat.le_refl _, fun _ _ => rfl⟩
  have := wpAny_of_X hC (Q' := Q) (g := l.toArray.size - n) (L := fun listed' Φ' a' => Region.seqB .any l.toArray (l.toArray.size - n) n listed' = true ∧ ∀ W, C W → Φ' W → wpList P l.toArray Q (l.drop n) a' W) (fun listed Φ a' W hW hΦ hL => by
    have := wpAny_of_seq (md := .any) (Q' := Q) (l.drop n) n listed a' W (fun j => by simp [List.getElem?_drop]) (by rw [hdl]; exact hL.1) (hL.2 W hW hΦ)
    rwa [hdl] at this) _ _ (fun W => Below w.heap.size w W) a _ hst hw' hΦ H
  have e : qs.length + f + (l.toArray.size - n) = l.toArray.size := by omega
  rwa [e] at this
end
/-! ### in the frames -/
section
variable {P : Program} {T : Nat → Option TI} {n : Nat} {Q : Post} {F : Fm} {w : World} {ops : Array Oper} {rest : List Oper} {o : Oper} {K : Fm → World → Prop} {C : World → Prop}
structure wb (P : Program) (n : Nat) (o : Oper) (F : Fm) (w : World) (K : Fm → World → Prop) : Prop where
  dst : dstOk n o.dst = true
  go : (∃ v w', (execOp (ev F) o).run P w = .ok (.value v) w' ∧ K (updO F o.dst v) w') ∨
    (∃ f args, (execOp (ev F) o).run P w = .ok (.enter f args) w ∧ Calls P f args w fun e w' => ∃ v, e = .returned v ∧ K (updO F o.dst v) w') ∨
    (∃ w', (execOp (ev F) o).run P w = .ok .skip w' ∧ K (updO F o.dst undef) w')
theorem wb.runs {a : Act} (h : wb P n o F w K) (ha : Fr a n F) : runsTo P o a w fun v w' => K (updO F o.dst v) w' := by
  unfold runsTo
  rw [ha.eval]
  exact h.go
theorem wb_a (h : wa P n o F w K) : wb P n o F w K := let ⟨v, w2, h1, h2, h3⟩ := h.go; ⟨h2, .inl ⟨v, w2, h1, h3⟩⟩
theorem wb_P (hT : TabOk P T) {v : Value} (h : pureF T o.op F = some v) {d : Nat} (hd : o.dst = some d) (hn : Nat.blt d n = true) (k : K (upd F d v) w) : wb P n o F w K :=
  ⟨dst_some hd hn, .inl ⟨v, w, pure_ok hT h, by rw [hd]; exact k⟩⟩
theorem wb_val {v : Value} {w1 : World} {d : Nat} (hd : o.dst = some d) (hn : Nat.blt d n = true) (hrun : (execOp (ev F) o).run P w = .ok (.value v) w1) (k : K (upd F d v) w1) : wb P n o F w K :=
  ⟨dst_some hd hn, .inl ⟨v, w1, hrun, by rw [hd]; exact k⟩⟩
theorem wb_mk (hT : TabOk P T) (e s b : Nat) {t : TypeId} {x y : Operand} {m : Nat} {i : TI} {z : List Value} (hop : o.op = .makeSlice t x y) (hx : ev F x = .int .i64 m) (hy : ev F y = .int .i64 m) (h1 : appT T t e s b = true) (hi : T e = some i) (hz : i.zero.cells = z.toArray) {d : Nat} (hd : o.dst = some d) (hn : Nat.blt d n = true)
    (hbig : b * m ≤ 281474976710656) (h63 : m ≤ 9223372036854775807)
    (k : ∀ g w1, New w w1 g (List.replicate m z).flatten e → K (upd F d (.slice (some ⟨g, 0, none⟩) m m)) w1) : wb P n o F w K := by
  obtain ⟨hu, j, z', hj, hz', hs, hby, hzs⟩ := appT_ok hT h1
  obtain ⟨j2, hj2, hz2, _, _⟩ := T_i hT hi
  rw [hj] at hj2
  cases hj2
  rw [hz'] at hz2
  cases hz2
  refine wb_val hd hn ?_ (k _ _ (new_alloc w _ e))
  have hbi : ((j.bytes : Int) * (m : Int)) ≤ 281474976710656 := by rw [hby, ← Int.natCast_mul]; omega
  have hr := run_make (P := P) w t e j i.zero hu hj hz' .i64 .i64 m m (by omega) (by omega) hbi (by omega)
  simp only [Int.toNat_natCast] at hr
  have hc : madeCells i.zero.cells (m * j.size) = ((List.replicate m z).flatten).toArray := by
    rw [← zeros_eq z m]
    have hzl : z.length = s := by rw [hz] at hzs; simpa using hzs
    unfold madeCells
    rw [hz, hs, hzl]
    apply Array.ext'
    simp [hzl]
  rw [hc] at hr
  simp [execOp, hop, hx, hy, hr]
theorem wb_C {f : FuncId} {c : Call} {x : Operand} {args : List Value} {R : Ending → World → Prop} (hf : FnOk P f) (hc : Calls P f args.toArray w R) (hop : o.op = .call c) (hcal : c.callee = .value x) (hx : ev F x = .func (.func f) #[] #[]) (hargs : c.args.toList.map (ev F) = args) {d : Nat} (hd : o.dst = some d) (hn : Nat.blt d n = true)
    (k : ∀ e w1, R e w1 → ∃ v, e = .returned v ∧ K (upd F d v) w1) : wb P n o F w K := by
  refine ⟨dst_some hd hn, .inr (.inl ⟨f, args.toArray, ?_, hc.mono fun e w' h => by rw [hd]; exact k e w' h⟩)⟩
  have : c.args.map (ev F) = args.toArray := Array.toList_inj.1 (by rw [Array.toList_map, hargs])
  simp [execOp, hop, resolve, hcal, hx, Deferred.ofValue, this, invoke, run_callFunc hf]
def allL (p : Nat → Prop) : List Nat → Prop
  | [] => True
  | i :: l => p i ∧ allL p l
theorem allL_mem {p : Nat → Prop} : ∀ {l : List Nat}, allL p l → ∀ i ∈ l, p i
  | [], _, i, h => by cases h
  | j :: l, ⟨h1, h2⟩, i, h => by
    rcases List.mem_cons.1 h with rfl | h
    · exact h1
    · exact allL_mem h2 i h
def rdyL (l : List Oper) (listed : List Bool) : List Nat :=
  (List.range l.length).filter fun i => !(listed.getD i true) && match l[i]? with
    | some o => o.after.toList.all fun e => !Region.binds .any e || listed.getD e.on false
    | none => false
theorem rdyL_eq (l : List Oper) (listed : List Bool) : Region.ready .any l.toArray listed.toArray = rdyL l listed := by
  unfold Region.ready rdyL
  have e1 : l.toArray.size = l.length := by simp
  rw [e1]
  congr 1
  funext i
  have e2 : ∀ (d : Bool) (k : Nat), listed.toArray.getD k d = listed.getD k d := fun d k => by simp [Array.getD_eq_getD_getElem?, List.getD_eq_getElem?_getD]
  rw [e2]
  congr 1
  have e3 : l.toArray[i]? = l[i]? := by simp
  rw [e3]
  cases l[i]? with
  | none => rfl
  | some o =>
    simp only [Option.map_some, Option.getD_some]
    rw [← Array.all_toList]
    congr 1
    funext e
    rw [e2]
def setAllL : List Nat → List Bool → List Bool
  | [], listed => listed
  | k :: qs, listed => setAllL qs (listed.set k true)
theorem setAllL_eq : ∀ (qs : List Nat) (listed : List Bool), setAllB qs listed.toArray = (setAllL qs listed).toArray
  | [], _ => rfl
  | k :: qs, listed => by
    simp only [setAllB, setAllL]
    rw [← setAllL_eq qs]
    congr 1
    simp
def opF (P : Program) (n : Nat) (l : List Oper) (i : Nat) (F : Fm) (w : World) (K : Fm → World → Prop) : Prop :=
  match l[i]? with
  | some o => wb P n o F w K
  | none => True
def exF (P : Program) (n : Nat) (l : List Oper) (C : World → Prop) (T : Fm → World → Prop) : Nat → List Bool → Fm → World → Prop
  | 0, _, F, W => T F W
  | f + 1, listed, F, W => allL (fun i => opF P n l i F W fun F2 w2 => C w2 ∧ ∀ W', Below w2.heap.size w2 W' → C W' → exF P n l C T f (listed.set i true) F2 W') (rdyL l listed)
theorem exA_of {l : List Oper} {T : Fm → World → Prop} {T' : Act → World → Prop} (hT' : ∀ a F W, Fr a n F → T F W → T' a W) : ∀ (f : Nat) (listed : List Bool) (a : Act) (F : Fm) (W : World), Fr a n F → exF P n l C T f listed F W → exA P .any l.toArray C T' f listed.toArray a W
  | 0, _, a, F, W, ha, h => hT' a F W ha h
  | f + 1, listed, a, F, W, ha, h => fun i hi o ho => by
    rw [rdyL_eq] at hi
    have h1 := allL_mem h i hi
    unfold opF at h1
    have ho' : l[i]? = some o := by simpa using ho
    rw [ho'] at h1
    refine (h1.runs ha).mono fun v w2 ⟨h3, h4⟩ => ⟨h3, fun W' hW' hC' => ?_⟩
    have := exA_of hT' f _ _ _ W' (ha.put h1.dst v) (h4 W' hW' hC')
    have e : (listed.set i true).toArray = listed.toArray.setIfInBounds i true := by simp
    rwa [e] at this
def opsL (l : List Oper) : List Nat → List Oper
  | [] => []
  | k :: qs => match l[k]? with
    | some o => o :: opsL l qs
    | none => opsL l qs
theorem opsL_eq (l : List Oper) : ∀ qs, opsAt l.toArray qs = opsL l qs
  | [] => rfl
  | k :: qs => by
    have e3 : l.toArray[k]? = l[k]? := by simp
    simp only [opsAt, opsL, e3, opsL_eq l qs]
/-- qs: the heads that read alone; f: how many others come ahead of the tail, which begins at number m. -/
theorem wc_qx {id : Nat} {l : List Oper} (qs : List Nat) (f m : Nat) (hC : Stable C) (hT : TabOk P T) (hm : P.follows .mixedOrders = true) (hB : permAll l.toArray qs f m = true) (hCw : C w)
    (h : runQ P T n l.toArray C (opsL l qs) (fun F' => ∀ w1, C w1 → Below w.heap.size w w1 → exF P n l C (fun F2 W => runG P T n l.toArray (l.drop m) Q F2 W) f (setAllL qs (List.replicate l.length false)) F' w1) F) : wc P n (.region id l.toArray true) Q F w := by
  unfold wc
  intro a ha
  have hq := (run_q hT h).go a ha
  rw [← opsL_eq] at hq
  refine wp_region_perm qs f m hC hm hB hCw (wpQB_mono ?_ hq)
  rintro a' ⟨F', h2, h3⟩ w1 hw1 hb1
  have := exA_of (T' := wpList P l.toArray (lift n Q) (l.drop m)) (T := fun F2 W => runG P T n l.toArray (l.drop m) Q F2 W) (fun a F W ha h => ?_) _ _ _ _ _ h2 (h3 w1 hw1 hb1)
  · rw [← setAllL_eq] at this
    have e : (List.replicate l.length false).toArray = Array.replicate l.toArray.size false := by simp
    rwa [e] at this
  · have := run_l hT h
    unfold wl at this
    exact this _ ha
/-- The region's end is one, whatever its order was. -/
theorem wc_cutR {X : Type} (S : X → List (Nat × Value)) (R : X → World → Prop) {c : Code} (h : wc P n c ⟨fun F' w' => ∃ x', holds F' (S x') ∧ R x' w', fun _ _ => False, fun _ _ _ => False⟩ F w) (k : ∀ x G w, R x w → Q.n (upds G (S x)) w) : wc P n c Q F w :=
  wc_mono h (fun F' w' ⟨x', h1, h2⟩ => by have := k x' F' w' h2; rwa [upds_of_holds h1] at this) (fun _ _ h => h.elim) (fun _ _ _ h => h.elim)
end
end Go.Proofs.YtkjbkalakafnlaaDoor
